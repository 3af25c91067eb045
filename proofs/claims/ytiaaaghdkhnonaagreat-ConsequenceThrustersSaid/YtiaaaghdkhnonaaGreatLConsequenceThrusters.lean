/-
  The law 'dynposlaw27.ConsequenceThrusters' answers true for every input,and each argument reads behind the call as it read before. No condition.
-/
import Derived.LaidLaws
import Derived.Test.YtiaaaghdkhnonaaGreatRows
import Derived.Test.YtiaaaghdkhnonaaGreatSlW
import Derived.Test.YtiaaaghdkhnonaaGreatM1
import Derived.Test.YtiaaaghdkhnonaaGreatPl1
namespace Go.Proofs.YtiaaaghdkhnonaaGreat.consequenceThrusters
open Go.ChangeShapes Go.WideShapes Go.ChangeAt Go.RowKit Go.SL
set_option linter.unusedVariables false

theorem own:ownKnob Tryz.prog.godebug=none:=by kernel_rfl
theorem laidOut:laidOutB Tryz.prog=true:=by kernel_rfl


set_option maxRecDepth 100000 in
theorem contract (H:Type) (enc:TypeId×Value→H) (W:World) (args:Array Value) (ds gs:List (DataW H)) (before:List MemPlace)
    {base:Nat} (hval:∀ (j:Nat) t v,Tryz.f6.params[j]? = some t→args[j]? = some v→Value.okWide Tryz.prog W .any base t v)
    (hW:DataW.Whole enc Tryz.prog Tryz.f6.params.toList Rows.consequenceThrustersSpec.vars false W args.toList ds gs before) :
    Calls Tryz.prog 6 args W fun e W'=>∃ v,e = .returned v∧Rows.consequenceThrustersSpec.post enc Tryz.prog Tryz.f6 false true false false W args v W':=by
  have hW':=hW
  obtain⟨p,q,hA0,hV,rfl,hfz,hnd⟩:=hW
  have hA:DataW.TrodAll enc Tryz.prog W 0 (fun _=>true) true Tryz.f6.params.toList args.toList ds p:=hA0
  have hA1:=hA
  rw [Tryz.params6] at hA hval hA1
  obtain⟨v0,vs0,d0,ds0,p0,pp0,hargs,rfl,rfl,h0,q0⟩:=trodAll_cons hA
  obtain⟨rfl,rfl,rfl⟩:=trodAll_nil q0
  obtain rfl:args = #[v0]:=by cases args;simp_all
  obtain⟨rfl,rfl⟩:=trodVars_none hV
  obtain⟨_,_,_,rfl⟩:=okWide_slice Tryz.underlying22 (hval 0 22 v0 rfl rfl)
  obtain⟨x0,w0,r0⟩:=Reads.one (Reads.slice Tryz.underlying22 (size:=1) (by kernel_rfl) (fun _=>rfl) (Reads.i64 Tryz.underlying3)) (fun _=>rfl) rfl h0
  have hk:=k6 x0 true (consequenceThrusters_law x0)
  refine Calls.mono (dz hk ⟨fun g cells h=>by simp [globTab] at h,fun g h=>by simp [globIf] at h⟩ ⟨r0,trivial⟩) fun e W' hp=>?_
  obtain⟨he,bel⟩:=hp
  subst he
  exact⟨_,rfl,_,_,_,[],_,[],hW',trodAll_mk1 (shut_bool Tryz.underlying4 _),trodAll_below laidOut bel (by kernel_rfl) hA1,rfl,bel.frame _,fun h=>by cases h⟩

set_option maxRecDepth 100000 in
theorem lifted (os:Os) (started:os.Started) (H:Type) (enc:TypeId×Value→H) :
    ReturnsInHanded {} Tryz.checked os 6 .any (Rows.consequenceThrustersSpec.pre6 enc Tryz.prog Tryz.f6 Rows.consequenceThrustersRow.domain false) (Rows.consequenceThrustersSpec.post enc Tryz.prog Tryz.f6 false true false false):=by
  refine returnsInHanded_of_change (C:=Tryz.checked) own started (by kernel_rfl) Tryz.func6
    (ChangeSpec.witness6 (enc:=enc) (C:=Tryz.checked) false ⟨#[],#[.slice none 0 0],[]⟩ 8 (by kernel_rfl) (by kernel_rfl) (by kernel_rfl) (by kernel_rfl)) ?_
  intro W base args ds gs before hval hW _ _
  exact contract H enc W args ds gs before hval hW

theorem andT {a b:Bool} (h1:a=true) (h2:b=true):(a&&b)=true:=by rw [h1,h2];rfl
theorem j0:(Rows.consequenceThrustersRow.wf (OpenSpec.ofChange Rows.consequenceThrustersSpec))=true:=by kernel_rfl
theorem j1:(laidOutB Tryz.prog)=true:=by kernel_rfl
theorem j2:(mapsRowed Tryz.prog)=true:=by kernel_rfl
theorem j3:(Tryz.f6.params.all (Tryz.prog.readableRec ·))=true:=by kernel_rfl
theorem j4:(namedTie Tryz.prog Rows.consequenceThrustersRow.named Rows.consequenceThrustersSpec.vars)=true:=by kernel_rfl
theorem j5:((Rows.consequenceThrustersRow.stops==[]))=true:=by kernel_rfl
theorem j6:((Tryz.prog.stops==[]))=true:=by kernel_rfl
theorem j7:((Rows.consequenceThrustersRow.knobs==[]))=true:=by kernel_rfl
theorem j8:((Tryz.prog.stopKnobs==[]))=true:=by kernel_rfl
theorem j9:((Rows.consequenceThrustersRow.inPlace==Tryz.prog.inPlace 6))=true:=by kernel_rfl
theorem j10:((Rows.consequenceThrustersRow.unfollowed==Tryz.prog.unfollowed 6))=true:=by kernel_rfl
theorem j11:((Rows.consequenceThrustersRow.recurses==Tryz.prog.recurses 6))=true:=by kernel_rfl
theorem j12:((Rows.consequenceThrustersRow.named==Tryz.prog.varsNamed 6))=true:=by kernel_rfl
theorem j13:((Rows.consequenceThrustersRow.maps==(Tryz.f6.params.toList++Rows.consequenceThrustersSpec.plain.varTypes Tryz.prog).any (Tryz.prog.mapsRec ·)))=true:=by kernel_rfl
theorem j14:((Rows.consequenceThrustersRow.ifaces==(Tryz.f6.params.toList++Rows.consequenceThrustersSpec.plain.varTypes Tryz.prog).any (Tryz.prog.ifacesRec ·)))=true:=by kernel_rfl
theorem j15:((Rows.consequenceThrustersRow.mapsOut==Tryz.prog.mapsAmong Tryz.f6.resultTypes.toList))=true:=by kernel_rfl
theorem j16:((Rows.consequenceThrustersRow.loops==(Tryz.f6.params.toList++Rows.consequenceThrustersSpec.plain.varTypes Tryz.prog).any (Tryz.prog.loopsFrom ·)))=true:=by kernel_rfl
theorem j17:((Rows.consequenceThrustersRow.wideKeys==(Tryz.f6.params.toList++Rows.consequenceThrustersSpec.plain.varTypes Tryz.prog++Tryz.f6.resultTypes.toList).any (Tryz.prog.wideKeysFrom ·)))=true:=by kernel_rfl
theorem j18:(Rows.consequenceThrustersSpec.vars.all (Tryz.prog.varReadable ·))=true:=by kernel_rfl
theorem j19:(Tryz.f6.resultTypes.all (fun t=>Tryz.prog.readableRec t&&decide (t<Tryz.prog.types.size)))=true:=by kernel_rfl
theorem j20:((Rows.consequenceThrustersRow.ifacesOut==Tryz.f6.resultTypes.toList.any (Tryz.prog.ifacesRec ·)))=true:=by kernel_rfl
theorem j21:((Rows.consequenceThrustersRow.loopsOut==Tryz.f6.resultTypes.toList.any (Tryz.prog.loopsFrom ·)))=true:=by kernel_rfl
theorem j22:((Rows.consequenceThrustersRow.plainKeys==Tryz.prog.plainKeys))=true:=by kernel_rfl
theorem j23:(Rows.consequenceThrustersRow.shortTexts.isNone)=true:=by kernel_rfl
theorem j24:(Tryz.prog.stopsHeard)=true:=by kernel_rfl
theorem j25:(Tryz.prog.mayEnter)=true:=by kernel_rfl
theorem j26:((Rows.consequenceThrustersRow.lifted==Tryz.prog.liftsFinal))=true:=by kernel_rfl
theorem j27:((Tryz.prog.make==some Rows.consequenceThrustersRow.make))=true:=by kernel_rfl
theorem j28:((Rows.consequenceThrustersRow.kinds==(if Rows.consequenceThrustersRow.domain.isEmpty then [] else Tryz.f6.params.toList.map fun t=>match Tryz.prog.underlying t with | some (.int k)=>some k | _=>none)))=true:=by kernel_rfl
theorem j29:((Rows.consequenceThrustersRow.pinned==Rows.consequenceThrustersRow.pinnedBy))=true:=by kernel_rfl
theorem j30:((Rows.consequenceThrustersRow.veiled==(Tryz.f6.params.toList++Rows.consequenceThrustersSpec.plain.varTypes Tryz.prog++Tryz.f6.resultTypes.toList).any (Tryz.prog.veiledRec ·)))=true:=by kernel_rfl
theorem j31:(Rows.consequenceThrustersRow.veiledFits Tryz.prog Tryz.f6.params.toList (Tryz.f6.params.toList++Rows.consequenceThrustersSpec.plain.varTypes Tryz.prog++Tryz.f6.resultTypes.toList))=true:=by kernel_rfl
set_option maxRecDepth 100000 in
theorem closed:joinedFacts Tryz.prog 6 Tryz.f6 Rows.consequenceThrustersSpec Rows.consequenceThrustersRow=true:=by
  delta joinedFacts
  exact (andT (andT (andT (andT (andT (andT (andT (andT (andT (andT (andT (andT (andT (andT (andT (andT (andT (andT (andT (andT (andT (andT (andT (andT (andT (andT (andT (andT (andT (andT (andT j0 j1) j2) j3) j4) j5) j6) j7) j8) j9) j10) j11) j12) j13) j14) j15) j16) j17) j18) j19) j20) j21) j22) j23) j24) j25) j26) j27) j28) j29) j30) j31)
theorem wrapper:Tryz.f6.isWrapper Tryz.prog Rows.consequenceThrustersRow.wrapper Rows.consequenceThrustersRow.mainSum:=by unfold Func.isWrapper;first | (rw [if_pos (by decide +kernel)];kernel_rfl) | (rw [if_neg (by decide +kernel)];exact⟨rfl,rfl⟩)
theorem named:Tryz.prog.funcNamed Rows.consequenceThrustersRow.func=some 6:=by kernel_rfl

theorem over:Rows.consequenceThrustersRow.holds Tryz.pinned (OpenSpec.ofChange Rows.consequenceThrustersSpec):=
  OpenClaim.holds_of_wide 6 Tryz.f6 rfl rfl rfl rfl rfl rfl rfl ⟨rfl,rfl,rfl,rfl,rfl⟩ rfl rfl rfl rfl rfl named Tryz.func6 closed
    (dN (by kernel_rfl)) wrapper
    (fun os started H enc _=>lifted os started H enc)

end Go.Proofs.YtiaaaghdkhnonaaGreat.consequenceThrusters
namespace Go.Proofs.YtiaaaghdkhnonaaGreat
theorem consequenceThrusters_holds:Rows.ConsequenceThrustersSaid:=consequenceThrusters.over
end Go.Proofs.YtiaaaghdkhnonaaGreat

