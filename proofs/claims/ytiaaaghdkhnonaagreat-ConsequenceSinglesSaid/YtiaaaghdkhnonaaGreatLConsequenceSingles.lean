/-
  The law 'dynposlaw27.ConsequenceSingles' answers true for every input,and each argument reads behind the call as it read before. No condition.
-/
import Derived.LaidLaws
import Derived.Test.YtiaaaghdkhnonaaGreatRows
import Derived.Test.YtiaaaghdkhnonaaGreatSlW
import Derived.Test.YtiaaaghdkhnonaaGreatM1
import Derived.Test.YtiaaaghdkhnonaaGreatPl1
namespace Go.Proofs.YtiaaaghdkhnonaaGreat.consequenceSingles
open Go.ChangeShapes Go.WideShapes Go.ChangeAt Go.RowKit Go.SL
set_option linter.unusedVariables false

theorem own:ownKnob Tryz.prog.godebug=none:=by kernel_rfl
theorem laidOut:laidOutB Tryz.prog=true:=by kernel_rfl


set_option maxRecDepth 100000 in
theorem contract (H:Type) (enc:TypeId×Value→H) (W:World) (args:Array Value) (ds gs:List (DataW H)) (before:List MemPlace)
    {base:Nat} (hval:∀ (j:Nat) t v,Tryz.f4.params[j]? = some t→args[j]? = some v→Value.okWide Tryz.prog W .any base t v)
    (hW:DataW.Whole enc Tryz.prog Tryz.f4.params.toList Rows.consequenceSinglesSpec.vars false W args.toList ds gs before) :
    Calls Tryz.prog 4 args W fun e W'=>∃ v,e = .returned v∧Rows.consequenceSinglesSpec.post enc Tryz.prog Tryz.f4 false true false false W args v W':=by
  have hW':=hW
  obtain⟨p,q,hA0,hV,rfl,hfz,hnd⟩:=hW
  have hA:DataW.TrodAll enc Tryz.prog W 0 (fun _=>true) true Tryz.f4.params.toList args.toList ds p:=hA0
  have hA1:=hA
  rw [Tryz.params4] at hA hval hA1
  obtain⟨v0,vs0,d0,ds0,p0,pp0,hargs,rfl,rfl,h0,q0⟩:=trodAll_cons hA
  obtain⟨rfl,rfl,rfl⟩:=trodAll_nil q0
  obtain rfl:args = #[v0]:=by cases args;simp_all
  obtain⟨rfl,rfl⟩:=trodVars_none hV
  obtain⟨_,_,_,rfl⟩:=okWide_slice Tryz.underlying22 (hval 0 22 v0 rfl rfl)
  obtain⟨x0,w0,r0⟩:=Reads.one (Reads.slice Tryz.underlying22 (size:=1) (by kernel_rfl) (fun _=>rfl) (Reads.i64 Tryz.underlying3)) (fun _=>rfl) rfl h0
  have hk:=k4 x0 true (consequenceSingles_law x0)
  refine Calls.mono (dE hk ⟨fun g cells h=>by simp [globTab] at h,fun g h=>by simp [globIf] at h⟩ ⟨r0,trivial⟩) fun e W' hp=>?_
  obtain⟨he,bel⟩:=hp
  subst he
  exact⟨_,rfl,_,_,_,[],_,[],hW',trodAll_mk1 (shut_bool Tryz.underlying4 _),trodAll_below laidOut bel (by kernel_rfl) hA1,rfl,bel.frame _,fun h=>by cases h⟩

set_option maxRecDepth 100000 in
theorem lifted (os:Os) (started:os.Started) (H:Type) (enc:TypeId×Value→H) :
    ReturnsInHanded {} Tryz.checked os 4 .any (Rows.consequenceSinglesSpec.pre6 enc Tryz.prog Tryz.f4 Rows.consequenceSinglesRow.domain false) (Rows.consequenceSinglesSpec.post enc Tryz.prog Tryz.f4 false true false false):=by
  refine returnsInHanded_of_change (C:=Tryz.checked) own started (by kernel_rfl) Tryz.func4
    (ChangeSpec.witness6 (enc:=enc) (C:=Tryz.checked) false ⟨#[],#[.slice none 0 0],[]⟩ 8 (by kernel_rfl) (by kernel_rfl) (by kernel_rfl) (by kernel_rfl)) ?_
  intro W base args ds gs before hval hW _ _
  exact contract H enc W args ds gs before hval hW

theorem andT {a b:Bool} (h1:a=true) (h2:b=true):(a&&b)=true:=by rw [h1,h2];rfl
theorem j0:(Rows.consequenceSinglesRow.wf (OpenSpec.ofChange Rows.consequenceSinglesSpec))=true:=by kernel_rfl
theorem j1:(laidOutB Tryz.prog)=true:=by kernel_rfl
theorem j2:(mapsRowed Tryz.prog)=true:=by kernel_rfl
theorem j3:(Tryz.f4.params.all (Tryz.prog.readableRec ·))=true:=by kernel_rfl
theorem j4:(namedTie Tryz.prog Rows.consequenceSinglesRow.named Rows.consequenceSinglesSpec.vars)=true:=by kernel_rfl
theorem j5:((Rows.consequenceSinglesRow.stops==[]))=true:=by kernel_rfl
theorem j6:((Tryz.prog.stops==[]))=true:=by kernel_rfl
theorem j7:((Rows.consequenceSinglesRow.knobs==[]))=true:=by kernel_rfl
theorem j8:((Tryz.prog.stopKnobs==[]))=true:=by kernel_rfl
theorem j9:((Rows.consequenceSinglesRow.inPlace==Tryz.prog.inPlace 4))=true:=by kernel_rfl
theorem j10:((Rows.consequenceSinglesRow.unfollowed==Tryz.prog.unfollowed 4))=true:=by kernel_rfl
theorem j11:((Rows.consequenceSinglesRow.recurses==Tryz.prog.recurses 4))=true:=by kernel_rfl
theorem j12:((Rows.consequenceSinglesRow.named==Tryz.prog.varsNamed 4))=true:=by kernel_rfl
theorem j13:((Rows.consequenceSinglesRow.maps==(Tryz.f4.params.toList++Rows.consequenceSinglesSpec.plain.varTypes Tryz.prog).any (Tryz.prog.mapsRec ·)))=true:=by kernel_rfl
theorem j14:((Rows.consequenceSinglesRow.ifaces==(Tryz.f4.params.toList++Rows.consequenceSinglesSpec.plain.varTypes Tryz.prog).any (Tryz.prog.ifacesRec ·)))=true:=by kernel_rfl
theorem j15:((Rows.consequenceSinglesRow.mapsOut==Tryz.prog.mapsAmong Tryz.f4.resultTypes.toList))=true:=by kernel_rfl
theorem j16:((Rows.consequenceSinglesRow.loops==(Tryz.f4.params.toList++Rows.consequenceSinglesSpec.plain.varTypes Tryz.prog).any (Tryz.prog.loopsFrom ·)))=true:=by kernel_rfl
theorem j17:((Rows.consequenceSinglesRow.wideKeys==(Tryz.f4.params.toList++Rows.consequenceSinglesSpec.plain.varTypes Tryz.prog++Tryz.f4.resultTypes.toList).any (Tryz.prog.wideKeysFrom ·)))=true:=by kernel_rfl
theorem j18:(Rows.consequenceSinglesSpec.vars.all (Tryz.prog.varReadable ·))=true:=by kernel_rfl
theorem j19:(Tryz.f4.resultTypes.all (fun t=>Tryz.prog.readableRec t&&decide (t<Tryz.prog.types.size)))=true:=by kernel_rfl
theorem j20:((Rows.consequenceSinglesRow.ifacesOut==Tryz.f4.resultTypes.toList.any (Tryz.prog.ifacesRec ·)))=true:=by kernel_rfl
theorem j21:((Rows.consequenceSinglesRow.loopsOut==Tryz.f4.resultTypes.toList.any (Tryz.prog.loopsFrom ·)))=true:=by kernel_rfl
theorem j22:((Rows.consequenceSinglesRow.plainKeys==Tryz.prog.plainKeys))=true:=by kernel_rfl
theorem j23:(Rows.consequenceSinglesRow.shortTexts.isNone)=true:=by kernel_rfl
theorem j24:(Tryz.prog.stopsHeard)=true:=by kernel_rfl
theorem j25:(Tryz.prog.mayEnter)=true:=by kernel_rfl
theorem j26:((Rows.consequenceSinglesRow.lifted==Tryz.prog.liftsFinal))=true:=by kernel_rfl
theorem j27:((Tryz.prog.make==some Rows.consequenceSinglesRow.make))=true:=by kernel_rfl
theorem j28:((Rows.consequenceSinglesRow.kinds==(if Rows.consequenceSinglesRow.domain.isEmpty then [] else Tryz.f4.params.toList.map fun t=>match Tryz.prog.underlying t with | some (.int k)=>some k | _=>none)))=true:=by kernel_rfl
theorem j29:((Rows.consequenceSinglesRow.pinned==Rows.consequenceSinglesRow.pinnedBy))=true:=by kernel_rfl
theorem j30:((Rows.consequenceSinglesRow.veiled==(Tryz.f4.params.toList++Rows.consequenceSinglesSpec.plain.varTypes Tryz.prog++Tryz.f4.resultTypes.toList).any (Tryz.prog.veiledRec ·)))=true:=by kernel_rfl
theorem j31:(Rows.consequenceSinglesRow.veiledFits Tryz.prog Tryz.f4.params.toList (Tryz.f4.params.toList++Rows.consequenceSinglesSpec.plain.varTypes Tryz.prog++Tryz.f4.resultTypes.toList))=true:=by kernel_rfl
set_option maxRecDepth 100000 in
theorem closed:joinedFacts Tryz.prog 4 Tryz.f4 Rows.consequenceSinglesSpec Rows.consequenceSinglesRow=true:=by
  delta joinedFacts
  exact (andT (andT (andT (andT (andT (andT (andT (andT (andT (andT (andT (andT (andT (andT (andT (andT (andT (andT (andT (andT (andT (andT (andT (andT (andT (andT (andT (andT (andT (andT (andT j0 j1) j2) j3) j4) j5) j6) j7) j8) j9) j10) j11) j12) j13) j14) j15) j16) j17) j18) j19) j20) j21) j22) j23) j24) j25) j26) j27) j28) j29) j30) j31)
theorem wrapper:Tryz.f4.isWrapper Tryz.prog Rows.consequenceSinglesRow.wrapper Rows.consequenceSinglesRow.mainSum:=by unfold Func.isWrapper;first | (rw [if_pos (by decide +kernel)];kernel_rfl) | (rw [if_neg (by decide +kernel)];exact⟨rfl,rfl⟩)
theorem named:Tryz.prog.funcNamed Rows.consequenceSinglesRow.func=some 4:=by kernel_rfl

theorem over:Rows.consequenceSinglesRow.holds Tryz.pinned (OpenSpec.ofChange Rows.consequenceSinglesSpec):=
  OpenClaim.holds_of_wide 4 Tryz.f4 rfl rfl rfl rfl rfl rfl rfl ⟨rfl,rfl,rfl,rfl,rfl⟩ rfl rfl rfl rfl rfl named Tryz.func4 closed
    (dV (by kernel_rfl)) wrapper
    (fun os started H enc _=>lifted os started H enc)

end Go.Proofs.YtiaaaghdkhnonaaGreat.consequenceSingles
namespace Go.Proofs.YtiaaaghdkhnonaaGreat
theorem consequenceSingles_holds:Rows.ConsequenceSinglesSaid:=consequenceSingles.over
end Go.Proofs.YtiaaaghdkhnonaaGreat

