/-
  The law 'dynposlaw27.ConsequenceFails' answers true for every input,and each argument reads behind the call as it read before. No condition.
-/
import Derived.LaidLaws
import Derived.Test.YtiaaaghdkhnonaaGreatRows
import Derived.Test.YtiaaaghdkhnonaaGreatSlW
import Derived.Test.YtiaaaghdkhnonaaGreatM1
import Derived.Test.YtiaaaghdkhnonaaGreatPl1
namespace Go.Proofs.YtiaaaghdkhnonaaGreat.consequenceFails
open Go.ChangeShapes Go.WideShapes Go.ChangeAt Go.RowKit Go.SL
set_option linter.unusedVariables false

theorem own:ownKnob Tryz.prog.godebug=none:=by kernel_rfl
theorem laidOut:laidOutB Tryz.prog=true:=by kernel_rfl
def a_.ok (x:a_):Prop:=((Lit.int .i64 x.Kind).wf=true)∧((Lit.int .i64 x.Number).wf=true)
theorem rd88 (W:World):Reads Tryz.prog W 88 q88 a_.ok:=
  (Reads.struct Tryz.underlying88 (by kernel_rfl) (ReadsF.cons (size:=1) rfl (by kernel_rfl) (Reads.i64 Tryz.underlying3) (ReadsF.cons (size:=1) rfl (by kernel_rfl) (Reads.i64 Tryz.underlying3) ReadsF.nil))).map q88 a_.ok (fun x=>⟨x.1,x.2.1⟩) (fun _=>rfl) (fun _ h=>⟨h.1,h.2.1⟩)

set_option maxRecDepth 100000 in
theorem contract (H:Type) (enc:TypeId×Value→H) (W:World) (args:Array Value) (ds gs:List (DataW H)) (before:List MemPlace)
    {base:Nat} (hval:∀ (j:Nat) t v,Tryz.f3.params[j]? = some t→args[j]? = some v→Value.okWide Tryz.prog W .any base t v)
    (hW:DataW.Whole enc Tryz.prog Tryz.f3.params.toList Rows.consequenceFailsSpec.vars false W args.toList ds gs before) :
    Calls Tryz.prog 3 args W fun e W'=>∃ v,e = .returned v∧Rows.consequenceFailsSpec.post enc Tryz.prog Tryz.f3 false true false false W args v W':=by
  have hW':=hW
  obtain⟨p,q,hA0,hV,rfl,hfz,hnd⟩:=hW
  have hA:DataW.TrodAll enc Tryz.prog W 0 (fun _=>true) true Tryz.f3.params.toList args.toList ds p:=hA0
  have hA1:=hA
  rw [Tryz.params3] at hA hval hA1
  obtain⟨v0,vs0,d0,ds0,p0,pp0,hargs,rfl,rfl,h0,q0⟩:=trodAll_cons hA
  obtain⟨v1,vs1,d1,ds1,p1,pp1,rfl,rfl,rfl,h1,q1⟩:=trodAll_cons q0
  obtain⟨rfl,rfl,rfl⟩:=trodAll_nil q1
  obtain rfl:args = #[v0,v1]:=by cases args;simp_all
  obtain⟨rfl,rfl⟩:=trodVars_none hV
  obtain⟨_,_,_,rfl⟩:=okWide_slice Tryz.underlying22 (hval 0 22 v0 rfl rfl)
  obtain⟨x0,w0,r0⟩:=Reads.one (Reads.slice Tryz.underlying22 (size:=1) (by kernel_rfl) (fun _=>rfl) (Reads.i64 Tryz.underlying3)) (fun _=>rfl) rfl h0
  obtain⟨_,_,_,rfl⟩:=okWide_slice Tryz.underlying23 (hval 1 23 v1 rfl rfl)
  obtain⟨x1,w1,r1⟩:=Reads.one (Reads.slice Tryz.underlying23 (size:=2) (by kernel_rfl) (fun _=>rfl) (rd88 W)) (fun _=>rfl) rfl h1
  have hk:=k3 x0 x1 true (consequenceFails_law x0 x1 w1.1)
  refine Calls.mono (dH hk ⟨fun g cells h=>by simp [globTab] at h,fun g h=>by simp [globIf] at h⟩ ⟨r0,r1,trivial⟩) fun e W' hp=>?_
  obtain⟨he,bel⟩:=hp
  subst he
  exact⟨_,rfl,_,_,_,[],_,[],hW',trodAll_mk1 (shut_bool Tryz.underlying4 _),trodAll_below laidOut bel (by kernel_rfl) hA1,rfl,bel.frame _,fun h=>by cases h⟩

set_option maxRecDepth 100000 in
theorem lifted (os:Os) (started:os.Started) (H:Type) (enc:TypeId×Value→H) :
    ReturnsInHanded {} Tryz.checked os 3 .any (Rows.consequenceFailsSpec.pre6 enc Tryz.prog Tryz.f3 Rows.consequenceFailsRow.domain false) (Rows.consequenceFailsSpec.post enc Tryz.prog Tryz.f3 false true false false):=by
  refine returnsInHanded_of_change (C:=Tryz.checked) own started (by kernel_rfl) Tryz.func3
    (ChangeSpec.witness6 (enc:=enc) (C:=Tryz.checked) false ⟨#[],#[.slice none 0 0,.slice none 0 0],[]⟩ 8 (by kernel_rfl) (by kernel_rfl) (by kernel_rfl) (by kernel_rfl)) ?_
  intro W base args ds gs before hval hW _ _
  exact contract H enc W args ds gs before hval hW

theorem andT {a b:Bool} (h1:a=true) (h2:b=true):(a&&b)=true:=by rw [h1,h2];rfl
theorem j0:(Rows.consequenceFailsRow.wf (OpenSpec.ofChange Rows.consequenceFailsSpec))=true:=by kernel_rfl
theorem j1:(laidOutB Tryz.prog)=true:=by kernel_rfl
theorem j2:(mapsRowed Tryz.prog)=true:=by kernel_rfl
theorem j3:(Tryz.f3.params.all (Tryz.prog.readableRec ·))=true:=by kernel_rfl
theorem j4:(namedTie Tryz.prog Rows.consequenceFailsRow.named Rows.consequenceFailsSpec.vars)=true:=by kernel_rfl
theorem j5:((Rows.consequenceFailsRow.stops==[]))=true:=by kernel_rfl
theorem j6:((Tryz.prog.stops==[]))=true:=by kernel_rfl
theorem j7:((Rows.consequenceFailsRow.knobs==[]))=true:=by kernel_rfl
theorem j8:((Tryz.prog.stopKnobs==[]))=true:=by kernel_rfl
theorem j9:((Rows.consequenceFailsRow.inPlace==Tryz.prog.inPlace 3))=true:=by kernel_rfl
theorem j10:((Rows.consequenceFailsRow.unfollowed==Tryz.prog.unfollowed 3))=true:=by kernel_rfl
theorem j11:((Rows.consequenceFailsRow.recurses==Tryz.prog.recurses 3))=true:=by kernel_rfl
theorem j12:((Rows.consequenceFailsRow.named==Tryz.prog.varsNamed 3))=true:=by kernel_rfl
theorem j13:((Rows.consequenceFailsRow.maps==(Tryz.f3.params.toList++Rows.consequenceFailsSpec.plain.varTypes Tryz.prog).any (Tryz.prog.mapsRec ·)))=true:=by kernel_rfl
theorem j14:((Rows.consequenceFailsRow.ifaces==(Tryz.f3.params.toList++Rows.consequenceFailsSpec.plain.varTypes Tryz.prog).any (Tryz.prog.ifacesRec ·)))=true:=by kernel_rfl
theorem j15:((Rows.consequenceFailsRow.mapsOut==Tryz.prog.mapsAmong Tryz.f3.resultTypes.toList))=true:=by kernel_rfl
theorem j16:((Rows.consequenceFailsRow.loops==(Tryz.f3.params.toList++Rows.consequenceFailsSpec.plain.varTypes Tryz.prog).any (Tryz.prog.loopsFrom ·)))=true:=by kernel_rfl
theorem j17:((Rows.consequenceFailsRow.wideKeys==(Tryz.f3.params.toList++Rows.consequenceFailsSpec.plain.varTypes Tryz.prog++Tryz.f3.resultTypes.toList).any (Tryz.prog.wideKeysFrom ·)))=true:=by kernel_rfl
theorem j18:(Rows.consequenceFailsSpec.vars.all (Tryz.prog.varReadable ·))=true:=by kernel_rfl
theorem j19:(Tryz.f3.resultTypes.all (fun t=>Tryz.prog.readableRec t&&decide (t<Tryz.prog.types.size)))=true:=by kernel_rfl
theorem j20:((Rows.consequenceFailsRow.ifacesOut==Tryz.f3.resultTypes.toList.any (Tryz.prog.ifacesRec ·)))=true:=by kernel_rfl
theorem j21:((Rows.consequenceFailsRow.loopsOut==Tryz.f3.resultTypes.toList.any (Tryz.prog.loopsFrom ·)))=true:=by kernel_rfl
theorem j22:((Rows.consequenceFailsRow.plainKeys==Tryz.prog.plainKeys))=true:=by kernel_rfl
theorem j23:(Rows.consequenceFailsRow.shortTexts.isNone)=true:=by kernel_rfl
theorem j24:(Tryz.prog.stopsHeard)=true:=by kernel_rfl
theorem j25:(Tryz.prog.mayEnter)=true:=by kernel_rfl
theorem j26:((Rows.consequenceFailsRow.lifted==Tryz.prog.liftsFinal))=true:=by kernel_rfl
theorem j27:((Tryz.prog.make==some Rows.consequenceFailsRow.make))=true:=by kernel_rfl
theorem j28:((Rows.consequenceFailsRow.kinds==(if Rows.consequenceFailsRow.domain.isEmpty then [] else Tryz.f3.params.toList.map fun t=>match Tryz.prog.underlying t with | some (.int k)=>some k | _=>none)))=true:=by kernel_rfl
theorem j29:((Rows.consequenceFailsRow.pinned==Rows.consequenceFailsRow.pinnedBy))=true:=by kernel_rfl
theorem j30:((Rows.consequenceFailsRow.veiled==(Tryz.f3.params.toList++Rows.consequenceFailsSpec.plain.varTypes Tryz.prog++Tryz.f3.resultTypes.toList).any (Tryz.prog.veiledRec ·)))=true:=by kernel_rfl
theorem j31:(Rows.consequenceFailsRow.veiledFits Tryz.prog Tryz.f3.params.toList (Tryz.f3.params.toList++Rows.consequenceFailsSpec.plain.varTypes Tryz.prog++Tryz.f3.resultTypes.toList))=true:=by kernel_rfl
set_option maxRecDepth 100000 in
theorem closed:joinedFacts Tryz.prog 3 Tryz.f3 Rows.consequenceFailsSpec Rows.consequenceFailsRow=true:=by
  delta joinedFacts
  exact (andT (andT (andT (andT (andT (andT (andT (andT (andT (andT (andT (andT (andT (andT (andT (andT (andT (andT (andT (andT (andT (andT (andT (andT (andT (andT (andT (andT (andT (andT (andT j0 j1) j2) j3) j4) j5) j6) j7) j8) j9) j10) j11) j12) j13) j14) j15) j16) j17) j18) j19) j20) j21) j22) j23) j24) j25) j26) j27) j28) j29) j30) j31)
theorem wrapper:Tryz.f3.isWrapper Tryz.prog Rows.consequenceFailsRow.wrapper Rows.consequenceFailsRow.mainSum:=by unfold Func.isWrapper;first | (rw [eC (by decide +kernel)];kernel_rfl) | (rw [eF (by decide +kernel)];exact⟨rfl,rfl⟩)
theorem named:Tryz.prog.funcNamed Rows.consequenceFailsRow.func=some 3:=by kernel_rfl

theorem over:Rows.consequenceFailsRow.holds Tryz.pinned (OpenSpec.ofChange Rows.consequenceFailsSpec):=
  OpenClaim.holds_of_wide 3 Tryz.f3 rfl rfl rfl rfl rfl rfl rfl ⟨rfl,rfl,rfl,rfl,rfl⟩ rfl rfl rfl rfl rfl named Tryz.func3 closed
    (dX (by kernel_rfl)) wrapper
    (fun os started H enc _=>lifted os started H enc)

end Go.Proofs.YtiaaaghdkhnonaaGreat.consequenceFails
namespace Go.Proofs.YtiaaaghdkhnonaaGreat
theorem consequenceFails_holds:Rows.ConsequenceFailsSaid:=consequenceFails.over
end Go.Proofs.YtiaaaghdkhnonaaGreat

