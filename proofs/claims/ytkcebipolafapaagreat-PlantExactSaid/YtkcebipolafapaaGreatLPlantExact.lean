/-
  The law 'dynposlaw21.PlantExact' answers true for every input,and each argument reads behind the call as it read before. No condition.
-/
import Derived.LaidLaws
import Derived.Test.YtkcebipolafapaaGreatRows
import Derived.Test.YtkcebipolafapaaGreatSlW
import Derived.Test.YtkcebipolafapaaGreatM1
import Derived.Test.YtkcebipolafapaaGreatPl2
namespace Go.Proofs.YtkcebipolafapaaGreat.plantExact
open Go.ChangeShapes Go.WideShapes Go.ChangeAt Go.RowKit Go.SL
set_option linter.unusedVariables false

theorem own:ownKnob Tryz.prog.godebug=none:=by kernel_rfl
theorem laidOut:laidOutB Tryz.prog=true:=by kernel_rfl
def dU.ok (x:dU):Prop:=((Lit.int .i64 x.Kind).wf=true)∧((Lit.int .i64 x.A).wf=true)∧((Lit.int .i64 x.B).wf=true)
theorem rd141 (W:World):Reads Tryz.prog W 141 q141 dU.ok:=
  (Reads.struct Tryz.underlying141 (by kernel_rfl) (ReadsF.cons (size:=1) rfl (by kernel_rfl) (Reads.i64 Tryz.underlying3) (ReadsF.cons (size:=1) rfl (by kernel_rfl) (Reads.i64 Tryz.underlying3) (ReadsF.cons (size:=1) rfl (by kernel_rfl) (Reads.i64 Tryz.underlying3) ReadsF.nil)))).map q141 dU.ok (fun x=>⟨x.1,x.2.1,x.2.2.1⟩) (fun _=>rfl) (fun _ h=>⟨h.1,h.2.1,h.2.2.1⟩)
def eh.ok (x:eh):Prop:=((Lit.int .i64 x.Rating).wf=true)∧((Lit.int .i64 x.Least).wf=true)∧((Lit.int .i64 x.Start).wf=true)
theorem rd143 (W:World):Reads Tryz.prog W 143 q143 eh.ok:=
  (Reads.struct Tryz.underlying143 (by kernel_rfl) (ReadsF.cons (size:=1) rfl (by kernel_rfl) (Reads.i64 Tryz.underlying3) (ReadsF.cons (size:=1) rfl (by kernel_rfl) (Reads.i64 Tryz.underlying3) (ReadsF.cons (size:=1) rfl (by kernel_rfl) (Reads.i64 Tryz.underlying3) ReadsF.nil)))).map q143 eh.ok (fun x=>⟨x.1,x.2.1,x.2.2.1⟩) (fun _=>rfl) (fun _ h=>⟨h.1,h.2.1,h.2.2.1⟩)
def dV.ok (x:dV):Prop:=((Lit.int .i64 x.Load).wf=true)∧((Lit.int .i64 x.Least).wf=true)∧((Lit.int .i64 x.Preference).wf=true)∧((Lit.int .i64 x.Thruster).wf=true)∧((∀ a,a∈x.Needs→(Lit.int .i64 a).wf=true)∧x.Needs.length≤maxLen)
theorem rd81 (W:World):Reads Tryz.prog W 81 q81 dV.ok:=
  (Reads.struct Tryz.underlying81 (by kernel_rfl) (ReadsF.cons (size:=1) rfl (by kernel_rfl) (Reads.i64 Tryz.underlying3) (ReadsF.cons (size:=1) rfl (by kernel_rfl) (Reads.i64 Tryz.underlying3) (ReadsF.cons (size:=1) rfl (by kernel_rfl) (Reads.i64 Tryz.underlying3) (ReadsF.cons (size:=1) rfl (by kernel_rfl) (Reads.i64 Tryz.underlying3) (ReadsF.cons (size:=1) rfl (by kernel_rfl) (Reads.slice Tryz.underlying22 (size:=1) (by kernel_rfl) (fun _=>rfl) (Reads.i64 Tryz.underlying3)) ReadsF.nil)))))).map q81 dV.ok (fun x=>⟨x.1,x.2.1,x.2.2.1,x.2.2.2.1,x.2.2.2.2.1⟩) (fun _=>rfl) (fun _ h=>⟨h.1,h.2.1,h.2.2.1,h.2.2.2.1,h.2.2.2.2.1⟩)
def c_.ok (x:c_):Prop:=((Lit.int .i64 x.Buses).wf=true)∧((∀ a,a∈x.Breakers→dU.ok a)∧x.Breakers.length≤maxLen)∧((∀ a,a∈x.Sources→eh.ok a)∧x.Sources.length≤maxLen)∧((∀ a,a∈x.Consumers→dV.ok a)∧x.Consumers.length≤maxLen)∧((Lit.int .i64 x.Phase).wf=true)∧((Lit.int .i64 x.Frequency).wf=true)
theorem rd27 (W:World):Reads Tryz.prog W 27 q27 c_.ok:=
  (Reads.struct Tryz.underlying27 (by kernel_rfl) (ReadsF.cons (size:=1) rfl (by kernel_rfl) (Reads.i64 Tryz.underlying3) (ReadsF.cons (size:=1) rfl (by kernel_rfl) (Reads.slice Tryz.underlying23 (size:=3) (by kernel_rfl) (fun _=>rfl) (rd141 W)) (ReadsF.cons (size:=1) rfl (by kernel_rfl) (Reads.slice Tryz.underlying24 (size:=3) (by kernel_rfl) (fun _=>rfl) (rd143 W)) (ReadsF.cons (size:=1) rfl (by kernel_rfl) (Reads.slice Tryz.underlying25 (size:=5) (by kernel_rfl) (fun _=>rfl) (rd81 W)) (ReadsF.cons (size:=1) rfl (by kernel_rfl) (Reads.i64 Tryz.underlying3) (ReadsF.cons (size:=1) rfl (by kernel_rfl) (Reads.i64 Tryz.underlying3) ReadsF.nil))))))).map q27 c_.ok (fun x=>⟨x.1,x.2.1,x.2.2.1,x.2.2.2.1,x.2.2.2.2.1,x.2.2.2.2.2.1⟩) (fun _=>rfl) (fun _ h=>⟨h.1,h.2.1,h.2.2.1,h.2.2.2.1,h.2.2.2.2.1,h.2.2.2.2.2.1⟩)
def eo.ok (x:eo):Prop:=((Lit.int .i64 x.Start).wf=true)∧((Lit.int .i64 x.Stop).wf=true)∧((Lit.int .i64 x.Delay).wf=true)
theorem rd29 (W:World):Reads Tryz.prog W 29 q29 eo.ok:=
  (Reads.struct Tryz.underlying29 (by kernel_rfl) (ReadsF.cons (size:=1) rfl (by kernel_rfl) (Reads.i64 Tryz.underlying3) (ReadsF.cons (size:=1) rfl (by kernel_rfl) (Reads.i64 Tryz.underlying3) (ReadsF.cons (size:=1) rfl (by kernel_rfl) (Reads.i64 Tryz.underlying3) ReadsF.nil)))).map q29 eo.ok (fun x=>⟨x.1,x.2.1,x.2.2.1⟩) (fun _=>rfl) (fun _ h=>⟨h.1,h.2.1,h.2.2.1⟩)
def ee.ok (x:ee):Prop:=((Lit.int .i64 x.State).wf=true)∧((Lit.int .i64 x.Since).wf=true)∧((Lit.int .i64 x.Frequency).wf=true)∧((Lit.int .i64 x.Phase).wf=true)
theorem rd96 (W:World):Reads Tryz.prog W 96 q96 ee.ok:=
  (Reads.struct Tryz.underlying96 (by kernel_rfl) (ReadsF.cons (size:=1) rfl (by kernel_rfl) (Reads.i64 Tryz.underlying3) (ReadsF.cons (size:=1) rfl (by kernel_rfl) (Reads.i64 Tryz.underlying3) (ReadsF.cons (size:=1) rfl (by kernel_rfl) (Reads.i64 Tryz.underlying3) (ReadsF.cons (size:=1) rfl (by kernel_rfl) (Reads.i64 Tryz.underlying3) ReadsF.nil))))).map q96 ee.ok (fun x=>⟨x.1,x.2.1,x.2.2.1,x.2.2.2.1⟩) (fun _=>rfl) (fun _ h=>⟨h.1,h.2.1,h.2.2.1,h.2.2.2.1⟩)
def dX.ok (x:dX):Prop:=((Lit.int .i64 x.Kind).wf=true)∧((Lit.int .i64 x.Number).wf=true)
theorem rd99 (W:World):Reads Tryz.prog W 99 q99 dX.ok:=
  (Reads.struct Tryz.underlying99 (by kernel_rfl) (ReadsF.cons (size:=1) rfl (by kernel_rfl) (Reads.i64 Tryz.underlying3) (ReadsF.cons (size:=1) rfl (by kernel_rfl) (Reads.i64 Tryz.underlying3) ReadsF.nil))).map q99 dX.ok (fun x=>⟨x.1,x.2.1⟩) (fun _=>rfl) (fun _ h=>⟨h.1,h.2.1⟩)
def dZ.ok (x:dZ):Prop:=((∀ a,a∈x.Closed→True)∧x.Closed.length≤maxLen)∧((∀ a,a∈x.Sources→ee.ok a)∧x.Sources.length≤maxLen)∧((∀ a,a∈x.Limits→(Lit.int .i64 a).wf=true)∧x.Limits.length≤maxLen)∧((∀ a,a∈x.Broken→dX.ok a)∧x.Broken.length≤maxLen)
theorem rd34 (W:World):Reads Tryz.prog W 34 q34 dZ.ok:=
  (Reads.struct Tryz.underlying34 (by kernel_rfl) (ReadsF.cons (size:=1) rfl (by kernel_rfl) (Reads.slice Tryz.underlying30 (size:=1) (by kernel_rfl) (fun _=>rfl) (Reads.bool Tryz.underlying4)) (ReadsF.cons (size:=1) rfl (by kernel_rfl) (Reads.slice Tryz.underlying31 (size:=4) (by kernel_rfl) (fun _=>rfl) (rd96 W)) (ReadsF.cons (size:=1) rfl (by kernel_rfl) (Reads.slice Tryz.underlying22 (size:=1) (by kernel_rfl) (fun _=>rfl) (Reads.i64 Tryz.underlying3)) (ReadsF.cons (size:=1) rfl (by kernel_rfl) (Reads.slice Tryz.underlying32 (size:=2) (by kernel_rfl) (fun _=>rfl) (rd99 W)) ReadsF.nil))))).map q34 dZ.ok (fun x=>⟨x.1,x.2.1,x.2.2.1,x.2.2.2.1⟩) (fun _=>rfl) (fun _ h=>⟨h.1,h.2.1,h.2.2.1,h.2.2.2.1⟩)
def d_.ok (x:d_):Prop:=((Lit.int .i64 x.High).wf=true)∧((Lit.int .i64 x.Low).wf=true)
theorem rd107 (W:World):Reads Tryz.prog W 107 q107 d_.ok:=
  (Reads.struct Tryz.underlying107 (by kernel_rfl) (ReadsF.cons (size:=1) rfl (by kernel_rfl) (Reads.i64 Tryz.underlying3) (ReadsF.cons (size:=1) rfl (by kernel_rfl) (Reads.i64 Tryz.underlying3) ReadsF.nil))).map q107 d_.ok (fun x=>⟨x.1,x.2.1⟩) (fun _=>rfl) (fun _ h=>⟨h.1,h.2.1⟩)
def a_.ok (x:a_):Prop:=((Lit.int .i64 x.Kind).wf=true)∧((Lit.int .i64 x.Unit).wf=true)∧((Lit.int .i64 x.Value).wf=true)
theorem rd72 (W:World):Reads Tryz.prog W 72 q72 a_.ok:=
  (Reads.struct Tryz.underlying72 (by kernel_rfl) (ReadsF.cons (size:=1) rfl (by kernel_rfl) (Reads.i64 Tryz.underlying3) (ReadsF.cons (size:=1) rfl (by kernel_rfl) (Reads.i64 Tryz.underlying3) (ReadsF.cons (size:=1) rfl (by kernel_rfl) (Reads.i64 Tryz.underlying3) ReadsF.nil)))).map q72 a_.ok (fun x=>⟨x.1,x.2.1,x.2.2.1⟩) (fun _=>rfl) (fun _ h=>⟨h.1,h.2.1,h.2.2.1⟩)
def dW.ok (x:dW):Prop:=((Lit.int .i64 x.Time).wf=true)∧(a_.ok x.Act)∧((Lit.int .i64 x.Err).wf=true)
theorem rd129 (W:World):Reads Tryz.prog W 129 q129 dW.ok:=
  (Reads.struct Tryz.underlying129 (by kernel_rfl) (ReadsF.cons (size:=1) rfl (by kernel_rfl) (Reads.i64 Tryz.underlying3) (ReadsF.cons (size:=3) rfl (by kernel_rfl) (rd72 W) (ReadsF.cons (size:=1) rfl (by kernel_rfl) (Reads.i64 Tryz.underlying57) ReadsF.nil)))).map q129 dW.ok (fun x=>⟨x.1,x.2.1,x.2.2.1⟩) (fun _=>rfl) (fun _ h=>⟨h.1,h.2.1,h.2.2.1⟩)
def dY.ok (x:dY):Prop:=((Lit.int .i64 x.Time).wf=true)∧(dZ.ok x.Power)∧((∀ a,a∈x.Rosters→d_.ok a)∧x.Rosters.length≤maxLen)∧((∀ a,a∈x.Events→dW.ok a)∧x.Events.length≤maxLen)
theorem rd38 (W:World):Reads Tryz.prog W 38 q38 dY.ok:=
  (Reads.struct Tryz.underlying38 (by kernel_rfl) (ReadsF.cons (size:=1) rfl (by kernel_rfl) (Reads.i64 Tryz.underlying3) (ReadsF.cons (size:=4) rfl (by kernel_rfl) (rd34 W) (ReadsF.cons (size:=1) rfl (by kernel_rfl) (Reads.slice Tryz.underlying35 (size:=2) (by kernel_rfl) (fun _=>rfl) (rd107 W)) (ReadsF.cons (size:=1) rfl (by kernel_rfl) (Reads.slice Tryz.underlying36 (size:=5) (by kernel_rfl) (fun _=>rfl) (rd129 W)) ReadsF.nil))))).map q38 dY.ok (fun x=>⟨x.1,x.2.1,x.2.2.1,x.2.2.2.1⟩) (fun _=>rfl) (fun _ h=>⟨h.1,h.2.1,h.2.2.1,h.2.2.2.1⟩)
def b_.ok (x:b_):Prop:=((Lit.int .i64 x.From).wf=true)∧((Lit.int .i64 x.To).wf=true)
theorem rd146 (W:World):Reads Tryz.prog W 146 q146 b_.ok:=
  (Reads.struct Tryz.underlying146 (by kernel_rfl) (ReadsF.cons (size:=1) rfl (by kernel_rfl) (Reads.i64 Tryz.underlying3) (ReadsF.cons (size:=1) rfl (by kernel_rfl) (Reads.i64 Tryz.underlying3) ReadsF.nil))).map q146 b_.ok (fun x=>⟨x.1,x.2.1⟩) (fun _=>rfl) (fun _ h=>⟨h.1,h.2.1⟩)
def eq.ok (x:eq):Prop:=((Lit.int .i64 x.Kind).wf=true)∧((Lit.int .i64 x.Station).wf=true)∧((Lit.int .i64 x.Max).wf=true)∧((Lit.int .i64 x.Rate).wf=true)∧((Lit.int .i64 x.Cost).wf=true)∧((∀ a,a∈x.Forbidden→b_.ok a)∧x.Forbidden.length≤maxLen)
theorem rd84 (W:World):Reads Tryz.prog W 84 q84 eq.ok:=
  (Reads.struct Tryz.underlying84 (by kernel_rfl) (ReadsF.cons (size:=1) rfl (by kernel_rfl) (Reads.i64 Tryz.underlying3) (ReadsF.cons (size:=1) rfl (by kernel_rfl) (Reads.i64 Tryz.underlying3) (ReadsF.cons (size:=1) rfl (by kernel_rfl) (Reads.i64 Tryz.underlying3) (ReadsF.cons (size:=1) rfl (by kernel_rfl) (Reads.i64 Tryz.underlying3) (ReadsF.cons (size:=1) rfl (by kernel_rfl) (Reads.i64 Tryz.underlying3) (ReadsF.cons (size:=1) rfl (by kernel_rfl) (Reads.slice Tryz.underlying82 (size:=2) (by kernel_rfl) (fun _=>rfl) (rd146 W)) ReadsF.nil))))))).map q84 eq.ok (fun x=>⟨x.1,x.2.1,x.2.2.1,x.2.2.2.1,x.2.2.2.2.1,x.2.2.2.2.2.1⟩) (fun _=>rfl) (fun _ h=>⟨h.1,h.2.1,h.2.2.1,h.2.2.2.1,h.2.2.2.2.1,h.2.2.2.2.2.1⟩)
def ef.ok (x:ef):Prop:=((Lit.int .i64 x.Bow).wf=true)∧((Lit.int .i64 x.Stern).wf=true)∧((∀ a,a∈x.Thrusters→eq.ok a)∧x.Thrusters.length≤maxLen)
theorem rd42 (W:World):Reads Tryz.prog W 42 q42 ef.ok:=
  (Reads.struct Tryz.underlying42 (by kernel_rfl) (ReadsF.cons (size:=1) rfl (by kernel_rfl) (Reads.i64 Tryz.underlying3) (ReadsF.cons (size:=1) rfl (by kernel_rfl) (Reads.i64 Tryz.underlying3) (ReadsF.cons (size:=1) rfl (by kernel_rfl) (Reads.slice Tryz.underlying40 (size:=6) (by kernel_rfl) (fun _=>rfl) (rd84 W)) ReadsF.nil)))).map q42 ef.ok (fun x=>⟨x.1,x.2.1,x.2.2.1⟩) (fun _=>rfl) (fun _ h=>⟨h.1,h.2.1,h.2.2.1⟩)

set_option maxRecDepth 100000 in
theorem contract (H:Type) (enc:TypeId×Value→H) (W:World) (args:Array Value) (ds gs:List (DataW H)) (before:List MemPlace)
    {base:Nat} (hval:∀ (j:Nat) t v,Tryz.f3.params[j]? = some t→args[j]? = some v→Value.okWide Tryz.prog W .any base t v)
    (hW:DataW.Whole enc Tryz.prog Tryz.f3.params.toList Rows.plantExactSpec.vars false W args.toList ds gs before) :
    Calls Tryz.prog 3 args W fun e W'=>∃ v,e = .returned v∧Rows.plantExactSpec.post enc Tryz.prog Tryz.f3 false true false false W args v W':=by
  have hW':=hW
  obtain⟨p,q,hA0,hV,rfl,hfz,hnd⟩:=hW
  have hA:DataW.TrodAll enc Tryz.prog W 0 (fun _=>true) true Tryz.f3.params.toList args.toList ds p:=hA0
  have hA1:=hA
  rw [Tryz.params3] at hA hval hA1
  obtain⟨v0,vs0,d0,ds0,p0,pp0,hargs,rfl,rfl,h0,q0⟩:=trodAll_cons hA
  obtain⟨v1,vs1,d1,ds1,p1,pp1,rfl,rfl,rfl,h1,q1⟩:=trodAll_cons q0
  obtain⟨v2,vs2,d2,ds2,p2,pp2,rfl,rfl,rfl,h2,q2⟩:=trodAll_cons q1
  obtain⟨v3,vs3,d3,ds3,p3,pp3,rfl,rfl,rfl,h3,q3⟩:=trodAll_cons q2
  obtain⟨v4,vs4,d4,ds4,p4,pp4,rfl,rfl,rfl,h4,q4⟩:=trodAll_cons q3
  obtain⟨v5,vs5,d5,ds5,p5,pp5,rfl,rfl,rfl,h5,q5⟩:=trodAll_cons q4
  obtain⟨rfl,rfl,rfl⟩:=trodAll_nil q5
  obtain rfl:args = #[v0,v1,v2,v3,v4,v5]:=by cases args;simp_all
  obtain⟨rfl,rfl⟩:=trodVars_none hV
  obtain⟨_,_,_,rfl⟩:=okWide_slice Tryz.underlying22 (hval 0 22 v0 rfl rfl)
  obtain⟨x0,w0,r0⟩:=Reads.one (Reads.slice Tryz.underlying22 (size:=1) (by kernel_rfl) (fun _=>rfl) (Reads.i64 Tryz.underlying3)) (fun _=>rfl) rfl h0
  obtain⟨cs1,rfl,_⟩:=okWide_struct Tryz.underlying27 (hval 1 27 v1 rfl rfl)
  obtain⟨x1,w1,r1⟩:=Reads.agg (rd27 W) h1
  obtain⟨cs2,rfl,_⟩:=okWide_struct Tryz.underlying29 (hval 2 29 v2 rfl rfl)
  obtain⟨x2,w2,r2⟩:=Reads.agg (rd29 W) h2
  obtain⟨cs3,rfl,_⟩:=okWide_struct Tryz.underlying38 (hval 3 38 v3 rfl rfl)
  obtain⟨x3,w3,r3⟩:=Reads.agg (rd38 W) h3
  obtain⟨_,_,_,rfl⟩:=okWide_slice Tryz.underlying39 (hval 4 39 v4 rfl rfl)
  obtain⟨x4,w4,r4⟩:=Reads.one (Reads.slice Tryz.underlying39 (size:=3) (by kernel_rfl) (fun _=>rfl) (rd72 W)) (fun _=>rfl) rfl h4
  obtain⟨cs5,rfl,_⟩:=okWide_struct Tryz.underlying42 (hval 5 42 v5 rfl rfl)
  obtain⟨x5,w5,r5⟩:=Reads.agg (rd42 W) h5
  have hk:=k3 x0 x1 x2 x3 x4 x5 true (plantExact_law x0 x1 x2 x3 x4 x5)
  refine Calls.mono (dC hk ⟨fun g cells h=>by simp [globTab] at h,fun g h=>by simp [globIf] at h⟩ ⟨r0,r1,r2,r3,r4,r5,trivial⟩) fun e W' hp=>?_
  obtain⟨he,bel⟩:=hp
  subst he
  exact⟨_,rfl,_,_,_,[],_,[],hW',trodAll_mk1 (shut_bool Tryz.underlying4 _),trodAll_below laidOut bel (by kernel_rfl) hA1,rfl,bel.frame _,fun h=>by cases h⟩

set_option maxRecDepth 100000 in
theorem lifted (os:Os) (started:os.Started) (H:Type) (enc:TypeId×Value→H) :
    ReturnsInHanded {} Tryz.checked os 3 .any (Rows.plantExactSpec.pre6 enc Tryz.prog Tryz.f3 Rows.plantExactRow.domain false) (Rows.plantExactSpec.post enc Tryz.prog Tryz.f3 false true false false):=by
  refine returnsInHanded_of_change (C:=Tryz.checked) own started (by kernel_rfl) Tryz.func3
    (ChangeSpec.witness6 (enc:=enc) (C:=Tryz.checked) false ⟨#[],#[.slice none 0 0,.agg #[.int .i64 0,.slice none 0 0,.slice none 0 0,.slice none 0 0,.int .i64 0,.int .i64 0],.agg #[.int .i64 0,.int .i64 0,.int .i64 0],.agg #[.int .i64 0,.slice none 0 0,.slice none 0 0,.slice none 0 0,.slice none 0 0,.slice none 0 0,.slice none 0 0],.slice none 0 0,.agg #[.int .i64 0,.int .i64 0,.slice none 0 0]],[]⟩ 8 (by kernel_rfl) (by kernel_rfl) (by kernel_rfl) (by kernel_rfl)) ?_
  intro W base args ds gs before hval hW _ _
  exact contract H enc W args ds gs before hval hW

theorem andT {a b:Bool} (h1:a=true) (h2:b=true):(a&&b)=true:=by rw [h1,h2];rfl
theorem j0:(Rows.plantExactRow.wf (OpenSpec.ofChange Rows.plantExactSpec))=true:=by kernel_rfl
theorem j1:(laidOutB Tryz.prog)=true:=by kernel_rfl
theorem j2:(mapsRowed Tryz.prog)=true:=by kernel_rfl
theorem j3:(Tryz.f3.params.all (Tryz.prog.readableRec ·))=true:=by kernel_rfl
theorem j4:(namedTie Tryz.prog Rows.plantExactRow.named Rows.plantExactSpec.vars)=true:=by kernel_rfl
theorem j5:((Rows.plantExactRow.stops==[]))=true:=by kernel_rfl
theorem j6:((Tryz.prog.stops==[]))=true:=by kernel_rfl
theorem j7:((Rows.plantExactRow.knobs==[]))=true:=by kernel_rfl
theorem j8:((Tryz.prog.stopKnobs==[]))=true:=by kernel_rfl
theorem j9:((Rows.plantExactRow.inPlace==Tryz.prog.inPlace 3))=true:=by kernel_rfl
theorem j10:((Rows.plantExactRow.unfollowed==Tryz.prog.unfollowed 3))=true:=by kernel_rfl
theorem j11:((Rows.plantExactRow.recurses==Tryz.prog.recurses 3))=true:=by kernel_rfl
theorem j12:((Rows.plantExactRow.named==Tryz.prog.varsNamed 3))=true:=by kernel_rfl
theorem j13:((Rows.plantExactRow.maps==(Tryz.f3.params.toList++Rows.plantExactSpec.plain.varTypes Tryz.prog).any (Tryz.prog.mapsRec ·)))=true:=by kernel_rfl
theorem j14:((Rows.plantExactRow.ifaces==(Tryz.f3.params.toList++Rows.plantExactSpec.plain.varTypes Tryz.prog).any (Tryz.prog.ifacesRec ·)))=true:=by kernel_rfl
theorem j15:((Rows.plantExactRow.mapsOut==Tryz.prog.mapsAmong Tryz.f3.resultTypes.toList))=true:=by kernel_rfl
theorem j16:((Rows.plantExactRow.loops==(Tryz.f3.params.toList++Rows.plantExactSpec.plain.varTypes Tryz.prog).any (Tryz.prog.loopsFrom ·)))=true:=by kernel_rfl
theorem j17:((Rows.plantExactRow.wideKeys==(Tryz.f3.params.toList++Rows.plantExactSpec.plain.varTypes Tryz.prog++Tryz.f3.resultTypes.toList).any (Tryz.prog.wideKeysFrom ·)))=true:=by kernel_rfl
theorem j18:(Rows.plantExactSpec.vars.all (Tryz.prog.varReadable ·))=true:=by kernel_rfl
theorem j19:(Tryz.f3.resultTypes.all (fun t=>Tryz.prog.readableRec t&&decide (t<Tryz.prog.types.size)))=true:=by kernel_rfl
theorem j20:((Rows.plantExactRow.ifacesOut==Tryz.f3.resultTypes.toList.any (Tryz.prog.ifacesRec ·)))=true:=by kernel_rfl
theorem j21:((Rows.plantExactRow.loopsOut==Tryz.f3.resultTypes.toList.any (Tryz.prog.loopsFrom ·)))=true:=by kernel_rfl
theorem j22:((Rows.plantExactRow.plainKeys==Tryz.prog.plainKeys))=true:=by kernel_rfl
theorem j23:(Rows.plantExactRow.shortTexts.isNone)=true:=by kernel_rfl
theorem j24:(Tryz.prog.stopsHeard)=true:=by kernel_rfl
theorem j25:(Tryz.prog.mayEnter)=true:=by kernel_rfl
theorem j26:((Rows.plantExactRow.lifted==Tryz.prog.liftsFinal))=true:=by kernel_rfl
theorem j27:((Tryz.prog.make==some Rows.plantExactRow.make))=true:=by kernel_rfl
theorem j28:((Rows.plantExactRow.kinds==(if Rows.plantExactRow.domain.isEmpty then [] else Tryz.f3.params.toList.map fun t=>match Tryz.prog.underlying t with | some (.int k)=>some k | _=>none)))=true:=by kernel_rfl
theorem j29:((Rows.plantExactRow.pinned==Rows.plantExactRow.pinnedBy))=true:=by kernel_rfl
theorem j30:((Rows.plantExactRow.veiled==(Tryz.f3.params.toList++Rows.plantExactSpec.plain.varTypes Tryz.prog++Tryz.f3.resultTypes.toList).any (Tryz.prog.veiledRec ·)))=true:=by kernel_rfl
theorem j31:(Rows.plantExactRow.veiledFits Tryz.prog Tryz.f3.params.toList (Tryz.f3.params.toList++Rows.plantExactSpec.plain.varTypes Tryz.prog++Tryz.f3.resultTypes.toList))=true:=by kernel_rfl
set_option maxRecDepth 100000 in
theorem closed:joinedFacts Tryz.prog 3 Tryz.f3 Rows.plantExactSpec Rows.plantExactRow=true:=by
  delta joinedFacts
  exact (andT (andT (andT (andT (andT (andT (andT (andT (andT (andT (andT (andT (andT (andT (andT (andT (andT (andT (andT (andT (andT (andT (andT (andT (andT (andT (andT (andT (andT (andT (andT j0 j1) j2) j3) j4) j5) j6) j7) j8) j9) j10) j11) j12) j13) j14) j15) j16) j17) j18) j19) j20) j21) j22) j23) j24) j25) j26) j27) j28) j29) j30) j31)
theorem wrapper:Tryz.f3.isWrapper Tryz.prog Rows.plantExactRow.wrapper Rows.plantExactRow.mainSum:=by unfold Func.isWrapper;first | (rw [eT (by decide +kernel)];kernel_rfl) | (rw [eU (by decide +kernel)];exact⟨rfl,rfl⟩)
theorem named:Tryz.prog.funcNamed Rows.plantExactRow.func=some 3:=by kernel_rfl

theorem over:Rows.plantExactRow.holds Tryz.pinned (OpenSpec.ofChange Rows.plantExactSpec):=
  OpenClaim.holds_of_wide 3 Tryz.f3 rfl rfl rfl rfl rfl rfl rfl ⟨rfl,rfl,rfl,rfl,rfl⟩ rfl rfl rfl rfl rfl named Tryz.func3 closed
    (dQ (by kernel_rfl)) wrapper
    (fun os started H enc _=>lifted os started H enc)

end Go.Proofs.YtkcebipolafapaaGreat.plantExact
namespace Go.Proofs.YtkcebipolafapaaGreat
theorem plantExact_holds:Rows.PlantExactSaid:=plantExact.over
end Go.Proofs.YtkcebipolafapaaGreat

