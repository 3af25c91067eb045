/-
  The law 'dynposlaw29.CircleExact' answers true for every input, and each argument reads behind the call as it read before. No condition.
-/
import Derived.Test.YtakbldjmgfcipaaK2
import Derived.Test.YtakbldjmgfcipaaPlB
import Derived.Test.YtakbldjmgfcipaaSlW
import Derived.Test.YtakbldjmgfcipaaRows
namespace Go.Proofs.Ytakbldjmgfcipaa.circleExact
open Go.ChangeShapes Go.WideShapes Go.ChangeAt Go.RowKit Go.SL
set_option linter.unusedVariables false

theorem own : ownKnob Try.prog.godebug = none := by kernel_rfl
theorem laidOut : laidOutB Try.prog = true := by kernel_rfl
def api_Point.ok (x : api_Point) : Prop := ((Lit.int .i64 x.X).wf = true) ∧ ((Lit.int .i64 x.Y).wf = true)
theorem rd24 (W : World) : Reads Try.prog W 24 api_Point.ps api_Point.ok :=
  (Reads.struct Try.underlying24 (by kernel_rfl) (ReadsF.cons (size := 1) rfl (by kernel_rfl) (Reads.i64 Try.underlying3) (ReadsF.cons (size := 1) rfl (by kernel_rfl) (Reads.i64 Try.underlying3) ReadsF.nil))).map api_Point.ps api_Point.ok (fun x => ⟨x.1, x.2.1⟩) (fun _ => rfl) (fun _ h => ⟨h.1, h.2.1⟩)
def api_Circle.ok (x : api_Circle) : Prop := (api_Point.ok x.Place) ∧ ((Lit.int .i64 x.Yellow).wf = true) ∧ ((Lit.int .i64 x.Red).wf = true)
theorem rd26 (W : World) : Reads Try.prog W 26 api_Circle.ps api_Circle.ok :=
  (Reads.struct Try.underlying26 (by kernel_rfl) (ReadsF.cons (size := 2) rfl (by kernel_rfl) (rd24 W) (ReadsF.cons (size := 1) rfl (by kernel_rfl) (Reads.i64 Try.underlying3) (ReadsF.cons (size := 1) rfl (by kernel_rfl) (Reads.i64 Try.underlying3) ReadsF.nil)))).map api_Circle.ps api_Circle.ok (fun x => ⟨x.1, x.2.1, x.2.2.1⟩) (fun _ => rfl) (fun _ h => ⟨h.1, h.2.1, h.2.2.1⟩)
def api_Estimate.ok (x : api_Estimate) : Prop := (api_Point.ok x.Point) ∧ ((Lit.int .i64 x.Bound).wf = true) ∧ ((Lit.int .i64 x.Time).wf = true) ∧ ((Lit.int .i64 x.State).wf = true)
theorem rd28 (W : World) : Reads Try.prog W 28 api_Estimate.ps api_Estimate.ok :=
  (Reads.struct Try.underlying28 (by kernel_rfl) (ReadsF.cons (size := 2) rfl (by kernel_rfl) (rd24 W) (ReadsF.cons (size := 1) rfl (by kernel_rfl) (Reads.i64 Try.underlying3) (ReadsF.cons (size := 1) rfl (by kernel_rfl) (Reads.i64 Try.underlying3) (ReadsF.cons (size := 1) rfl (by kernel_rfl) (Reads.i64 Try.underlying3) ReadsF.nil))))).map api_Estimate.ps api_Estimate.ok (fun x => ⟨x.1, x.2.1, x.2.2.1, x.2.2.2.1⟩) (fun _ => rfl) (fun _ h => ⟨h.1, h.2.1, h.2.2.1, h.2.2.2.1⟩)

theorem contract (H : Type) (enc : TypeId × Value → H) (W : World) (args : Array Value) (ds gs : List (DataW H)) (before : List MemPlace)
    {base : Nat} (hval : ∀ (j : Nat) t v, Try.f3.params[j]? = some t → args[j]? = some v → Value.okWide Try.prog W .any base t v)
    (hW : DataW.Whole enc Try.prog Try.f3.params.toList Rows.circleExactSpec.vars false W args.toList ds gs before) :
    Calls Try.prog 3 args W fun e W' => ∃ v, e = .returned v ∧ Rows.circleExactSpec.post enc Try.prog Try.f3 false true false false W args v W' := by
  have hW' := hW
  obtain ⟨p, q, hA0, hV, rfl, hfz, hnd⟩ := hW
  have hA : DataW.TrodAll enc Try.prog W 0 (fun _ => true) true Try.f3.params.toList args.toList ds p := hA0
  have hA1 := hA
  rw [Try.params3] at hA hval hA1
  obtain ⟨v0, vs0, d0, ds0, p0, pp0, hargs, rfl, rfl, h0, q0⟩ := trodAll_cons hA
  obtain ⟨v1, vs1, d1, ds1, p1, pp1, rfl, rfl, rfl, h1, q1⟩ := trodAll_cons q0
  obtain ⟨v2, vs2, d2, ds2, p2, pp2, rfl, rfl, rfl, h2, q2⟩ := trodAll_cons q1
  obtain ⟨v3, vs3, d3, ds3, p3, pp3, rfl, rfl, rfl, h3, q3⟩ := trodAll_cons q2
  obtain ⟨rfl, rfl, rfl⟩ := trodAll_nil q3
  obtain rfl : args = #[v0, v1, v2, v3] := by cases args; simp_all
  obtain ⟨rfl, rfl⟩ := trodVars_none hV
  obtain ⟨_, _, _, rfl⟩ := okWide_slice Try.underlying22 (hval 0 22 v0 rfl rfl)
  obtain ⟨x0, w0, r0⟩ := Reads.one (Reads.slice Try.underlying22 (size := 1) (by kernel_rfl) (fun _ => rfl) (Reads.i64 Try.underlying3)) (fun _ => rfl) rfl h0
  obtain ⟨cs1, rfl, _⟩ := okWide_struct Try.underlying26 (hval 1 26 v1 rfl rfl)
  obtain ⟨x1, w1, r1⟩ := Reads.agg (rd26 W) h1
  obtain ⟨cs2, rfl, _⟩ := okWide_struct Try.underlying28 (hval 2 28 v2 rfl rfl)
  obtain ⟨x2, w2, r2⟩ := Reads.agg (rd28 W) h2
  obtain ⟨_, rfl⟩ := okWide_int Try.underlying3 (hval 3 3 v3 rfl rfl)
  obtain ⟨x3, w3, r3⟩ := Reads.one (Reads.i64 Try.underlying3) (fun _ => rfl) rfl h3
  have hk := k3 x0 x1 x2 x3 true (circleExact x0 x1 x2 x3 (bounds_i64 w2.2.1))
  refine Calls.mono (CallOk.law hk ⟨r0, r1, r2, r3, trivial⟩) fun e W' hp => ?_
  obtain ⟨he, bel⟩ := hp
  subst he
  exact ⟨_, rfl, _, _, _, [], _, [], hW', trodAll_mk1 (shut_bool Try.underlying4 _), trodAll_below laidOut bel (by kernel_rfl) hA1, rfl, bel.frame _, fun h => by cases h⟩

set_option maxRecDepth 100000 in
theorem lifted (os : Os) (started : os.Started) (H : Type) (enc : TypeId × Value → H) :
    ReturnsInHanded {} Try.checked os 3 .any (Rows.circleExactSpec.pre6 enc Try.prog Try.f3 Rows.circleExactRow.domain false) (Rows.circleExactSpec.post enc Try.prog Try.f3 false true false false) := by
  refine returnsInHanded_of_change (C := Try.checked) own started (by kernel_rfl) Try.func3
    (ChangeSpec.witness6 (enc := enc) (C := Try.checked) false ⟨#[], #[.slice none 0 0, .agg #[.int .i64 0, .int .i64 0, .int .i64 0, .int .i64 0], .agg #[.int .i64 0, .int .i64 0, .int .i64 0, .int .i64 0, .int .i64 0], .int .i64 0], []⟩ 8 (by kernel_rfl) (by kernel_rfl) (by kernel_rfl) (by kernel_rfl)) ?_
  intro W base args ds gs before hval hW _ _
  exact contract H enc W args ds gs before hval hW

theorem over : Rows.circleExactRow.holds Try.pinned (OpenSpec.ofChange Rows.circleExactSpec) :=
  OpenClaim.holds_of_wide 3 Try.f3 rfl rfl rfl rfl rfl rfl rfl ⟨rfl, rfl, rfl, rfl, rfl⟩ rfl rfl rfl rfl rfl (by kernel_rfl) Try.func3 (by kernel_rfl)
    (of_decide_eq_true (by kernel_rfl)) (by unfold Func.isWrapper; first | (rw [if_pos (by decide +kernel)]; kernel_rfl) | (rw [if_neg (by decide +kernel)]; exact ⟨rfl, rfl⟩))
    (fun os started H enc _ => lifted os started H enc)

end Go.Proofs.Ytakbldjmgfcipaa.circleExact
namespace Go.Proofs.Ytakbldjmgfcipaa
theorem circleExact_holds : Rows.CircleExactSaid := circleExact.over
end Go.Proofs.Ytakbldjmgfcipaa

