/-
  The law 'dynposlaw30.OperationExact' answers true for every input, and each argument reads behind the call as it read before. No condition.
-/
import Derived.Test.YtakbldjmgfcipaaDoorK4
import Derived.Test.YtakbldjmgfcipaaDoorPlF
import Derived.Test.YtakbldjmgfcipaaDoorTab
import Derived.Test.YtakbldjmgfcipaaDoorSlW
import Derived.Test.YtakbldjmgfcipaaDoorRows
import Derived.Test.YtakbldjmgfcipaaDoorCards
import Derived.Test.YtakbldjmgfcipaaDoorTie
import Derived.Deep.DeepHandedRow
import Derived.LaidLaws
namespace Go.Proofs.YtakbldjmgfcipaaDoor.operationExact
open Go.ChangeShapes Go.WideShapes Go.ChangeAt Go.RowKit Go.SL
set_option linter.unusedVariables false

theorem own : ownKnob Tryd.prog.godebug = none := by kernel_rfl
theorem laidOut : laidOutB Tryd.prog = true := by kernel_rfl
def api_Point.ok (x : api_Point) : Prop := ((Lit.int .i64 x.X).wf = true) ∧ ((Lit.int .i64 x.Y).wf = true)
theorem rd27 (W : World) : Reads Tryd.prog W 27 api_Point.ps api_Point.ok :=
  (Reads.struct Tryd.underlying27 (by kernel_rfl) (ReadsF.cons (size := 1) rfl (by kernel_rfl) (Reads.i64 Tryd.underlying3) (ReadsF.cons (size := 1) rfl (by kernel_rfl) (Reads.i64 Tryd.underlying3) ReadsF.nil))).map api_Point.ps api_Point.ok (fun x => ⟨x.1, x.2.1⟩) (fun _ => rfl) (fun _ h => ⟨h.1, h.2.1⟩)
def api_Circle.ok (x : api_Circle) : Prop := (api_Point.ok x.Place) ∧ ((Lit.int .i64 x.Yellow).wf = true) ∧ ((Lit.int .i64 x.Red).wf = true)
theorem rd29 (W : World) : Reads Tryd.prog W 29 api_Circle.ps api_Circle.ok :=
  (Reads.struct Tryd.underlying29 (by kernel_rfl) (ReadsF.cons (size := 2) rfl (by kernel_rfl) (rd27 W) (ReadsF.cons (size := 1) rfl (by kernel_rfl) (Reads.i64 Tryd.underlying3) (ReadsF.cons (size := 1) rfl (by kernel_rfl) (Reads.i64 Tryd.underlying3) ReadsF.nil)))).map api_Circle.ps api_Circle.ok (fun x => ⟨x.1, x.2.1, x.2.2.1⟩) (fun _ => rfl) (fun _ h => ⟨h.1, h.2.1, h.2.2.1⟩)
def api_Operation.ok (x : api_Operation) : Prop := (x.Name.size ≤ maxLen) ∧ ((Lit.int .i64 x.Class).wf = true) ∧ (api_Circle.ok x.Circle) ∧ ((Lit.int .i64 x.Drift).wf = true)
theorem rd31 (W : World) : Reads Tryd.prog W 31 api_Operation.ps api_Operation.ok :=
  (Reads.struct Tryd.underlying31 (by kernel_rfl) (ReadsF.cons (size := 1) rfl (by kernel_rfl) (Reads.string Tryd.underlying9) (ReadsF.cons (size := 1) rfl (by kernel_rfl) (Reads.i64 Tryd.underlying3) (ReadsF.cons (size := 4) rfl (by kernel_rfl) (rd29 W) (ReadsF.cons (size := 1) rfl (by kernel_rfl) (Reads.i64 Tryd.underlying3) ReadsF.nil))))).map api_Operation.ps api_Operation.ok (fun x => ⟨x.1, x.2.1, x.2.2.1, x.2.2.2.1⟩) (fun _ => rfl) (fun _ h => ⟨h.1, h.2.1, h.2.2.1, h.2.2.2.1⟩)

theorem contract (H : Type) (enc : TypeId × Value → H) (W : World) (args : Array Value) (ds gs : List (DataW H)) (before : List MemPlace)
    {base : Nat} (hval : ∀ (j : Nat) t v, Tryd.f8.params[j]? = some t → args[j]? = some v → Value.okWide Tryd.prog W .any base t v)
    (hW : DataW.Whole enc Tryd.prog Tryd.f8.params.toList Rows.operationExactSpec.vars false W args.toList ds gs before) (hL : laidMetH Tryd.prog Rows.operationExactRow.laid W) :
    Calls Tryd.prog 8 args W fun e W' => ∃ v, e = .returned v ∧ Rows.operationExactSpec.post enc Tryd.prog Tryd.f8 false true false false W args v W' := by
  have hW' := hW
  obtain ⟨p, q, hA0, hV, rfl, hfz, hnd⟩ := hW
  have hA : DataW.TrodAll enc Tryd.prog W 0 (fun _ => true) true Tryd.f8.params.toList args.toList ds p := hA0
  have hA1 := hA
  rw [Tryd.params8] at hA hval hA1
  obtain ⟨v0, vs0, d0, ds0, p0, pp0, hargs, rfl, rfl, h0, q0⟩ := trodAll_cons hA
  obtain ⟨v1, vs1, d1, ds1, p1, pp1, rfl, rfl, rfl, h1, q1⟩ := trodAll_cons q0
  obtain ⟨v2, vs2, d2, ds2, p2, pp2, rfl, rfl, rfl, h2, q2⟩ := trodAll_cons q1
  obtain ⟨v3, vs3, d3, ds3, p3, pp3, rfl, rfl, rfl, h3, q3⟩ := trodAll_cons q2
  obtain ⟨v4, vs4, d4, ds4, p4, pp4, rfl, rfl, rfl, h4, q4⟩ := trodAll_cons q3
  obtain ⟨v5, vs5, d5, ds5, p5, pp5, rfl, rfl, rfl, h5, q5⟩ := trodAll_cons q4
  obtain ⟨v6, vs6, d6, ds6, p6, pp6, rfl, rfl, rfl, h6, q6⟩ := trodAll_cons q5
  obtain ⟨v7, vs7, d7, ds7, p7, pp7, rfl, rfl, rfl, h7, q7⟩ := trodAll_cons q6
  obtain ⟨v8, vs8, d8, ds8, p8, pp8, rfl, rfl, rfl, h8, q8⟩ := trodAll_cons q7
  obtain ⟨rfl, rfl, rfl⟩ := trodAll_nil q8
  obtain rfl : args = #[v0, v1, v2, v3, v4, v5, v6, v7, v8] := by cases args; simp_all
  obtain ⟨rfl, rfl⟩ := trodVars_none hV
  obtain ⟨_, _, _, rfl⟩ := okWide_slice Tryd.underlying22 (hval 0 22 v0 rfl rfl)
  obtain ⟨x0, w0, r0⟩ := Reads.one (Reads.slice Tryd.underlying22 (size := 1) (by kernel_rfl) (fun _ => rfl) (Reads.i64 Tryd.underlying3)) (fun _ => rfl) rfl h0
  obtain ⟨cs1, rfl, _⟩ := okWide_struct Tryd.underlying31 (hval 1 31 v1 rfl rfl)
  obtain ⟨x1, w1, r1⟩ := Reads.agg (rd31 W) h1
  obtain ⟨_, rfl⟩ := okWide_int Tryd.underlying3 (hval 2 3 v2 rfl rfl)
  obtain ⟨x2, w2, r2⟩ := Reads.one (Reads.i64 Tryd.underlying3) (fun _ => rfl) rfl h2
  obtain ⟨_, rfl⟩ := okWide_int Tryd.underlying3 (hval 3 3 v3 rfl rfl)
  obtain ⟨x3, w3, r3⟩ := Reads.one (Reads.i64 Tryd.underlying3) (fun _ => rfl) rfl h3
  obtain ⟨_, rfl⟩ := okWide_int Tryd.underlying3 (hval 4 3 v4 rfl rfl)
  obtain ⟨x4, w4, r4⟩ := Reads.one (Reads.i64 Tryd.underlying3) (fun _ => rfl) rfl h4
  obtain ⟨_, rfl⟩ := okWide_int Tryd.underlying3 (hval 5 3 v5 rfl rfl)
  obtain ⟨x5, w5, r5⟩ := Reads.one (Reads.i64 Tryd.underlying3) (fun _ => rfl) rfl h5
  obtain ⟨_, rfl⟩ := okWide_bool Tryd.underlying4 (hval 6 4 v6 rfl rfl)
  obtain ⟨x6, w6, r6⟩ := Reads.one (Reads.bool Tryd.underlying4) (fun _ => rfl) rfl h6
  obtain ⟨_, _, _, rfl⟩ := okWide_slice Tryd.underlying22 (hval 7 22 v7 rfl rfl)
  obtain ⟨x7, w7, r7⟩ := Reads.one (Reads.slice Tryd.underlying22 (size := 1) (by kernel_rfl) (fun _ => rfl) (Reads.i64 Tryd.underlying3)) (fun _ => rfl) rfl h7
  obtain ⟨_, _, _, rfl⟩ := okWide_slice Tryd.underlying22 (hval 8 22 v8 rfl rfl)
  obtain ⟨x8, w8, r8⟩ := Reads.one (Reads.slice Tryd.underlying22 (size := 1) (by kernel_rfl) (fun _ => rfl) (Reads.i64 Tryd.underlying3)) (fun _ => rfl) rfl h8
  have hk := k8 x0 x1 x2 x3 x4 x5 x6 x7 x8 true (operationExact x0 x1 x2 x3 x4 x5 x6 x7 x8)
  refine Calls.mono (CallOk.law hk (glob hL) ⟨r0, r1, r2, r3, r4, r5, r6, r7, r8, trivial⟩) fun e W' hp => ?_
  obtain ⟨he, bel⟩ := hp
  subst he
  exact ⟨_, rfl, _, _, _, [], _, [], hW', trodAll_mk1 (shut_bool Tryd.underlying4 _), trodAll_below laidOut bel (by kernel_rfl) hA1, rfl, bel.frame _, fun h => by cases h⟩

noncomputable def laidWorld (os : Os) : World :=
  { World.holding Tryd.prog os ⟨#[], #[], []⟩ with heap := (World.holding Tryd.prog os ⟨#[], #[], []⟩).heap.modify 0 fun
      | .cells _ t frozen => .cells waysCells.toArray t frozen
      | o => o }
theorem laid_met (os : Os) : laidMet Tryd.prog Rows.operationExactRow.laid ((laidWorld os).forCall (fun _ _ => 0) ⟨#[], #[Value.slice none 0 0, Value.agg #[.string ByteArray.empty, .int .i64 0, .int .i64 0, .int .i64 0, .int .i64 0, .int .i64 0, .int .i64 0], Value.int .i64 0, Value.int .i64 0, Value.int .i64 0, Value.int .i64 0, Value.bool false, Value.slice none 0 0, Value.slice none 0 0], []⟩).memory :=
  laidMet_of_run' 8 (by kernel_rfl) (by kernel_rfl)
theorem reads (os : Os) {H : Type} (enc : TypeId × Value → H) : ∃ places, DataW.whole enc Tryd.prog ((laidWorld os).forCall (fun _ _ => 0) ⟨#[], #[Value.slice none 0 0, Value.agg #[.string ByteArray.empty, .int .i64 0, .int .i64 0, .int .i64 0, .int .i64 0, .int .i64 0, .int .i64 0], Value.int .i64 0, Value.int .i64 0, Value.int .i64 0, Value.int .i64 0, Value.bool false, Value.slice none 0 0, Value.slice none 0 0], []⟩).memory Tryd.f8.params.toList Rows.operationExactSpec.vars false #[Value.slice none 0 0, Value.agg #[.string ByteArray.empty, .int .i64 0, .int .i64 0, .int .i64 0, .int .i64 0, .int .i64 0, .int .i64 0], Value.int .i64 0, Value.int .i64 0, Value.int .i64 0, Value.int .i64 0, Value.bool false, Value.slice none 0 0, Value.slice none 0 0].toList 8 = some ([.nil, .agg [.lit (.string []), .lit (.int .i64 0), .agg [.agg [.lit (.int .i64 0), .lit (.int .i64 0)], .lit (.int .i64 0), .lit (.int .i64 0)], .lit (.int .i64 0)], .lit (.int .i64 0), .lit (.int .i64 0), .lit (.int .i64 0), .lit (.int .i64 0), .lit (.bool false), .nil, .nil], [], places) :=
  ⟨[], by kernel_rfl⟩

set_option maxRecDepth 100000 in
theorem lifted (os : Os) (started : os.Started) (H : Type) (enc : TypeId × Value → H) (F : Stop.Interp) :
    ReturnsInHanded {} Tryd.checked os 8 .any ((OpenSpec.ofChange Rows.operationExactSpec).preRow enc Tryd.prog Tryd.f8 Rows.operationExactRow.domain false Rows.operationExactRow.laid) (((OpenSpec.ofChange Rows.operationExactSpec).at F).post enc Tryd.prog Tryd.f8 false true false false) := by
  obtain ⟨places, hx⟩ := reads os enc
  refine returnsInHanded_of_row (C := Tryd.checked) (s := OpenSpec.ofChange Rows.operationExactSpec) own started (by kernel_rfl) Tryd.func8
    (witness_row_at (enc := enc) (C := Tryd.checked) false (laidWorld os) #[Value.slice none 0 0, Value.agg #[.string ByteArray.empty, .int .i64 0, .int .i64 0, .int .i64 0, .int .i64 0, .int .i64 0, .int .i64 0], Value.int .i64 0, Value.int .i64 0, Value.int .i64 0, Value.int .i64 0, Value.bool false, Value.slice none 0 0, Value.slice none 0 0] rfl (by kernel_rfl) (by kernel_rfl) (by kernel_rfl)
      (OpenSpec.preRow_of_cond 8 hx (by kernel_rfl) (fun k hk => by cases hk) (by kernel_rfl) (laid_met os))) ?_
  intro W base args ds gs before hval hW _ _ _ hL _ _
  exact contract H enc W args ds gs before hval hW hL

theorem said : Rows.OperationExactSaid :=
  OpenClaim.holds_of_cond 8 Tryd.f8 rfl rfl rfl rfl rfl rfl rfl ⟨rfl, rfl, rfl, rfl, rfl⟩ rfl rfl rfl rfl rfl (by kernel_rfl) Tryd.func8 (by kernel_rfl)
    (of_decide_eq_true (by kernel_rfl)) (by unfold Func.isWrapper; first | (rw [if_pos (by decide +kernel)]; kernel_rfl) | (rw [if_neg (by decide +kernel)]; exact ⟨rfl, rfl⟩))
    (fun os started H enc _ F => by rw [OpenClaim.pre_eq_preRow]; exact lifted os started H enc F)

theorem plain (f : FuncId) (fn : Func) (hf : Tryd.pinned.checked.prog.funcNamed "dynpos/dynposlaw30.OperationExact" = some f) (hfn : Tryd.pinned.checked.prog.funcs[f]? = some fn) :
    false = Tryd.pinned.checked.prog.looks [] ∧ ∀ (j : Nat) t, fn.params[j]? = some t → Tryd.pinned.checked.prog.wantsStandIn t = false := by
  obtain rfl : f = 8 := Option.some.inj ((show Tryd.prog.funcNamed "dynpos/dynposlaw30.OperationExact" = some 8 by kernel_rfl).symm.trans hf) |>.symm
  obtain rfl : fn = Tryd.f8 := (Option.some.inj (Tryd.func8.symm.trans hfn)).symm
  refine ⟨by kernel_rfl, fun j t ht => ?_⟩
  rw [Tryd.params8] at ht
  have hm := Array.mem_of_getElem? ht
  simp only [List.mem_toArray, List.mem_cons, List.not_mem_nil, or_false] at hm
  rcases hm with rfl | rfl | rfl | rfl | rfl | rfl | rfl | rfl | rfl
  · exact (show Tryd.prog.wantsStandIn 22 = false by kernel_rfl)
  · exact (show Tryd.prog.wantsStandIn 31 = false by kernel_rfl)
  · exact (show Tryd.prog.wantsStandIn 3 = false by kernel_rfl)
  · exact (show Tryd.prog.wantsStandIn 3 = false by kernel_rfl)
  · exact (show Tryd.prog.wantsStandIn 3 = false by kernel_rfl)
  · exact (show Tryd.prog.wantsStandIn 3 = false by kernel_rfl)
  · exact (show Tryd.prog.wantsStandIn 4 = false by kernel_rfl)
  · exact (show Tryd.prog.wantsStandIn 22 = false by kernel_rfl)
  · exact (show Tryd.prog.wantsStandIn 22 = false by kernel_rfl)

theorem card : Rows.OperationExactCardSaid :=
  Claim7.holds_tied_plain_at .later [] _ _ _ _ said (fun _ h => by cases h) (by kernel_rfl) (fun _ h => by cases h) operationExact_row_tie rfl ⟨rfl, rfl⟩ (by kernel_rfl) rfl plain (by kernel_rfl)

end Go.Proofs.YtakbldjmgfcipaaDoor.operationExact
namespace Go.Proofs.YtakbldjmgfcipaaDoor
theorem operationExact_card : Rows.OperationExactCardSaid := operationExact.card
end Go.Proofs.YtakbldjmgfcipaaDoor

