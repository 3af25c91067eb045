/-
  The law 'dynposlaw30.OperationRuns' answers true for every input, and each argument reads behind the call as it read before. No condition.
-/
import Derived.Test.YtakbldjmgfcipaaDoorK2
import Derived.Test.YtakbldjmgfcipaaDoorPlR
import Derived.Test.YtakbldjmgfcipaaDoorTab
import Derived.Test.YtakbldjmgfcipaaDoorSlW
import Derived.Test.YtakbldjmgfcipaaDoorRows
import Derived.Test.YtakbldjmgfcipaaDoorCards
import Derived.Test.YtakbldjmgfcipaaDoorTie
import Derived.Deep.DeepHandedRow
import Derived.LaidLaws
namespace Go.Proofs.YtakbldjmgfcipaaDoor.operationRuns
open Go.ChangeShapes Go.WideShapes Go.ChangeAt Go.RowKit Go.SL
set_option linter.unusedVariables false

theorem own : ownKnob Tryd.prog.godebug = none := by kernel_rfl
theorem laidOut : laidOutB Tryd.prog = true := by kernel_rfl


theorem contract (H : Type) (enc : TypeId × Value → H) (W : World) (args : Array Value) (ds gs : List (DataW H)) (before : List MemPlace)
    {base : Nat} (hval : ∀ (j : Nat) t v, Tryd.f7.params[j]? = some t → args[j]? = some v → Value.okWide Tryd.prog W .any base t v)
    (hW : DataW.Whole enc Tryd.prog Tryd.f7.params.toList Rows.operationRunsSpec.vars false W args.toList ds gs before) (hL : laidMetH Tryd.prog Rows.operationRunsRow.laid W) :
    Calls Tryd.prog 7 args W fun e W' => ∃ v, e = .returned v ∧ Rows.operationRunsSpec.post enc Tryd.prog Tryd.f7 false true false false W args v W' := by
  have hW' := hW
  obtain ⟨p, q, hA0, hV, rfl, hfz, hnd⟩ := hW
  have hA : DataW.TrodAll enc Tryd.prog W 0 (fun _ => true) true Tryd.f7.params.toList args.toList ds p := hA0
  have hA1 := hA
  rw [Tryd.params7] at hA hval hA1
  obtain ⟨v0, vs0, d0, ds0, p0, pp0, hargs, rfl, rfl, h0, q0⟩ := trodAll_cons hA
  obtain ⟨v1, vs1, d1, ds1, p1, pp1, rfl, rfl, rfl, h1, q1⟩ := trodAll_cons q0
  obtain ⟨rfl, rfl, rfl⟩ := trodAll_nil q1
  obtain rfl : args = #[v0, v1] := by cases args; simp_all
  obtain ⟨rfl, rfl⟩ := trodVars_none hV
  obtain ⟨_, _, _, rfl⟩ := okWide_slice Tryd.underlying22 (hval 0 22 v0 rfl rfl)
  obtain ⟨x0, w0, r0⟩ := Reads.one (Reads.slice Tryd.underlying22 (size := 1) (by kernel_rfl) (fun _ => rfl) (Reads.i64 Tryd.underlying3)) (fun _ => rfl) rfl h0
  obtain ⟨_, rfl⟩ := okWide_int Tryd.underlying5 (hval 1 5 v1 rfl rfl)
  obtain ⟨x1, w1, r1⟩ := Reads.one (Reads.int Tryd.underlying5) (fun _ => rfl) rfl h1
  have hk := k7 x0 x1 true (operationRuns x0 x1 (bounds_u8 w1))
  refine Calls.mono (CallOk.law hk (glob hL) ⟨r0, r1, trivial⟩) fun e W' hp => ?_
  obtain ⟨he, bel⟩ := hp
  subst he
  exact ⟨_, rfl, _, _, _, [], _, [], hW', trodAll_mk1 (shut_bool Tryd.underlying4 _), trodAll_below laidOut bel (by kernel_rfl) hA1, rfl, bel.frame _, fun h => by cases h⟩

noncomputable def laidWorld (os : Os) : World :=
  { World.holding Tryd.prog os ⟨#[], #[], []⟩ with heap := (World.holding Tryd.prog os ⟨#[], #[], []⟩).heap.modify 0 fun
      | .cells _ t frozen => .cells waysCells.toArray t frozen
      | o => o }
theorem laid_met (os : Os) : laidMet Tryd.prog Rows.operationRunsRow.laid ((laidWorld os).forCall (fun _ _ => 0) ⟨#[], #[Value.slice none 0 0, Value.int .u8 0], []⟩).memory :=
  laidMet_of_run' 8 (by kernel_rfl) (by kernel_rfl)
theorem reads (os : Os) {H : Type} (enc : TypeId × Value → H) : ∃ places, DataW.whole enc Tryd.prog ((laidWorld os).forCall (fun _ _ => 0) ⟨#[], #[Value.slice none 0 0, Value.int .u8 0], []⟩).memory Tryd.f7.params.toList Rows.operationRunsSpec.vars false #[Value.slice none 0 0, Value.int .u8 0].toList 8 = some ([.nil, .lit (.int .u8 0)], [], places) :=
  ⟨[], by kernel_rfl⟩

set_option maxRecDepth 100000 in
theorem lifted (os : Os) (started : os.Started) (H : Type) (enc : TypeId × Value → H) (F : Stop.Interp) :
    ReturnsInHanded {} Tryd.checked os 7 .any ((OpenSpec.ofChange Rows.operationRunsSpec).preRow enc Tryd.prog Tryd.f7 Rows.operationRunsRow.domain false Rows.operationRunsRow.laid) (((OpenSpec.ofChange Rows.operationRunsSpec).at F).post enc Tryd.prog Tryd.f7 false true false false) := by
  obtain ⟨places, hx⟩ := reads os enc
  refine returnsInHanded_of_row (C := Tryd.checked) (s := OpenSpec.ofChange Rows.operationRunsSpec) own started (by kernel_rfl) Tryd.func7
    (witness_row_at (enc := enc) (C := Tryd.checked) false (laidWorld os) #[Value.slice none 0 0, Value.int .u8 0] rfl (by kernel_rfl) (by kernel_rfl) (by kernel_rfl)
      (OpenSpec.preRow_of_cond 8 hx (by kernel_rfl) (fun k hk => by cases hk) (by kernel_rfl) (laid_met os))) ?_
  intro W base args ds gs before hval hW _ _ _ hL _ _
  exact contract H enc W args ds gs before hval hW hL

theorem said : Rows.OperationRunsSaid :=
  OpenClaim.holds_of_cond 7 Tryd.f7 rfl rfl rfl rfl rfl rfl rfl ⟨rfl, rfl, rfl, rfl, rfl⟩ rfl rfl rfl rfl rfl (by kernel_rfl) Tryd.func7 (by kernel_rfl)
    (of_decide_eq_true (by kernel_rfl)) (by unfold Func.isWrapper; first | (rw [if_pos (by decide +kernel)]; kernel_rfl) | (rw [if_neg (by decide +kernel)]; exact ⟨rfl, rfl⟩))
    (fun os started H enc _ F => by rw [OpenClaim.pre_eq_preRow]; exact lifted os started H enc F)

theorem plain (f : FuncId) (fn : Func) (hf : Tryd.pinned.checked.prog.funcNamed "dynpos/dynposlaw30.OperationRuns" = some f) (hfn : Tryd.pinned.checked.prog.funcs[f]? = some fn) :
    false = Tryd.pinned.checked.prog.looks [] ∧ ∀ (j : Nat) t, fn.params[j]? = some t → Tryd.pinned.checked.prog.wantsStandIn t = false := by
  obtain rfl : f = 7 := Option.some.inj ((show Tryd.prog.funcNamed "dynpos/dynposlaw30.OperationRuns" = some 7 by kernel_rfl).symm.trans hf) |>.symm
  obtain rfl : fn = Tryd.f7 := (Option.some.inj (Tryd.func7.symm.trans hfn)).symm
  refine ⟨by kernel_rfl, fun j t ht => ?_⟩
  rw [Tryd.params7] at ht
  have hm := Array.mem_of_getElem? ht
  simp only [List.mem_toArray, List.mem_cons, List.not_mem_nil, or_false] at hm
  rcases hm with rfl | rfl
  · exact (show Tryd.prog.wantsStandIn 22 = false by kernel_rfl)
  · exact (show Tryd.prog.wantsStandIn 5 = false by kernel_rfl)

theorem card : Rows.OperationRunsCardSaid :=
  Claim7.holds_tied_plain_at .later [] _ _ _ _ said (fun _ h => by cases h) (by kernel_rfl) (fun _ h => by cases h) operationRuns_row_tie rfl ⟨rfl, rfl⟩ (by kernel_rfl) rfl plain (by kernel_rfl)

end Go.Proofs.YtakbldjmgfcipaaDoor.operationRuns
namespace Go.Proofs.YtakbldjmgfcipaaDoor
theorem operationRuns_card : Rows.OperationRunsCardSaid := operationRuns.card
end Go.Proofs.YtakbldjmgfcipaaDoor

