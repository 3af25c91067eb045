/-
  The law 'dynposlaw29.CircleMoves' answers true for every input, and each argument reads behind the call as it read before. No condition.
-/
import Derived.Test.YtakbldjmgfcipaaK3
import Derived.Test.YtakbldjmgfcipaaPlD
import Derived.Test.YtakbldjmgfcipaaSlW
import Derived.Test.YtakbldjmgfcipaaRows
namespace Go.Proofs.Ytakbldjmgfcipaa.circleMoves
open Go.ChangeShapes Go.WideShapes Go.ChangeAt Go.RowKit Go.SL
set_option linter.unusedVariables false

theorem own : ownKnob Try.prog.godebug = none := by kernel_rfl
theorem laidOut : laidOutB Try.prog = true := by kernel_rfl


theorem contract (H : Type) (enc : TypeId × Value → H) (W : World) (args : Array Value) (ds gs : List (DataW H)) (before : List MemPlace)
    {base : Nat} (hval : ∀ (j : Nat) t v, Try.f7.params[j]? = some t → args[j]? = some v → Value.okWide Try.prog W .any base t v)
    (hW : DataW.Whole enc Try.prog Try.f7.params.toList Rows.circleMovesSpec.vars false W args.toList ds gs before) :
    Calls Try.prog 7 args W fun e W' => ∃ v, e = .returned v ∧ Rows.circleMovesSpec.post enc Try.prog Try.f7 false true false false W args v W' := by
  have hW' := hW
  obtain ⟨p, q, hA0, hV, rfl, hfz, hnd⟩ := hW
  have hA : DataW.TrodAll enc Try.prog W 0 (fun _ => true) true Try.f7.params.toList args.toList ds p := hA0
  have hA1 := hA
  rw [Try.params7] at hA hval hA1
  obtain ⟨v0, vs0, d0, ds0, p0, pp0, hargs, rfl, rfl, h0, q0⟩ := trodAll_cons hA
  obtain ⟨v1, vs1, d1, ds1, p1, pp1, rfl, rfl, rfl, h1, q1⟩ := trodAll_cons q0
  obtain ⟨v2, vs2, d2, ds2, p2, pp2, rfl, rfl, rfl, h2, q2⟩ := trodAll_cons q1
  obtain ⟨rfl, rfl, rfl⟩ := trodAll_nil q2
  obtain rfl : args = #[v0, v1, v2] := by cases args; simp_all
  obtain ⟨rfl, rfl⟩ := trodVars_none hV
  obtain ⟨_, _, _, rfl⟩ := okWide_slice Try.underlying22 (hval 0 22 v0 rfl rfl)
  obtain ⟨x0, w0, r0⟩ := Reads.one (Reads.slice Try.underlying22 (size := 1) (by kernel_rfl) (fun _ => rfl) (Reads.i64 Try.underlying3)) (fun _ => rfl) rfl h0
  obtain ⟨_, rfl⟩ := okWide_int Try.underlying49 (hval 1 49 v1 rfl rfl)
  obtain ⟨x1, w1, r1⟩ := Reads.one (Reads.int Try.underlying49) (fun _ => rfl) rfl h1
  obtain ⟨_, rfl⟩ := okWide_int Try.underlying49 (hval 2 49 v2 rfl rfl)
  obtain ⟨x2, w2, r2⟩ := Reads.one (Reads.int Try.underlying49) (fun _ => rfl) rfl h2
  have hk := k7 x0 x1 x2 true (circleMoves x0 x1 x2 (bounds_i16 w1) (bounds_i16 w2))
  refine Calls.mono (CallOk.law hk (fun g cells h => by simp [globTab] at h) ⟨r0, r1, r2, trivial⟩) fun e W' hp => ?_
  obtain ⟨he, bel⟩ := hp
  subst he
  exact ⟨_, rfl, _, _, _, [], _, [], hW', trodAll_mk1 (shut_bool Try.underlying4 _), trodAll_below laidOut bel (by kernel_rfl) hA1, rfl, bel.frame _, fun h => by cases h⟩

set_option maxRecDepth 100000 in
theorem lifted (os : Os) (started : os.Started) (H : Type) (enc : TypeId × Value → H) :
    ReturnsInHanded {} Try.checked os 7 .any (Rows.circleMovesSpec.pre6 enc Try.prog Try.f7 Rows.circleMovesRow.domain false) (Rows.circleMovesSpec.post enc Try.prog Try.f7 false true false false) := by
  refine returnsInHanded_of_change (C := Try.checked) own started (by kernel_rfl) Try.func7
    (ChangeSpec.witness6 (enc := enc) (C := Try.checked) false ⟨#[], #[.slice none 0 0, .int .i16 0, .int .i16 0], []⟩ 8 (by kernel_rfl) (by kernel_rfl) (by kernel_rfl) (by kernel_rfl)) ?_
  intro W base args ds gs before hval hW _ _
  exact contract H enc W args ds gs before hval hW

theorem over : Rows.circleMovesRow.holds Try.pinned (OpenSpec.ofChange Rows.circleMovesSpec) :=
  OpenClaim.holds_of_wide 7 Try.f7 rfl rfl rfl rfl rfl rfl rfl ⟨rfl, rfl, rfl, rfl, rfl⟩ rfl rfl rfl rfl rfl (by kernel_rfl) Try.func7 (by kernel_rfl)
    (of_decide_eq_true (by kernel_rfl)) (by unfold Func.isWrapper; first | (rw [if_pos (by decide +kernel)]; kernel_rfl) | (rw [if_neg (by decide +kernel)]; exact ⟨rfl, rfl⟩))
    (fun os started H enc _ => lifted os started H enc)

end Go.Proofs.Ytakbldjmgfcipaa.circleMoves
namespace Go.Proofs.Ytakbldjmgfcipaa
theorem circleMoves_holds : Rows.CircleMovesSaid := circleMoves.over
end Go.Proofs.Ytakbldjmgfcipaa

