/-
  The law 'dynposlaw20.RestoreStarts' answers true for every input, and each argument reads behind the call as it read before. No condition.
-/
import Derived.Test.YtkngbnedbgndoaaGreatRows
import Derived.Test.YtkngbnedbgndoaaGreatSlW
import Derived.Test.YtkngbnedbgndoaaGreatM2
import Derived.Test.YtkngbnedbgndoaaGreatLawStarts
namespace Go.Proofs.YtkngbnedbgndoaaGreat.restoreStarts
open Go.ChangeShapes Go.WideShapes Go.ChangeAt Go.RowKit Go.SL
set_option linter.unusedVariables false

theorem own : ownKnob Tryz.prog.godebug = none := by kernel_rfl
theorem laidOut : laidOutB Tryz.prog = true := by kernel_rfl


set_option maxRecDepth 100000 in
theorem contract (H : Type) (enc : TypeId × Value → H) (W : World) (args : Array Value) (ds gs : List (DataW H)) (before : List MemPlace)
    {base : Nat} (hval : ∀ (j : Nat) t v, Tryz.f5.params[j]? = some t → args[j]? = some v → Value.okWide Tryz.prog W .any base t v)
    (hW : DataW.Whole enc Tryz.prog Tryz.f5.params.toList Rows.restoreStartsSpec.vars false W args.toList ds gs before) :
    Calls Tryz.prog 5 args W fun e W' => ∃ v, e = .returned v ∧ Rows.restoreStartsSpec.post enc Tryz.prog Tryz.f5 false true false false W args v W' := by
  have hW' := hW
  obtain ⟨p, q, hA0, hV, rfl, hfz, hnd⟩ := hW
  have hA : DataW.TrodAll enc Tryz.prog W 0 (fun _ => true) true Tryz.f5.params.toList args.toList ds p := hA0
  have hA1 := hA
  rw [Tryz.params5] at hA hval hA1
  obtain ⟨v0, vs0, d0, ds0, p0, pp0, hargs, rfl, rfl, h0, q0⟩ := trodAll_cons hA
  obtain ⟨rfl, rfl, rfl⟩ := trodAll_nil q0
  obtain rfl : args = #[v0] := by cases args; simp_all
  obtain ⟨rfl, rfl⟩ := trodVars_none hV
  obtain ⟨_, rfl⟩ := okWide_int Tryz.underlying5 (hval 0 5 v0 rfl rfl)
  obtain ⟨x0, w0, r0⟩ := Reads.one (Reads.int Tryz.underlying5) (fun _ => rfl) rfl h0
  have hk := k5 x0 true (starts_law x0 (byte_lo w0) (byte_hi w0))
  refine Calls.mono (CallOk.law hk (fun g cells h => by simp [globTab] at h) ⟨r0, trivial⟩) fun e W' hp => ?_
  obtain ⟨he, bel⟩ := hp
  subst he
  exact ⟨_, rfl, _, _, _, [], _, [], hW', trodAll_mk1 (shut_bool Tryz.underlying4 _), trodAll_below laidOut bel (by kernel_rfl) hA1, rfl, bel.frame _, fun h => by cases h⟩

set_option maxRecDepth 100000 in
theorem lifted (os : Os) (started : os.Started) (H : Type) (enc : TypeId × Value → H) :
    ReturnsInHanded {} Tryz.checked os 5 .any (Rows.restoreStartsSpec.pre6 enc Tryz.prog Tryz.f5 Rows.restoreStartsRow.domain false) (Rows.restoreStartsSpec.post enc Tryz.prog Tryz.f5 false true false false) := by
  refine returnsInHanded_of_change (C := Tryz.checked) own started (by kernel_rfl) Tryz.func5
    (ChangeSpec.witness6 (enc := enc) (C := Tryz.checked) false ⟨#[], #[.int .u8 0], []⟩ 8 (by kernel_rfl) (by kernel_rfl) (by kernel_rfl) (by kernel_rfl)) ?_
  intro W base args ds gs before hval hW _ _
  exact contract H enc W args ds gs before hval hW

theorem over : Rows.restoreStartsRow.holds Tryz.pinned (OpenSpec.ofChange Rows.restoreStartsSpec) :=
  OpenClaim.holds_of_wide 5 Tryz.f5 rfl rfl rfl rfl rfl rfl rfl ⟨rfl, rfl, rfl, rfl, rfl⟩ rfl rfl rfl rfl rfl (by kernel_rfl) Tryz.func5 (by kernel_rfl)
    (of_decide_eq_true (by kernel_rfl)) (by unfold Func.isWrapper; first | (rw [if_pos (by decide +kernel)]; kernel_rfl) | (rw [if_neg (by decide +kernel)]; exact ⟨rfl, rfl⟩))
    (fun os started H enc _ => lifted os started H enc)

end Go.Proofs.YtkngbnedbgndoaaGreat.restoreStarts
namespace Go.Proofs.YtkngbnedbgndoaaGreat
theorem restoreStarts_holds : Rows.RestoreStartsSaid := restoreStarts.over
end Go.Proofs.YtkngbnedbgndoaaGreat

