/-
  The plain law of 'RestoreStarts': what it computes is true for every byte.
-/
import Derived.Test.YtkngbnedbgndoaaGreatMo
import Derived.KernelRfl
import Derived.IntWalk
import GoSem.Claim
namespace Go.Proofs.YtkngbnedbgndoaaGreat
open Go.SL
theorem F5_congr {x y : Int} (h : Int.tmod (w64 x) 12 = Int.tmod (w64 y) 12) : F5 x = F5 y := by
  have h1 : F5_l0 x = F5_l0 y := by
    funext s
    unfold F5_l0 c5_5
    rw [h]
  unfold F5
  rw [h1, h]
theorem F5_0 : F5 0 = some true := by kernel_rfl
theorem F5_1 : F5 1 = some true := by kernel_rfl
theorem F5_2 : F5 2 = some true := by kernel_rfl
theorem F5_3 : F5 3 = some true := by kernel_rfl
theorem F5_4 : F5 4 = some true := by kernel_rfl
theorem F5_5 : F5 5 = some true := by kernel_rfl
theorem F5_6 : F5 6 = some true := by kernel_rfl
theorem F5_7 : F5 7 = some true := by kernel_rfl
theorem F5_8 : F5 8 = some true := by kernel_rfl
theorem F5_9 : F5 9 = some true := by kernel_rfl
theorem F5_10 : F5 10 = some true := by kernel_rfl
theorem F5_11 : F5 11 = some true := by kernel_rfl
theorem starts_law (x : Int) (h0 : 0 ≤ x) (h1 : x ≤ 255) : F5 x = some true := by
  have hx : w64 x = x := IntWalk.i64_in _ (by omega)
  have ht : Int.tmod x 12 = x % 12 := Int.tmod_eq_emod_of_nonneg h0
  have hy : w64 (x % 12) = x % 12 := IntWalk.i64_in _ (by omega)
  have ht2 : Int.tmod (x % 12) 12 = x % 12 := by rw [Int.tmod_eq_emod_of_nonneg (by omega)]; omega
  rw [F5_congr (x := x) (y := x % 12) (by rw [hx, hy, ht, ht2])]
  have : x % 12 = 0 ∨ x % 12 = 1 ∨ x % 12 = 2 ∨ x % 12 = 3 ∨ x % 12 = 4 ∨ x % 12 = 5 ∨ x % 12 = 6 ∨ x % 12 = 7 ∨ x % 12 = 8 ∨ x % 12 = 9 ∨ x % 12 = 10 ∨ x % 12 = 11 := by omega
  rcases this with h | h | h | h | h | h | h | h | h | h | h | h <;> rw [h]
  · exact F5_0
  · exact F5_1
  · exact F5_2
  · exact F5_3
  · exact F5_4
  · exact F5_5
  · exact F5_6
  · exact F5_7
  · exact F5_8
  · exact F5_9
  · exact F5_10
  · exact F5_11
theorem byte_lo {x : Int} (h : (Lit.int .u8 x).wf = true) : 0 ≤ x := by
  simp only [Lit.wf, Bool.and_eq_true, decide_eq_true_eq] at h
  have : (IntKind.u8).min = 0 := by kernel_rfl
  omega
theorem byte_hi {x : Int} (h : (Lit.int .u8 x).wf = true) : x ≤ 255 := by
  simp only [Lit.wf, Bool.and_eq_true, decide_eq_true_eq] at h
  have : (IntKind.u8).max = 255 := by kernel_rfl
  omega
end Go.Proofs.YtkngbnedbgndoaaGreat
