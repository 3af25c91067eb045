/-
  OPERATION, the plain laws: red, and better.
-/
import Derived.Test.YtakbldjmgfcipaaDoorPlA
namespace Go.Proofs.YtakbldjmgfcipaaDoor
open Go.SL

/-- leaving is always granted to an active operation -/
theorem Ask_leave {o : api_Operation} (ho : opOk o) {s l z : Int} (hs : s = 1 ∨ s = 2 ∨ s = 3) (hl : 1 ≤ l ∧ l ≤ 3) (hz : 1 ≤ z ∧ z ≤ 3) : F14 o s l z 3 = some (if s = 1 then 0 else 4, 0) := by
  unfold F14
  rw [check_ok ho (by omega) hl hz]
  rcases hs with rfl | rfl | rfl <;> rfl

theorem red_cond {o : api_Operation} {s l z : Int} (hs : s = 2 ∨ s = 3) : (next o s l z false == 4) = ((l == 1) || (z == 3)) := by
  unfold next
  have h1 : ¬ s = 1 := by omega
  rw [if_neg h1, if_pos hs]
  by_cases h : z = 3 ∨ l = 1
  · rw [if_pos h]
    rcases h with h | h <;> simp [h]
  · rw [if_neg h]
    have e1 : (l == 1) = false := by simp; omega
    have e2 : (z == 3) = false := by simp; omega
    rw [e1, e2]
    cases F32 o l z <;> rfl

theorem operationRed (t : List Int) : F4 t = some true := by
  unfold F4
  by_cases hl : (t.length : Int) > 600
  · have h : decide ((t.length : Int) > 600) = true := by simpa using hl
    rw [h]
    simp only [cond_true, sane_ok, Option.bind_some]
  · have h : decide ((t.length : Int) > 600) = false := by simpa using hl
    rw [h]
    simp only [cond_false]
    obtain ⟨s0, h0, k0⟩ := New_ok t (by omega)
    obtain ⟨o, s1, h1, k1, ho⟩ := Operation_ok k0
    obtain ⟨l, s2, h2, k2, l1, l2⟩ := Range_ok k1 1 3 (by omega) (by omega) (by omega)
    obtain ⟨z, s3, h3, k3, z1, z2⟩ := Range_ok k2 1 3 (by omega) (by omega) (by omega)
    have n2 := Next_eq ho (s := 2) (l := l) (z := z) (by omega) ⟨l1, l2⟩ ⟨z1, z2⟩ false
    have n3 := Next_eq ho (s := 3) (l := l) (z := z) (by omega) ⟨l1, l2⟩ ⟨z1, z2⟩ false
    have a2 := Ask_leave ho (s := 2) (l := l) (z := z) (by omega) ⟨l1, l2⟩ ⟨z1, z2⟩
    have a3 := Ask_leave ho (s := 3) (l := l) (z := z) (by omega) ⟨l1, l2⟩ ⟨z1, z2⟩
    have r2 := red_cond (o := o) (s := 2) (l := l) (z := z) (.inl rfl)
    have r3 := red_cond (o := o) (s := 3) (l := l) (z := z) (.inr rfl)
    simp [h0, h1, h2, h3, n2, n3, a2, a3, c4_0, c4_1, r2, r3, sane_ok]

theorem next_mono {o : api_Operation} {s l z l' z' : Int} (hs : s = 2 ∨ s = 3) (hl : l ≤ l') (hl1 : 1 ≤ l) (hz : z' ≤ z) (hz1 : 1 ≤ z') (hz3 : z ≤ 3) : next o s l' z' false ≤ next o s l z false := by
  unfold next
  have h1 : ¬ s = 1 := by omega
  rw [if_neg h1, if_pos hs, if_neg h1, if_pos hs]
  have f1 := fit_iff o l z
  have f2 := fit_iff o l' z'
  unfold fit at f1 f2
  by_cases a : z = 3 ∨ l = 1
  · rw [if_pos a]
    split
    · omega
    · split <;> omega
  · rw [if_neg a]
    have b : ¬ (z' = 3 ∨ l' = 1) := by omega
    rw [if_neg b]
    by_cases c : F32 o l z = true
    · have d : F32 o l' z' = true := f2.2 (by have := f1.1 c; omega)
      rw [if_pos c, if_pos d]; exact Int.le_refl _
    · rw [if_neg c]
      split <;> omega

theorem operationBetter (t : List Int) : F5 t = some true := by
  unfold F5
  by_cases hl : (t.length : Int) > 600
  · have h : decide ((t.length : Int) > 600) = true := by simpa using hl
    rw [h]
    simp only [cond_true, sane_ok, Option.bind_some]
  · have h : decide ((t.length : Int) > 600) = false := by simpa using hl
    rw [h]
    simp only [cond_false]
    obtain ⟨s0, h0, k0⟩ := New_ok t (by omega)
    obtain ⟨o, s1, h1, k1, ho⟩ := Operation_ok k0
    obtain ⟨x, s2, h2, k2, x1, x2⟩ := Range_ok k1 2 3 (by omega) (by omega) (by omega)
    obtain ⟨l, s3, h3, k3, l1, l2⟩ := Range_ok k2 1 3 (by omega) (by omega) (by omega)
    obtain ⟨z, s4, h4, k4, z1, z2⟩ := Range_ok k3 1 3 (by omega) (by omega) (by omega)
    obtain ⟨a, s5, h5, k5, a1, a2⟩ := N_ok k4 3 (by omega)
    obtain ⟨b, s6, h6, k6, b1, b2⟩ := N_ok k5 3 (by omega)
    have a2 := a2 (by omega)
    have b2 := b2 (by omega)
    have e1 : w64 (l + a) = l + a := w64_in (by omega)
    have e2 : w64 (z - b) = z - b := w64_in (by omega)
    have n1 := Next_eq ho (s := x) (l := l) (z := z) (by omega) ⟨l1, l2⟩ ⟨z1, z2⟩ false
    have n2 := Next_eq ho (s := x) (l := min 3 (l + a)) (z := max 1 (z - b)) (by omega) (by omega) (by omega) false
    have m := next_mono (o := o) (s := x) (l := l) (z := z) (l' := min 3 (l + a)) (z' := max 1 (z - b)) (by omega) (by omega) (by omega) (by omega) (by omega) (by omega)
    simp only [h0, h1, h2, h3, h4, h5, h6, e1, e2, n1, n2, Option.bind_some]
    simp [guardO, allEqB, sane_ok, m]
end Go.Proofs.YtakbldjmgfcipaaDoor
