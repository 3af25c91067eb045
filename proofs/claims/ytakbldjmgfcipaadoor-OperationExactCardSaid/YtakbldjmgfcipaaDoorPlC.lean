/-
  OPERATION, the plain laws: whoever leaves, and what is fit.
-/
import Derived.Test.YtakbldjmgfcipaaDoorPlB
namespace Go.Proofs.YtakbldjmgfcipaaDoor
open Go.SL

theorem whileN_up {σ ρ : Type} (f : σ → Option (Ctl σ ρ)) (P : Nat → σ → Prop) (n : Nat)
    (step : ∀ k s, k < n → P k s → ∃ s', f s = some (.next s') ∧ P (k + 1) s')
    (stop : ∀ s, P n s → ∃ s', f s = some (.brk s')) : ∀ m k s, n < m + k → k ≤ n → P k s → ∃ s', whileN f m s = some (.next s') := by
  intro m
  induction m with
  | zero => intro k s h1 h2 _; exact absurd h1 (by omega)
  | succ m ih =>
    intro k s h1 h2 hp
    by_cases hk : k < n
    · obtain ⟨s', e, hp'⟩ := step k s hk hp
      obtain ⟨s'', e'⟩ := ih (k + 1) s' (by omega) (by omega) hp'
      exact ⟨s'', by unfold whileN; rw [e]; exact e'⟩
    · have : k = n := by omega
      subst this
      obtain ⟨s', e⟩ := stop s hp
      exact ⟨s', by unfold whileN; rw [e]⟩

/-- what is asked of an operation that is in order is answered -/
theorem Ask_ok {o : api_Operation} (ho : opOk o) {s l z r : Int} (hs : 0 ≤ s ∧ s ≤ 5) (hl : 1 ≤ l ∧ l ≤ 3) (hz : 1 ≤ z ∧ z ≤ 3) (hr : 0 ≤ r ∧ r ≤ 4) :
    ∃ y e, F14 o s l z r = some (y, e) ∧ (0 ≤ y ∧ y ≤ 5) ∧ (s = 4 ∨ s = 5 → r ≤ 3 → e = 0 → y = s) ∧ (e = 0 → r = 1 ∨ r = 2 → F32 o l z = true) := by
  unfold F14
  rw [check_ok ho hs hl hz]
  have hr' : r = 0 ∨ r = 1 ∨ r = 2 ∨ r = 3 ∨ r = 4 := by omega
  have hs' : s = 0 ∨ s = 1 ∨ s = 2 ∨ s = 3 ∨ s = 4 ∨ s = 5 := by omega
  have hc : decide (l < o.Class) = true ∨ decide (l < o.Class) = false := by cases decide (l < o.Class) <;> simp
  have hd : (z != 1) = true ∨ (z != 1) = false := by cases (z != 1) <;> simp
  have hf : decide (l < o.Class) = false → (z != 1) = false → F32 o l z = true := by
    intro h1 h2
    rw [fit_iff]
    simp at h1 h2
    exact ⟨h1, h2⟩
  rcases hr' with rfl | rfl | rfl | rfl | rfl <;> rcases hs' with rfl | rfl | rfl | rfl | rfl | rfl <;> rcases hc with hc | hc <;> rcases hd with hd | hd <;>
    (try have hf := hf hc hd) <;> simp [F31, hc, hd] <;> first | done | exact hf | exact ⟨_, _, ⟨rfl, rfl⟩, by simp, by simp [hf]⟩ | exact ⟨_, _, ⟨rfl, rfl⟩, by simp, by simp, by simp [hf]⟩

theorem next_ok {o : api_Operation} {s l z : Int} (hs : 0 ≤ s ∧ s ≤ 5) (d : Bool) : 0 ≤ next o s l z d ∧ next o s l z d ≤ 5 := by
  unfold next
  repeat' split
  all_goals omega

theorem Leaves_step {o : api_Operation} {w : dynposmake_Src} (ho : opOk o) {x i : Int} {s : dynposmake_Src} (hs : srcOk s) (hx : x = 4 ∨ x = 5) (hi : 0 ≤ i ∧ i < 12) :
    ∃ y s', F3_l0 (o, w) (x, i, s.L, s.At) = some (.next (y, i + 1, s'.L, s'.At)) ∧ srcOk s' ∧ (y = 4 ∨ y = 5) := by
  unfold F3_l0
  have h : decide (i < 12) = true := by simpa using hi.2
  simp only [h, cond_true]
  obtain ⟨r, s1, h1, k1, m1⟩ := Pick_ok hs [0, 1, 2, 3] (by simp) (by simp)
  obtain ⟨l, s2, h2, k2, l1, l2⟩ := Range_ok k1 1 3 (by omega) (by omega) (by omega)
  obtain ⟨z, s3, h3, k3, z1, z2⟩ := Range_ok k2 1 3 (by omega) (by omega) (by omega)
  have hr : 0 ≤ r ∧ r ≤ 3 := by simp at m1; omega
  obtain ⟨y, e, h4, y1, y2, y3⟩ := Ask_ok ho (s := x) (l := l) (z := z) (r := r) (by omega) ⟨l1, l2⟩ ⟨z1, z2⟩ (by omega)
  have h1' : F12 ⟨s.L, s.At⟩ [0, 1, 2, 3] = some (r, s1) := h1
  have hm : F3_m1 (x, i, s.L, s.At) (y, e) = some (.next x) := by
    unfold F3_m1
    by_cases he : e = 0
    · subst he
      simp [y2 hx hr.2 rfl]
    · have : (e == 0) = false := by simpa using he
      simp [this]
  obtain ⟨d, s4, h5, k4, _, _⟩ := N_ok k3 3 (by omega)
  have h6 := Next_eq ho (s := x) (l := l) (z := z) (by omega) ⟨l1, l2⟩ ⟨z1, z2⟩ (d == 2)
  simp only [h1', h2, h3, h4, Option.bind_some, hm, andThen, h5, h6]
  have hn : (next o x l z (d == 2) = 4 ∨ next o x l z (d == 2) = 5) ∧ (x = 5 → next o x l z (d == 2) = 5) := by
    unfold next
    rcases hx with rfl | rfl
    · cases (d == 2) <;> simp
    · simp
  have hc : c3_2 x (next o x l z (d == 2), 0) = false := by
    unfold c3_2
    obtain ⟨ha, hb⟩ := hn
    rcases hx with rfl | rfl
    · rcases ha with ha | ha <;> simp [ha]
    · simp [hb rfl]
  rw [hc]
  have hw : w64 (i + 1) = i + 1 := w64_in (by omega)
  simp only [cond_false, hw]
  exact ⟨_, _, rfl, k4, hn.1⟩

theorem operationLeaves (t : List Int) : F3 t = some true := by
  unfold F3
  by_cases hl : (t.length : Int) > 600
  · have h : decide ((t.length : Int) > 600) = true := by simpa using hl
    rw [h]
    simp only [cond_true, sane_ok, Option.bind_some]
  · have h : decide ((t.length : Int) > 600) = false := by simpa using hl
    rw [h]
    simp only [cond_false]
    obtain ⟨s0, h0, k0⟩ := New_ok t (by omega)
    obtain ⟨o, s1, h1, k1, ho⟩ := Operation_ok k0
    obtain ⟨x, s2, h2, k2, m2⟩ := Pick_ok k1 [4, 5] (by simp) (by simp)
    simp only [h0, h1, h2, Option.bind_some]
    have hx : x = 4 ∨ x = 5 := by simpa using m2
    obtain ⟨s', e⟩ := whileN_up (F3_l0 (o, s1)) (fun k s => (s.1 = 4 ∨ s.1 = 5) ∧ s.2.1 = k ∧ srcOk ⟨s.2.2.1, s.2.2.2⟩) 12
      (fun k s hk ⟨p1, p2, p3⟩ => by
        obtain ⟨a, b, c, d⟩ := s
        simp only at p1 p2 p3
        obtain ⟨y, s', e, q1, q2⟩ := Leaves_step (w := s1) ho (x := a) (i := b) (s := ⟨c, d⟩) p3 p1 (by omega)
        exact ⟨_, e, q2, by show b + 1 = _; omega, q1⟩)
      (fun s ⟨p1, p2, p3⟩ => by
        obtain ⟨a, b, c, d⟩ := s
        simp only at p2
        subst p2
        exact ⟨_, rfl⟩) 15 0 (x, 0, s2.L, s2.At) (by omega) (by omega) ⟨hx, rfl, k2⟩
    rw [e]
    simp only [andThen, sane_ok, Option.bind_some]

theorem Fit_ok {o : api_Operation} (ho : opOk o) {l z : Int} (hl : 1 ≤ l ∧ l ≤ 3) (hz : 1 ≤ z ∧ z ≤ 3) : F17 o l z = some (F32 o l z) := by
  unfold F17
  simp only [ho.1, Option.bind_some]
  have h1 : F34 l = true := by unfold F34 F31; simp; omega
  have h2 : F35 z = true := by unfold F35 F31; simp; omega
  rw [h1, h2]
  simp

theorem Fits_step {o : api_Operation} {w : dynposmake_Src} (ho : opOk o) {x i : Int} {s : dynposmake_Src} (hs : srcOk s) (hx : 0 ≤ x ∧ x ≤ 5) (hi : 0 ≤ i ∧ i < 16) :
    ∃ y s', F6_l0 (o, w) (x, i, s.L, s.At) = some (.next (y, i + 1, s'.L, s'.At)) ∧ srcOk s' ∧ (0 ≤ y ∧ y ≤ 5) := by
  unfold F6_l0
  have h : decide (i < 16) = true := by simpa using hi.2
  simp only [h, cond_true]
  obtain ⟨r, s1, h1, k1, r1, r2⟩ := N_ok hs 5 (by omega)
  have r2 := r2 (by omega)
  obtain ⟨l, s2, h2, k2, l1, l2⟩ := Range_ok k1 1 3 (by omega) (by omega) (by omega)
  obtain ⟨z, s3, h3, k3, z1, z2⟩ := Range_ok k2 1 3 (by omega) (by omega) (by omega)
  obtain ⟨y, e, h4, y1, y2, y3⟩ := Ask_ok ho (s := x) (l := l) (z := z) (r := r) (by omega) ⟨l1, l2⟩ ⟨z1, z2⟩ (by omega)
  have h1' : F16 ⟨s.L, s.At⟩ 5 = some (r, s1) := h1
  have hfit := Fit_ok ho (l := l) (z := z) ⟨l1, l2⟩ ⟨z1, z2⟩
  obtain ⟨x', hm, hx'⟩ : ∃ x', F6_m1 (o, w) (x, i, s.L, s.At) (r, s1) (l, s2) (z, s3) (y, e) = some (.next x') ∧ 0 ≤ x' ∧ x' ≤ 5 := by
    unfold F6_m1
    by_cases he : e = 0
    · subst he
      by_cases hr : r = 1 ∨ r = 2
      · have := y3 rfl hr
        rcases hr with rfl | rfl <;> exact ⟨y, by simp [guardO, allEqB, hfit, this], y1⟩
      · have e1 : (r == 1) = false := by simp; omega
        have e2 : (r == 2) = false := by simp; omega
        exact ⟨y, by simp [guardO, allEqB, e1, e2], y1⟩
    · have : (e == 0) = false := by simpa using he
      exact ⟨x, by simp [this], hx⟩
  obtain ⟨d, s4, h5, k4, _, _⟩ := N_ok k3 2 (by omega)
  have h6 := Next_eq ho (s := x') (l := l) (z := z) hx' ⟨l1, l2⟩ ⟨z1, z2⟩ (d == 1)
  have hn := next_ok (o := o) (l := l) (z := z) hx' (d == 1)
  simp only [h1', h2, h3, h4, Option.bind_some, hm, andThen, h5, h6, hfit]
  have hfz := fit_iff o l z
  unfold fit at hfz
  have hq : (next o x' l z (d == 1) = 1 ∨ next o x' l z (d == 1) = 2 → F32 o l z = true) ∧ (next o x' l z (d == 1) = 3 → ¬ (z = 3 ∨ l = 1)) := by
    unfold next
    repeat' split
    all_goals (refine ⟨?_, ?_⟩ <;> intro g <;> first | assumption | (exfalso; omega))
  have hg : ∃ v, guardO [(((0 : Int) != 0), false), (((next o x' l z (d == 1) == 2) || (next o x' l z (d == 1) == 1)), true)] (some (F32 o l z)) default = some v ∧ c6_2 (l, s2) (z, s3) (next o x' l z (d == 1), 0) v = false := by
    by_cases g : next o x' l z (d == 1) = 1 ∨ next o x' l z (d == 1) = 2
    · refine ⟨true, ?_, ?_⟩
      · rw [hq.1 g]
        rcases g with g | g <;> simp [guardO, allEqB, g]
      · unfold c6_2
        rcases g with g | g <;> simp [g]
    · have e1 : (next o x' l z (d == 1) == 1) = false := by simp; omega
      have e2 : (next o x' l z (d == 1) == 2) = false := by simp; omega
      refine ⟨default, by simp [guardO, allEqB, e1, e2], ?_⟩
      unfold c6_2
      simp only [e1, e2]
      by_cases g3 : next o x' l z (d == 1) = 3
      · have g4 := hq.2 g3
        have g5 : (z == 3) = false := by simp; omega
        have g6 : (l == 1) = false := by simp; omega
        simp [g5, g6]
      · have e3 : (next o x' l z (d == 1) == 3) = false := by simpa using g3
        simp [e3]
  obtain ⟨v, hv, hc⟩ := hg
  rw [hv]
  simp only [Option.bind_some, hc]
  have hw : w64 (i + 1) = i + 1 := w64_in (by omega)
  simp only [cond_false, hw]
  exact ⟨_, _, rfl, k4, hn⟩

theorem operationFits (t : List Int) : F6 t = some true := by
  unfold F6
  by_cases hl : (t.length : Int) > 600
  · have h : decide ((t.length : Int) > 600) = true := by simpa using hl
    rw [h]
    simp only [cond_true, sane_ok, Option.bind_some]
  · have h : decide ((t.length : Int) > 600) = false := by simpa using hl
    rw [h]
    simp only [cond_false]
    obtain ⟨s0, h0, k0⟩ := New_ok t (by omega)
    obtain ⟨o, s1, h1, k1, ho⟩ := Operation_ok k0
    simp only [h0, h1, Option.bind_some]
    obtain ⟨s', e⟩ := whileN_up (F6_l0 (o, s1)) (fun k s => (0 ≤ s.1 ∧ s.1 ≤ 5) ∧ s.2.1 = k ∧ srcOk ⟨s.2.2.1, s.2.2.2⟩) 16
      (fun k s hk ⟨p1, p2, p3⟩ => by
        obtain ⟨a, b, c, d⟩ := s
        simp only at p1 p2 p3
        obtain ⟨y, s', e, q1, q2⟩ := Fits_step (w := s1) ho (x := a) (i := b) (s := ⟨c, d⟩) p3 p1 (by omega)
        exact ⟨_, e, q2, by show b + 1 = _; omega, q1⟩)
      (fun s ⟨p1, p2, p3⟩ => by
        obtain ⟨a, b, c, d⟩ := s
        simp only at p2
        subst p2
        exact ⟨_, rfl⟩) 19 0 (0, 0, s1.L, s1.At) (by omega) (by omega) ⟨by simp, rfl, k1⟩
    rw [e]
    simp only [andThen, sane_ok, Option.bind_some]
end Go.Proofs.YtakbldjmgfcipaaDoor
