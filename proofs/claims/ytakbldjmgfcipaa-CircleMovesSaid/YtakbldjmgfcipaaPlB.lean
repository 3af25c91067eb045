/-
  CIRCLE, the plain laws: the ticks that are left, what a source draws, and the law that all functions are exact.
-/
import Derived.Test.YtakbldjmgfcipaaPlA
namespace Go.Proofs.Ytakbldjmgfcipaa
open Go.SL

theorem whileN_succ {σ ρ : Type} {f : σ → Option (Ctl σ ρ)} {n : Nat} {s : σ} : whileN f (n + 1) s = (match f s with
    | some (.next s') => whileN f n s'
    | some (.brk s') => some (.next s')
    | some (.ret r) => some (.ret r)
    | none => none) := by
  rw [whileN]
  cases f s with
  | none => rfl
  | some k => cases k <;> rfl

/-! ### the ticks that are left -/
/-- an estimate with another bound -/
def wide (e : api_Estimate) (b : Int) : api_Estimate := ⟨e.Point, b, e.Time, e.State⟩
theorem wide_self (e : api_Estimate) : wide e e.Bound = e := rfl

/-- how many ticks are left, of so many that are looked at -/
def ticks (c : api_Circle) (e : api_Estimate) (s : Int) : Nat → Nat → Nat
  | 0, n => n
  | m + 1, n => if worst c (wide e (w64 (e.Bound + (n + 1 : Nat) * s))) = 3 then n else ticks c e s m (n + 1)

theorem leftA (c : api_Circle) (e : api_Estimate) (s : Int) : ∀ (m n fuel : Nat), n + m = 400 → m < fuel → ∃ b, whileN (F24_l0 c e s) fuel ((n : Int), w64 (e.Bound + n * s)) = some (.next ((ticks c e s m n : Int), b))
  | 0, n, 0, _, hf => by omega
  | 0, n, fuel + 1, hn, _ => by
    have h : decide (((n : Int)) < 400) = false := by simp; omega
    refine ⟨w64 (e.Bound + n * s), ?_⟩
    simp only [whileN, F24_l0, h, cond_false, ticks]
  | m + 1, n, 0, _, hf => by omega
  | m + 1, n, fuel + 1, hn, hf => by
    have h : decide (((n : Int)) < 400) = true := by simp; omega
    have hw : w64 (w64 (e.Bound + n * s) + s) = w64 (e.Bound + (n + 1 : Nat) * s) := by
      have e1 : e.Bound + n * s + s = e.Bound + (n + 1 : Nat) * s := by push_cast; rw [Int.add_mul]; omega
      rw [w64_add, e1]
    simp only [whileN, F24_l0, h, cond_true, hw, Worst_eq, Option.bind_some, ticks]
    by_cases h3 : worst c (wide e (w64 (e.Bound + (n + 1 : Nat) * s))) = 3
    · have h3' : (worst c ⟨e.Point, w64 (e.Bound + (n + 1 : Nat) * s), e.Time, e.State⟩ == 3) = true := by simpa [wide] using h3
      rw [h3', if_pos h3]
      exact ⟨w64 (e.Bound + n * s), by simp only [cond_true]⟩
    · have h3' : (worst c ⟨e.Point, w64 (e.Bound + (n + 1 : Nat) * s), e.Time, e.State⟩ == 3) = false := by simpa [wide] using h3
      rw [h3', if_neg h3]
      obtain ⟨b, hb⟩ := leftA c e s m (n + 1) fuel (by omega) (by omega)
      refine ⟨b, ?_⟩
      rw [← hb]
      have : w64 ((n : Int) + 1) = ((n + 1 : Nat) : Int) := by rw [w64_in (by omega)]; omega
      simp only [cond_false, this]

theorem leftB (c : api_Circle) (e : api_Estimate) (s : Int) (hs : 0 ≤ s ∧ s ≤ 1000) : ∀ (m n fuel : Nat), n + m = 400 → m < fuel → ∃ b, whileN (F25_l0 c e s) fuel ((n : Int), ((n + 1 : Nat) : Int)) = some (.next ((ticks c e s m n : Int), b))
  | 0, n, 0, _, hf => by omega
  | 0, n, fuel + 1, hn, _ => by
    have h : decide (((n + 1 : Nat) : Int) ≤ 400) = false := by simp; omega
    refine ⟨((n + 1 : Nat) : Int), ?_⟩
    simp only [whileN, F25_l0, h, cond_false, ticks]
  | m + 1, n, 0, _, hf => by omega
  | m + 1, n, fuel + 1, hn, hf => by
    have h : decide (((n + 1 : Nat) : Int) ≤ 400) = true := by simp; omega
    have hp : ((n + 1 : Nat) : Int) * s ≤ 400 * 1000 := Int.mul_le_mul (by omega) hs.2 hs.1 (by omega)
    have hp0 : 0 ≤ ((n + 1 : Nat) : Int) * s := Int.mul_nonneg (by omega) hs.1
    have hc : c25_3 c e s ((n : Int), ((n + 1 : Nat) : Int)) = (worst c (wide e (w64 (e.Bound + (n + 1 : Nat) * s))) == 3) := by
      unfold c25_3
      rw [w64_in (n := ((n + 1 : Nat) : Int) * s) (by omega), worst20]
      rfl
    simp only [whileN, F25_l0, h, cond_true, hc, ticks]
    by_cases h3 : worst c (wide e (w64 (e.Bound + (n + 1 : Nat) * s))) = 3
    · have h3' : (worst c (wide e (w64 (e.Bound + (n + 1 : Nat) * s))) == 3) = true := by simpa using h3
      rw [h3', if_pos h3]
      exact ⟨((n + 1 : Nat) : Int), by simp only [cond_true]⟩
    · have h3' : (worst c (wide e (w64 (e.Bound + (n + 1 : Nat) * s))) == 3) = false := by simpa using h3
      rw [h3', if_neg h3]
      obtain ⟨b, hb⟩ := leftB c e s hs m (n + 1) fuel (by omega) (by omega)
      refine ⟨b, ?_⟩
      rw [← hb]
      have : w64 (((n + 1 : Nat) : Int) + 1) = ((n + 1 + 1 : Nat) : Int) := by rw [w64_in (by omega)]; push_cast; rfl
      simp only [cond_false, this]

/-- the ticks that are left, plainly -/
def left (c : api_Circle) (e : api_Estimate) (s : Int) : Int := if s < 0 ∨ 1000 < s ∨ worst c e = 3 then -1 else (ticks c e s 400 0 : Int)

theorem Left_eq (c : api_Circle) (e : api_Estimate) (s : Int) (hb : -9223372036854775808 ≤ e.Bound ∧ e.Bound ≤ 9223372036854775807) : F24 c e s = some (left c e s) := by
  unfold F24 left guardO c24_0
  by_cases hs : s < 0 ∨ 1000 < s
  · have h1 : (decide (s < 0) || decide (s > 1000)) = true := by simp; omega
    have h2 : s < 0 ∨ 1000 < s ∨ worst c e = 3 := by omega
    simp [allEqB, h1, h2]
  · have h1 : (decide (s < 0) || decide (s > 1000)) = false := by simp; omega
    simp only [allEqB, h1, Worst_eq, Bool.and_true, beq_self_eq_true, cond_true, Option.bind_some, Bool.false_or]
    by_cases hw : worst c e = 3
    · have h2 : s < 0 ∨ 1000 < s ∨ worst c e = 3 := by omega
      simp [hw]
    · have h2 : ¬ (s < 0 ∨ 1000 < s ∨ worst c e = 3) := by omega
      have hw' : (worst c e == 3) = false := by simpa using hw
      rw [hw', if_neg h2]
      simp only [cond_false]
      obtain ⟨b, h⟩ := leftA c e s 400 0 403 rfl (by omega)
      have e0 : w64 (e.Bound + ((0 : Nat) : Int) * s) = e.Bound := by rw [w64_in] <;> simp <;> omega
      rw [e0] at h
      have h' : whileN (F24_l0 c e s) 403 (0, e.Bound) = some (.next ((ticks c e s 400 0 : Int), b)) := h
      rw [h']
      rfl

theorem left25 (c : api_Circle) (e : api_Estimate) (s : Int) (hb : -9223372036854775808 ≤ e.Bound ∧ e.Bound ≤ 9223372036854775807) : F25 c e s = some (left c e s) := by
  unfold F25 left c25_0
  by_cases hs : s < 0 ∨ 1000 < s
  · have h1 : (decide (s < 0) || decide (s > 1000)) = true := by simp; omega
    have h2 : s < 0 ∨ 1000 < s ∨ worst c e = 3 := by omega
    simp [h1, h2]
  · have h1 : (decide (s < 0) || decide (s > 1000)) = false := by simp; omega
    rw [h1]
    simp only [cond_false]
    have hc : c25_3 c e s ((-1 : Int), 0) = (worst c e == 3) := by
      unfold c25_3
      have e1 : w64 (e.Bound + w64 (0 * s)) = e.Bound := by
        rw [Int.zero_mul, w64_in (n := 0) (by omega), Int.add_zero, w64_in hb]
      show (F20 c ⟨e.Point, w64 (e.Bound + w64 (0 * s)), e.Time, e.State⟩ == 3) = _
      rw [e1, worst20]
    have hl : decide ((0 : Int) ≤ 400) = true := rfl
    rw [show (403 : Nat) = 402 + 1 from rfl, whileN_succ]
    simp only [F25_l0, hl, cond_true, hc]
    by_cases hw : worst c e = 3
    · have hw' : (worst c e == 3) = true := by simpa using hw
      rw [hw', if_pos (by omega)]
      rfl
    · have hw' : (worst c e == 3) = false := by simpa using hw
      rw [hw', if_neg (by omega)]
      obtain ⟨b, h⟩ := leftB c e s (by omega) 400 0 402 rfl (by omega)
      have e1 : w64 ((0 : Int) + 1) = ((0 + 1 : Nat) : Int) := by rw [w64_in (by omega)]; rfl
      have h' : whileN (F25_l0 c e s) 402 (0, w64 (0 + 1)) = some (.next ((ticks c e s 400 0 : Int), b)) := by rw [e1]; exact h
      simp only [cond_false, h']
      rfl

/-! ### what a source draws -/
/-- a source that is in order -/
def srcOk (s : dynposmake_Src) : Prop := 0 ≤ s.At ∧ s.L.length ≤ 600

theorem mod_ok (x n : Int) (hn : n ≤ 1000000000) : ∃ y, F27 x n = some y ∧ 0 ≤ y ∧ (0 < n → y < n) ∧ (n ≤ 0 → y = 0) := by
  unfold F27
  by_cases h : n < 1
  · have h1 : decide (n < 1) = true := by simpa using h
    rw [h1]
    exact ⟨0, rfl, Int.le_refl _, by omega, by omega⟩
  · have h1 : decide (n < 1) = false := by simpa using h
    have h2 : nzI n = some () := by
      unfold nzI
      have : (n == 0) = false := by simp; omega
      rw [this]; rfl
    rw [h1]
    simp only [cond_false, h2, Option.bind_some]
    have h3 := Int.tmod_lt_of_pos x (show 0 < n by omega)
    have h4 : -n < Int.tmod x n := by
      have := Int.lt_tmod_of_pos x (show 0 < n by omega)
      omega
    rw [w64_in (by omega)]
    have h5 := Int.tmod_lt_of_pos (Int.tmod x n + n) (show 0 < n by omega)
    have h6 : 0 ≤ Int.tmod (Int.tmod x n + n) n := Int.tmod_nonneg _ (by omega)
    exact ⟨_, rfl, h6, fun _ => h5, by omega⟩

theorem N_ok {s : dynposmake_Src} (hs : srcOk s) (n : Int) (hn : n ≤ 1000000000) : ∃ y s', F28 s n = some (y, s') ∧ srcOk s' ∧ 0 ≤ y ∧ (0 < n → y < n) := by
  obtain ⟨h1, h2⟩ := hs
  unfold F28
  by_cases h : (s.L.length : Int) ≤ s.At
  · have h3 : decide (s.At ≥ (s.L.length : Int)) = true := by simpa using h
    rw [h3]
    exact ⟨0, s, rfl, ⟨h1, h2⟩, Int.le_refl _, fun h => h⟩
  · have h3 : decide (s.At ≥ (s.L.length : Int)) = false := by simpa using h
    rw [h3]
    simp only [cond_false]
    have e1 : w64 (w64 (s.At + 1) - 1) = s.At := by
      rw [w64_in (n := s.At + 1) (by omega), w64_in (by omega)]; omega
    rw [e1]
    have hlt : s.At.toNat < s.L.length := by omega
    have h4 : getI s.L s.At = some s.L[s.At.toNat] := by
      unfold getI
      have : decide (0 ≤ s.At) = true := by simpa using h1
      rw [this]
      simp only [cond_true]
      exact List.getElem?_eq_getElem hlt
    rw [h4]
    simp only [Option.bind_some]
    obtain ⟨y, h5, h6, h7, _⟩ := mod_ok s.L[s.At.toNat] n hn
    rw [h5]
    refine ⟨y, _, rfl, ⟨?_, h2⟩, h6, h7⟩
    show 0 ≤ w64 (s.At + 1)
    rw [w64_in (by omega)]; omega

theorem Pick_ok {s : dynposmake_Src} (hs : srcOk s) (l : List Int) (h0 : 0 < l.length) (hl : l.length ≤ 1000) : ∃ y s', F23 s l = some (y, s') ∧ srcOk s' ∧ y ∈ l := by
  unfold F23
  obtain ⟨y, s', h1, h2, h3, h4⟩ := N_ok hs (l.length : Int) (by omega)
  rw [h1]
  simp only [Option.bind_some]
  have h5 := h4 (by omega)
  have hlt : y.toNat < l.length := by omega
  have h6 : getI l y = some l[y.toNat] := by
    unfold getI
    have : decide (0 ≤ y) = true := by simpa using h3
    rw [this]
    simp only [cond_true]
    exact List.getElem?_eq_getElem hlt
  rw [h6]
  exact ⟨_, s', rfl, h2, List.getElem_mem hlt⟩

theorem New_ok (l : List Int) (hl : l.length ≤ 600) : ∃ s, F10 l = some s ∧ srcOk s := by
  unfold F10
  have h1 : min (l.length : Int) 600 = l.length := by omega
  rw [h1]
  have h2 : cutI l 0 (l.length : Int) = some l := by
    unfold cutI
    have : (decide ((0 : Int) ≤ 0) && (decide ((0 : Int) ≤ l.length) && decide ((l.length : Int) ≤ l.length))) = true := by simp
    rw [this]
    simp
  rw [h2]
  exact ⟨_, rfl, Int.le_refl _, hl⟩

theorem Circle_ok {s : dynposmake_Src} (hs : srcOk s) : ∃ c s', F11 s = some (c, s') ∧ srcOk s' ∧ c.Place.X ∈ [0, 0, 200] ∧ c.Place.Y ∈ [0, 0, (-100)] ∧ c.Yellow ∈ [0, 300, 500, 2000] ∧ ∃ d, d ∈ [0, 500, 3000] ∧ c.Red = w64 (c.Yellow + d) := by
  unfold F11
  obtain ⟨a, s1, h1, k1, m1⟩ := Pick_ok hs [0, 300, 500, 2000] (by simp) (by simp)
  obtain ⟨b, s2, h2, k2, m2⟩ := Pick_ok k1 [0, 0, 200] (by simp) (by simp)
  obtain ⟨c, s3, h3, k3, m3⟩ := Pick_ok k2 [0, 0, (-100)] (by simp) (by simp)
  obtain ⟨d, s4, h4, k4, m4⟩ := Pick_ok k3 [0, 500, 3000] (by simp) (by simp)
  simp only [h1, h2, h3, h4, Option.bind_some]
  exact ⟨_, _, rfl, k4, m2, m3, m1, d, m4, rfl⟩
theorem Estimate_ok {s : dynposmake_Src} (hs : srcOk s) (t : Int) : ∃ e s', F14 s t = some (e, s') ∧ srcOk s' ∧ e.Point.X ∈ [0, 300, (-700), 5000] ∧ e.Point.Y ∈ [0, 400, (-100)] ∧ e.Bound ∈ [0, 10, 100, 900] ∧ e.Time = t ∧ e.State ∈ [1, 1, 2, 0] := by
  unfold F14
  obtain ⟨a, s1, h1, k1, m1⟩ := Pick_ok hs [0, 300, (-700), 5000] (by simp) (by simp)
  obtain ⟨b, s2, h2, k2, m2⟩ := Pick_ok k1 [0, 400, (-100)] (by simp) (by simp)
  obtain ⟨c, s3, h3, k3, m3⟩ := Pick_ok k2 [0, 10, 100, 900] (by simp) (by simp)
  obtain ⟨d, s4, h4, k4, m4⟩ := Pick_ok k3 [1, 1, 2, 0] (by simp) (by simp)
  simp only [h1, h2, h3, h4, Option.bind_some]
  exact ⟨_, _, rfl, k4, m1, m2, m3, rfl, m4⟩

/-! ### the law -/
theorem circleExact (t : List Int) (raw : api_Circle) (odd : api_Estimate) (speed : Int) (hb : -9223372036854775808 ≤ odd.Bound ∧ odd.Bound ≤ 9223372036854775807) : F3 t raw odd speed = some true := by
  unfold F3
  by_cases hl : (t.length : Int) > 600
  · have h : decide ((t.length : Int) > 600) = true := by simpa using hl
    rw [h]
    simp only [cond_true, sane_ok, Option.bind_some]
  · have h : decide ((t.length : Int) > 600) = false := by simpa using hl
    rw [h]
    simp only [cond_false]
    obtain ⟨s0, h0, k0⟩ := New_ok t (by omega)
    obtain ⟨c, s1, h1, k1, _⟩ := Circle_ok k0
    obtain ⟨e, s2, h2, k2, _, _, hB, _⟩ := Estimate_ok k1 3
    obtain ⟨n1, s3, h3, k3, _⟩ := Pick_ok k2 [0, 10, 300, 1000] (by simp) (by simp)
    obtain ⟨n2, s4, h4, k4, _⟩ := Pick_ok k3 [0, 10, 300, 1000] (by simp) (by simp)
    obtain ⟨e2, s5, h5, k5, _, _, hB2, _⟩ := Estimate_ok k4 3
    obtain ⟨n3, s6, h6, k6, _⟩ := Pick_ok k5 [0, 10, 300, 1000] (by simp) (by simp)
    obtain ⟨n4, s7, h7, k7, _⟩ := Pick_ok k6 [0, 10, 300, 1000] (by simp) (by simp)
    have b1 : -9223372036854775808 ≤ e.Bound ∧ e.Bound ≤ 9223372036854775807 := by simp at hB; omega
    have b2 : -9223372036854775808 ≤ e2.Bound ∧ e2.Bound ≤ 9223372036854775807 := by simp at hB2; omega
    simp [h0, h1, h2, h3, h4, h5, h6, h7, check_eq, Far_eq, Near_eq, Worst_eq, Best_eq, far16, near18, worst20, best22, Left_eq, left25, b1, b2, hb, guardO, allEqB, c3_0, c3_1, c3_2, c3_3, sane_ok]
end Go.Proofs.Ytakbldjmgfcipaa
