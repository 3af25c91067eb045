/-
  CIRCLE, the plain laws' ground: what the functions answer, without a program in sight.
-/
import Derived.Test.YtakbldjmgfcipaaMo
namespace Go.Proofs.Ytakbldjmgfcipaa
open Go.SL

theorem w64_in {n : Int} (h : -9223372036854775808 ≤ n ∧ n ≤ 9223372036854775807) : w64 n = n := IntWalk.i64_in n h
theorem w64_mod (n : Int) : ∃ k : Int, w64 n = n + k * 18446744073709551616 ∧ -9223372036854775808 ≤ w64 n ∧ w64 n ≤ 9223372036854775807 := by
  have h1 : w64 n = (n + 9223372036854775808) % 18446744073709551616 - 9223372036854775808 := by
    simp [w64, IntKind.wrap, IntKind.signed, IntKind.bits]
    split <;> omega
  refine ⟨-((n + 9223372036854775808) / 18446744073709551616), ?_, ?_, ?_⟩ <;> omega
theorem w64_w64 (n : Int) : w64 (w64 n) = w64 n := by
  obtain ⟨k, _, h1, h2⟩ := w64_mod n
  exact w64_in ⟨h1, h2⟩
theorem w64_add (n m : Int) : w64 (w64 n + m) = w64 (n + m) := by
  obtain ⟨k, h1, h2, h3⟩ := w64_mod n
  obtain ⟨k1, h4, h5, h6⟩ := w64_mod (w64 n + m)
  obtain ⟨k2, h7, h8, h9⟩ := w64_mod (n + m)
  omega

theorem valid_iff (p : api_Point) : F29 p = true ↔ (-100000000 ≤ p.X ∧ p.X ≤ 100000000 ∧ -100000000 ≤ p.Y ∧ p.Y ≤ 100000000) := by
  simp only [F29, Bool.and_eq_true, decide_eq_true_eq]
  omega
theorem valid_eq (p : api_Point) : F30 p = F29 p := by
  rw [Bool.eq_iff_iff, valid_iff]
  simp only [F30, Bool.and_eq_true, decide_eq_true_eq]
  omega
theorem check_eq (c : api_Circle) : F13 c = F12 c := by
  simp only [F13, F12, c13_0, c12_0, valid_eq]
theorem usable_eq (e : api_Estimate) : F32 e = F38 e := by
  simp only [F32, F38, valid_eq]

theorem check_iff (c : api_Circle) : (F12 c != 0) = false ↔ (F29 c.Place = true ∧ 0 ≤ c.Yellow ∧ c.Yellow ≤ c.Red ∧ c.Red ≤ 1000000) := by
  have h : (F12 c != 0) = c12_0 c := by
    unfold F12
    cases c12_0 c <;> rfl
  rw [h]
  simp only [c12_0, Bool.or_eq_false_iff, decide_eq_false_iff_not, Bool.not_eq_false']
  constructor
  · rintro ⟨⟨⟨h1, h2⟩, h3⟩, h4⟩; exact ⟨h1, by omega, by omega, by omega⟩
  · rintro ⟨h1, h2, h3, h4⟩; exact ⟨⟨⟨h1, by omega⟩, by omega⟩, by omega⟩
theorem usable_iff (e : api_Estimate) : F38 e = true ↔ (e.State ≠ 0 ∧ F29 e.Point = true ∧ 0 ≤ e.Bound ∧ e.Bound ≤ 200000000) := by
  simp only [F38, Bool.and_eq_true, decide_eq_true_eq, bne_iff_ne, ne_eq]
  constructor
  · rintro ⟨⟨⟨h1, h2⟩, h3⟩, h4⟩; exact ⟨h1, h2, by omega, by omega⟩
  · rintro ⟨h1, h2, h3, h4⟩; exact ⟨⟨⟨h1, h2⟩, by omega⟩, by omega⟩

/-- nothing can be said -/
def bad (c : api_Circle) (e : api_Estimate) : Bool := (F12 c != 0) || !F38 e
theorem bad_false {c : api_Circle} {e : api_Estimate} (h : bad c e = false) :
    (-100000000 ≤ c.Place.X ∧ c.Place.X ≤ 100000000 ∧ -100000000 ≤ c.Place.Y ∧ c.Place.Y ≤ 100000000) ∧ (0 ≤ c.Yellow ∧ c.Yellow ≤ c.Red ∧ c.Red ≤ 1000000) ∧
    (-100000000 ≤ e.Point.X ∧ e.Point.X ≤ 100000000 ∧ -100000000 ≤ e.Point.Y ∧ e.Point.Y ≤ 100000000) ∧ 0 ≤ e.Bound ∧ e.Bound ≤ 200000000 ∧ e.State ≠ 0 := by
  unfold bad at h
  rw [Bool.or_eq_false_iff] at h
  have h1 := (check_iff c).1 h.1
  have h2 : F38 e = true := by simpa using h.2
  have h2 := (usable_iff e).1 h2
  exact ⟨(valid_iff _).1 h1.1, h1.2, (valid_iff _).1 h2.2.1, h2.2.2.1, h2.2.2.2, h2.1⟩

theorem squares1 (a : Int) : F39 [a] = some (w64 (a * a)) := by
  have : F39 [a] = some (w64 (0 + w64 (a * a))) := rfl
  rw [this, Int.zero_add, w64_w64]
theorem squares2 (a b : Int) : F39 [a, b] = some (w64 (w64 (a * a) + w64 (b * b))) := by
  have : F39 [a, b] = some (w64 (w64 (0 + w64 (a * a)) + w64 (b * b))) := rfl
  rw [this, Int.zero_add, w64_w64]

/-- the distance along one axis -/
def ax (a b : Int) : Int := if a < b then b - a else a - b
theorem ax_nonneg (a b : Int) : 0 ≤ ax a b := by unfold ax; split <;> omega
theorem apart_eq {a b : Int} (ha : -100000000 ≤ a ∧ a ≤ 100000000) (hb : -100000000 ≤ b ∧ b ≤ 100000000) : F40 a b = ax a b := by
  unfold F40 ax
  rw [w64_in (n := a - b) (by omega), w64_in (n := b - a) (by omega)]
  split <;> omega
theorem size_eq {a b : Int} (ha : -100000000 ≤ a ∧ a ≤ 100000000) (hb : -100000000 ≤ b ∧ b ≤ 100000000) : F33 (w64 (a - b)) = ax a b := by
  rw [w64_in (n := a - b) (by omega)]
  unfold F33 ax
  cases hd : decide (a - b < 0) with
  | true => simp at hd; simp only [cond_true]; rw [w64_in (by omega), if_pos (by omega)]; omega
  | false => simp at hd; simp only [cond_false]; rw [if_neg (by omega)]

theorem mul_range {a : Int} (h : 0 ≤ a ∧ a ≤ 600000000) : 0 ≤ a * a ∧ a * a ≤ 360000000000000000 := by
  have h1 : a * a ≤ 600000000 * 600000000 := Int.mul_le_mul h.2 h.2 h.1 (by omega)
  exact ⟨Int.mul_nonneg h.1 h.1, by omega⟩
/-- the square of a distance -/
def sq2 (a b : Int) : Int := a * a + b * b
theorem sq2_w {a b : Int} (ha : 0 ≤ a ∧ a ≤ 600000000) (hb : 0 ≤ b ∧ b ≤ 600000000) : w64 (w64 (a * a) + w64 (b * b)) = sq2 a b := by
  have h1 := mul_range ha
  have h2 := mul_range hb
  rw [w64_in (n := a * a) (by omega), w64_in (n := b * b) (by omega), w64_in (by omega)]
  rfl
theorem sq2_nonneg {a b : Int} (ha : 0 ≤ a ∧ a ≤ 600000000) (hb : 0 ≤ b ∧ b ≤ 600000000) : 0 ≤ sq2 a b := by
  have h1 := mul_range ha
  have h2 := mul_range hb
  unfold sq2; omega

/-- the far square and the near square, plainly -/
def far (c : api_Circle) (e : api_Estimate) : Int := if bad c e then -1 else sq2 (ax e.Point.X c.Place.X + e.Bound) (ax e.Point.Y c.Place.Y + e.Bound)
def near (c : api_Circle) (e : api_Estimate) : Int := if bad c e then -1 else sq2 (max 0 (ax e.Point.X c.Place.X - e.Bound)) (max 0 (ax e.Point.Y c.Place.Y - e.Bound))

theorem ax_le {a b : Int} (ha : -100000000 ≤ a ∧ a ≤ 100000000) (hb : -100000000 ≤ b ∧ b ≤ 100000000) : ax a b ≤ 200000000 := by unfold ax; split <;> omega

theorem Far_eq (c : api_Circle) (e : api_Estimate) : F15 c e = some (far c e) := by
  unfold F15 F31 far
  have hb : ((F12 c != 0) || !F38 e) = bad c e := rfl
  rw [hb]
  cases h : bad c e with
  | true => rfl
  | false =>
    obtain ⟨h1, h2, h3, h4, h5, h6⟩ := bad_false h
    have a1 := apart_eq (a := e.Point.X) (b := c.Place.X) (by omega) (by omega)
    have a2 := apart_eq (a := e.Point.Y) (b := c.Place.Y) (by omega) (by omega)
    have n1 := ax_nonneg e.Point.X c.Place.X
    have n2 := ax_nonneg e.Point.Y c.Place.Y
    have l1 := ax_le (a := e.Point.X) (b := c.Place.X) (by omega) (by omega)
    have l2 := ax_le (a := e.Point.Y) (b := c.Place.Y) (by omega) (by omega)
    simp only [cond_false, squares2, Option.bind_some, a1, a2, Bool.false_eq_true, if_false]
    rw [w64_in (n := ax e.Point.X c.Place.X + e.Bound) (by omega), w64_in (n := ax e.Point.Y c.Place.Y + e.Bound) (by omega), Int.max_eq_right (by omega), Int.max_eq_right (by omega), sq2_w (by omega) (by omega)]
theorem Near_eq (c : api_Circle) (e : api_Estimate) : F17 c e = some (near c e) := by
  unfold F17 F31 near
  have hb : ((F12 c != 0) || !F38 e) = bad c e := rfl
  rw [hb]
  cases h : bad c e with
  | true => rfl
  | false =>
    obtain ⟨h1, h2, h3, h4, h5, h6⟩ := bad_false h
    have a1 := apart_eq (a := e.Point.X) (b := c.Place.X) (by omega) (by omega)
    have a2 := apart_eq (a := e.Point.Y) (b := c.Place.Y) (by omega) (by omega)
    have n1 := ax_nonneg e.Point.X c.Place.X
    have n2 := ax_nonneg e.Point.Y c.Place.Y
    have l1 := ax_le (a := e.Point.X) (b := c.Place.X) (by omega) (by omega)
    have l2 := ax_le (a := e.Point.Y) (b := c.Place.Y) (by omega) (by omega)
    simp only [cond_false, squares2, Option.bind_some, a1, a2, Bool.false_eq_true, if_false]
    have e1 : w64 (0 - e.Bound) = - e.Bound := by rw [w64_in (by omega)]; omega
    rw [e1, w64_in (n := ax e.Point.X c.Place.X + -e.Bound) (by omega), w64_in (n := ax e.Point.Y c.Place.Y + -e.Bound) (by omega), ← Int.sub_eq_add_neg, ← Int.sub_eq_add_neg, sq2_w (by omega) (by omega)]
theorem far16 (c : api_Circle) (e : api_Estimate) : F16 c e = far c e := by
  unfold F16 far
  rw [check_eq, usable_eq]
  have hb : ((F12 c != 0) || !F38 e) = bad c e := rfl
  rw [hb]
  cases h : bad c e with
  | true => rfl
  | false =>
    obtain ⟨h1, h2, h3, h4, h5, h6⟩ := bad_false h
    have a1 := size_eq (a := e.Point.X) (b := c.Place.X) (by omega) (by omega)
    have a2 := size_eq (a := e.Point.Y) (b := c.Place.Y) (by omega) (by omega)
    have n1 := ax_nonneg e.Point.X c.Place.X
    have n2 := ax_nonneg e.Point.Y c.Place.Y
    have l1 := ax_le (a := e.Point.X) (b := c.Place.X) (by omega) (by omega)
    have l2 := ax_le (a := e.Point.Y) (b := c.Place.Y) (by omega) (by omega)
    simp only [cond_false, a1, a2, Bool.false_eq_true, if_false]
    rw [w64_in (n := ax e.Point.X c.Place.X + e.Bound) (by omega), w64_in (n := ax e.Point.Y c.Place.Y + e.Bound) (by omega), sq2_w (by omega) (by omega)]
theorem near18 (c : api_Circle) (e : api_Estimate) : F18 c e = near c e := by
  unfold F18 near
  rw [check_eq, usable_eq]
  have hb : ((F12 c != 0) || !F38 e) = bad c e := rfl
  rw [hb]
  cases h : bad c e with
  | true => rfl
  | false =>
    obtain ⟨h1, h2, h3, h4, h5, h6⟩ := bad_false h
    have a1 := size_eq (a := e.Point.X) (b := c.Place.X) (by omega) (by omega)
    have a2 := size_eq (a := e.Point.Y) (b := c.Place.Y) (by omega) (by omega)
    have n1 := ax_nonneg e.Point.X c.Place.X
    have n2 := ax_nonneg e.Point.Y c.Place.Y
    have l1 := ax_le (a := e.Point.X) (b := c.Place.X) (by omega) (by omega)
    have l2 := ax_le (a := e.Point.Y) (b := c.Place.Y) (by omega) (by omega)
    simp only [cond_false, a1, a2, Bool.false_eq_true, if_false]
    rw [w64_in (n := ax e.Point.X c.Place.X - e.Bound) (by omega), w64_in (n := ax e.Point.Y c.Place.Y - e.Bound) (by omega), sq2_w (by omega) (by omega)]

theorem far_neg (c : api_Circle) (e : api_Estimate) : decide (far c e < 0) = bad c e := by
  unfold far
  cases h : bad c e with
  | true => simp
  | false =>
    obtain ⟨h1, h2, h3, h4, h5, h6⟩ := bad_false h
    have n1 := ax_nonneg e.Point.X c.Place.X
    have n2 := ax_nonneg e.Point.Y c.Place.Y
    have l1 := ax_le (a := e.Point.X) (b := c.Place.X) (by omega) (by omega)
    have l2 := ax_le (a := e.Point.Y) (b := c.Place.Y) (by omega) (by omega)
    have := sq2_nonneg (a := ax e.Point.X c.Place.X + e.Bound) (b := ax e.Point.Y c.Place.Y + e.Bound) (by omega) (by omega)
    simp; omega
theorem near_neg (c : api_Circle) (e : api_Estimate) : decide (near c e < 0) = bad c e := by
  unfold near
  cases h : bad c e with
  | true => simp
  | false =>
    obtain ⟨h1, h2, h3, h4, h5, h6⟩ := bad_false h
    have n1 := ax_nonneg e.Point.X c.Place.X
    have n2 := ax_nonneg e.Point.Y c.Place.Y
    have l1 := ax_le (a := e.Point.X) (b := c.Place.X) (by omega) (by omega)
    have l2 := ax_le (a := e.Point.Y) (b := c.Place.Y) (by omega) (by omega)
    have := sq2_nonneg (a := max 0 (ax e.Point.X c.Place.X - e.Bound)) (b := max 0 (ax e.Point.Y c.Place.Y - e.Bound)) (by omega) (by omega)
    simp; omega
theorem far_known (c : api_Circle) (e : api_Estimate) : decide (far c e ≥ 0) = !bad c e := by
  rw [← far_neg]
  by_cases h : far c e < 0
  · simp [h]
  · simp [h]; omega

/-- the zone of a square -/
def zoneOf (c : api_Circle) (n : Int) : Int := if n < 0 ∨ w64 (c.Red * c.Red) < n then 3 else if w64 (c.Yellow * c.Yellow) < n then 2 else 1
theorem zone_eq (c : api_Circle) (n : Int) : F35 c n = some (zoneOf c n) := by
  unfold F35 zoneOf guardO c35_0
  by_cases h : n < 0
  · simp [allEqB, h]
  · have h' : decide (n < 0) = false := by simpa using h
    simp only [allEqB, h', squares1, Bool.and_true, beq_self_eq_true, cond_true, Option.bind_some, Bool.false_or]
    by_cases h1 : w64 (c.Red * c.Red) < n
    · simp [h1]
    · have h1' : ¬ (n > w64 (c.Red * c.Red)) := h1
      by_cases h2 : w64 (c.Yellow * c.Yellow) < n
      · have h2' : n > w64 (c.Yellow * c.Yellow) := h2
        simp [h1, h2, h]
      · have h2' : ¬ (n > w64 (c.Yellow * c.Yellow)) := h2
        simp [h1, h2, h]
theorem zone36 (c : api_Circle) (n : Int) : F36 c n = zoneOf c n := by
  unfold F36 zoneOf c36_0 c36_1
  by_cases h : n < 0
  · simp [h]
  · by_cases h1 : w64 (c.Red * c.Red) < n
    · simp [h1]
    · by_cases h2 : w64 (c.Yellow * c.Yellow) < n
      · simp [h1, h2, h]
      · simp [h1, h2, h]

/-- the worst and the best zone -/
def worst (c : api_Circle) (e : api_Estimate) : Int := if bad c e then 3 else zoneOf c (far c e)
def best (c : api_Circle) (e : api_Estimate) : Int := if bad c e then 3 else zoneOf c (near c e)
theorem Worst_eq (c : api_Circle) (e : api_Estimate) : F19 c e = some (worst c e) := by
  unfold F19 F34 worst
  simp only [Far_eq, Option.bind_some, far_known, zone_eq]
  cases bad c e <;> rfl
theorem Best_eq (c : api_Circle) (e : api_Estimate) : F21 c e = some (best c e) := by
  unfold F21 F34 best
  simp only [Far_eq, Near_eq, Option.bind_some, far_known, zone_eq]
  cases bad c e <;> rfl
theorem worst20 (c : api_Circle) (e : api_Estimate) : F20 c e = worst c e := by
  unfold F20 worst
  rw [far16, far_neg, zone36]
  cases bad c e <;> rfl
theorem best22 (c : api_Circle) (e : api_Estimate) : F22 c e = best c e := by
  unfold F22 best
  rw [near18, near_neg, zone36]
  cases bad c e <;> rfl

theorem sane_ok : F9 = some true := by kernel_rfl
end Go.Proofs.Ytakbldjmgfcipaa
