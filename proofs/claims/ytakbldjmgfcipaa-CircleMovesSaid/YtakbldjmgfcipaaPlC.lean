/-
  CIRCLE, the plain laws: a ship in the box lies between the zones; a greater bound and a greater circle; the ticks that are left.
-/
import Derived.Test.YtakbldjmgfcipaaPlB
namespace Go.Proofs.Ytakbldjmgfcipaa
open Go.SL

/-- a circle as it is drawn -/
structure Fine (c : api_Circle) : Prop where
  x : -1000 ≤ c.Place.X ∧ c.Place.X ≤ 1000
  y : -1000 ≤ c.Place.Y ∧ c.Place.Y ≤ 1000
  yellow : 0 ≤ c.Yellow
  red : c.Yellow ≤ c.Red
  most : c.Red ≤ 10000
/-- an estimate that says something -/
structure Tells (e : api_Estimate) : Prop where
  x : -10000 ≤ e.Point.X ∧ e.Point.X ≤ 10000
  y : -10000 ≤ e.Point.Y ∧ e.Point.Y ≤ 10000
  bound : 0 ≤ e.Bound ∧ e.Bound ≤ 1000000
  state : e.State ≠ 0

theorem good {c : api_Circle} {e : api_Estimate} (hc : Fine c) (he : Tells e) : bad c e = false := by
  have h1 : (F12 c != 0) = false := (check_iff c).2 ⟨(valid_iff _).2 ⟨by have := hc.x; omega, by have := hc.x; omega, by have := hc.y; omega, by have := hc.y; omega⟩, hc.yellow, hc.red, by have := hc.most; omega⟩
  have h2 : F38 e = true := (usable_iff e).2 ⟨he.state, (valid_iff _).2 ⟨by have := he.x; omega, by have := he.x; omega, by have := he.y; omega, by have := he.y; omega⟩, he.bound.1, by have := he.bound; omega⟩
  unfold bad; rw [h1, h2]; rfl

theorem Circle_fine {s : dynposmake_Src} (hs : srcOk s) : ∃ c s', F11 s = some (c, s') ∧ srcOk s' ∧ Fine c := by
  obtain ⟨c, s', h1, h2, hx, hy, hl, d, hd, hr⟩ := Circle_ok hs
  refine ⟨c, s', h1, h2, ?_⟩
  simp at hx hy hl hd
  rw [w64_in (by omega)] at hr
  exact ⟨by omega, by omega, by omega, by omega, by omega⟩
theorem known_ok {s : dynposmake_Src} (hs : srcOk s) : ∃ e s', F26 s = some (e, s') ∧ srcOk s' ∧ (-6000 ≤ e.Point.X ∧ e.Point.X ≤ 6000) ∧ (-6000 ≤ e.Point.Y ∧ e.Point.Y ≤ 6000) ∧ (0 ≤ e.Bound ∧ e.Bound ≤ 1000) ∧ e.State ≠ 0 := by
  unfold F26
  obtain ⟨e, s1, h1, k1, hx, hy, hB, _, _⟩ := Estimate_ok hs 0
  have h3 : w64 (w64 (2 - 1) + 1) = 2 := by rw [w64_in (n := 2 - 1) (by omega), w64_in (by omega)]; rfl
  obtain ⟨y, s2, h2, k2, hy1, hy2⟩ := N_ok k1 2 (by omega)
  simp only [h1, Option.bind_some, F37, h3, h2]
  have := hy2 (by omega)
  simp at hx hy hB
  refine ⟨_, _, rfl, k2, ?_, ?_, ?_, ?_⟩
  · show -6000 ≤ e.Point.X ∧ e.Point.X ≤ 6000; omega
  · show -6000 ≤ e.Point.Y ∧ e.Point.Y ≤ 6000; omega
  · show 0 ≤ e.Bound ∧ e.Bound ≤ 1000; omega
  · show w64 (1 + y) ≠ 0
    rw [w64_in (by omega)]; omega
theorem tells_of {e : api_Estimate} (hx : -6000 ≤ e.Point.X ∧ e.Point.X ≤ 6000) (hy : -6000 ≤ e.Point.Y ∧ e.Point.Y ≤ 6000) (hb : 0 ≤ e.Bound ∧ e.Bound ≤ 1000) (hs : e.State ≠ 0) : Tells e :=
  ⟨by omega, by omega, by omega, hs⟩

theorem mul_mono {a b : Int} (h0 : 0 ≤ a) (h : a ≤ b) : a * a ≤ b * b := Int.mul_le_mul h h h0 (by omega)
theorem sq2_mono {a b a' b' : Int} (h0 : 0 ≤ a) (h1 : a ≤ a') (h2 : 0 ≤ b) (h3 : b ≤ b') : sq2 a b ≤ sq2 a' b' := by
  have := mul_mono h0 h1
  have := mul_mono h2 h3
  unfold sq2; omega
theorem sqs {c : api_Circle} (hc : Fine c) : w64 (c.Red * c.Red) = c.Red * c.Red ∧ w64 (c.Yellow * c.Yellow) = c.Yellow * c.Yellow ∧ c.Yellow * c.Yellow ≤ c.Red * c.Red := by
  have h1 := mul_range (a := c.Red) (by have := hc.most; have := hc.red; have := hc.yellow; omega)
  have h2 := mul_range (a := c.Yellow) (by have := hc.most; have := hc.red; have := hc.yellow; omega)
  exact ⟨w64_in (by omega), w64_in (by omega), mul_mono hc.yellow hc.red⟩
/-- a greater square is no better -/
theorem zone_mono {c : api_Circle} (hc : Fine c) {n m : Int} (h0 : 0 ≤ n) (h : n ≤ m) : zoneOf c n ≤ zoneOf c m := by
  obtain ⟨h1, h2, h3⟩ := sqs hc
  unfold zoneOf
  rw [h1, h2]
  split <;> split <;> (try split) <;> (try split) <;> omega
/-- a greater circle is no worse -/
theorem zone_circle {c d : api_Circle} (hc : Fine c) (hd : Fine d) (hr : c.Red ≤ d.Red) (hy : c.Yellow ≤ d.Yellow) {n : Int} : zoneOf d n ≤ zoneOf c n := by
  obtain ⟨h1, h2, h3⟩ := sqs hc
  obtain ⟨h4, h5, h6⟩ := sqs hd
  have h7 := mul_mono (a := c.Red) (b := d.Red) (by have := hc.red; have := hc.yellow; omega) hr
  have h8 := mul_mono (a := c.Yellow) (b := d.Yellow) hc.yellow hy
  unfold zoneOf
  rw [h1, h2, h4, h5]
  split <;> split <;> (try split) <;> (try split) <;> omega

theorem ax_move (a c k b : Int) (h : -b ≤ k ∧ k ≤ b) : ax (a + k) c ≤ ax a c + b ∧ ax a c - b ≤ ax (a + k) c := by
  unfold ax; split <;> split <;> omega

theorem circleCovers (t : List Int) (x y : Int) : F4 t x y = some true := by
  unfold F4
  by_cases hl : (t.length : Int) > 600
  · have h : decide ((t.length : Int) > 600) = true := by simpa using hl
    rw [h]
    simp only [cond_true, sane_ok, Option.bind_some]
  · have h : decide ((t.length : Int) > 600) = false := by simpa using hl
    rw [h]
    simp only [cond_false]
    obtain ⟨s0, h0, k0⟩ := New_ok t (by omega)
    obtain ⟨c, s1, h1, k1, hc⟩ := Circle_fine k0
    obtain ⟨e, s2, h2, k2, hx, hy, hb, hS⟩ := known_ok k1
    have he := tells_of hx hy hb hS
    have e1 : w64 (w64 (2 * e.Bound) + 1) = 2 * e.Bound + 1 := by rw [w64_in (n := 2 * e.Bound) (by omega), w64_in (by omega)]
    obtain ⟨mx, h3, m1, m2, _⟩ := mod_ok x (2 * e.Bound + 1) (by omega)
    obtain ⟨my, h4, m3, m4, _⟩ := mod_ok y (2 * e.Bound + 1) (by omega)
    have m2 := m2 (by omega)
    have m4 := m4 (by omega)
    have e2 : w64 (e.Point.X + w64 (mx - e.Bound)) = e.Point.X + (mx - e.Bound) := by rw [w64_in (n := mx - e.Bound) (by omega), w64_in (by omega)]
    have e3 : w64 (e.Point.Y + w64 (my - e.Bound)) = e.Point.Y + (my - e.Bound) := by rw [w64_in (n := my - e.Bound) (by omega), w64_in (by omega)]
    have hp : Tells ⟨⟨e.Point.X + (mx - e.Bound), e.Point.Y + (my - e.Bound)⟩, 0, e.Time, e.State⟩ := by
      refine ⟨?_, ?_, ?_, hS⟩
      · show -10000 ≤ e.Point.X + (mx - e.Bound) ∧ e.Point.X + (mx - e.Bound) ≤ 10000; omega
      · show -10000 ≤ e.Point.Y + (my - e.Bound) ∧ e.Point.Y + (my - e.Bound) ≤ 10000; omega
      · show (0 : Int) ≤ 0 ∧ (0 : Int) ≤ 1000000; omega
    have a1 := ax_move e.Point.X c.Place.X (mx - e.Bound) e.Bound (by omega)
    have a2 := ax_move e.Point.Y c.Place.Y (my - e.Bound) e.Bound (by omega)
    have n1 := ax_nonneg (e.Point.X + (mx - e.Bound)) c.Place.X
    have n2 := ax_nonneg (e.Point.Y + (my - e.Bound)) c.Place.Y
    have same : best c ⟨⟨e.Point.X + (mx - e.Bound), e.Point.Y + (my - e.Bound)⟩, 0, e.Time, e.State⟩ = worst c ⟨⟨e.Point.X + (mx - e.Bound), e.Point.Y + (my - e.Bound)⟩, 0, e.Time, e.State⟩ := by
      unfold best worst near far
      rw [good hc hp]
      simp only [Bool.false_eq_true, if_false, Int.sub_zero, Int.add_zero]
      rw [Int.max_eq_right n1, Int.max_eq_right n2]
    have low : best c e ≤ worst c ⟨⟨e.Point.X + (mx - e.Bound), e.Point.Y + (my - e.Bound)⟩, 0, e.Time, e.State⟩ := by
      unfold best worst near far
      rw [good hc hp, good hc he]
      simp only [Bool.false_eq_true, if_false, Int.add_zero]
      refine zone_mono hc ?_ (sq2_mono (by omega) (by omega) (by omega) (by omega))
      have r1 := mul_mono (a := 0) (b := max 0 (ax e.Point.X c.Place.X - e.Bound)) (by omega) (by omega)
      have r2 := mul_mono (a := 0) (b := max 0 (ax e.Point.Y c.Place.Y - e.Bound)) (by omega) (by omega)
      unfold sq2; omega
    have high : worst c ⟨⟨e.Point.X + (mx - e.Bound), e.Point.Y + (my - e.Bound)⟩, 0, e.Time, e.State⟩ ≤ worst c e := by
      unfold worst far
      rw [good hc hp, good hc he]
      simp only [Bool.false_eq_true, if_false, Int.add_zero]
      refine zone_mono hc ?_ (sq2_mono n1 (by omega) n2 (by omega))
      have r1 := mul_mono (a := 0) (b := ax (e.Point.X + (mx - e.Bound)) c.Place.X) (by omega) n1
      have r2 := mul_mono (a := 0) (b := ax (e.Point.Y + (my - e.Bound)) c.Place.Y) (by omega) n2
      unfold sq2; omega
    simp only [h0, h1, h2, e1, h3, h4, e2, e3, Option.bind_some, Worst_eq, Best_eq, same]
    simp [guardO, allEqB, sane_ok, low, high]

theorem far_wide {c : api_Circle} {e : api_Estimate} {b : Int} (hc : Fine c) (he : Tells e) (hb : e.Bound ≤ b) (hb2 : b ≤ 1000000) : worst c e ≤ worst c (wide e b) ∧ best c (wide e b) ≤ best c e := by
  have hf : Tells (wide e b) := ⟨he.x, he.y, ⟨by have := he.bound; show 0 ≤ b; omega, hb2⟩, he.state⟩
  have n1 := ax_nonneg e.Point.X c.Place.X
  have n2 := ax_nonneg e.Point.Y c.Place.Y
  have := he.bound
  unfold worst best far near
  rw [good hc he, good hc hf]
  simp only [Bool.false_eq_true, if_false, wide]
  refine ⟨zone_mono hc ?_ (sq2_mono (by omega) (by omega) (by omega) (by omega)), zone_mono hc ?_ (sq2_mono (by omega) (by omega) (by omega) (by omega))⟩
  · have r1 := mul_mono (a := 0) (b := ax e.Point.X c.Place.X + e.Bound) (by omega) (by omega)
    have r2 := mul_mono (a := 0) (b := ax e.Point.Y c.Place.Y + e.Bound) (by omega) (by omega)
    unfold sq2; omega
  · have r1 := mul_mono (a := 0) (b := max 0 (ax e.Point.X c.Place.X - b)) (by omega) (by omega)
    have r2 := mul_mono (a := 0) (b := max 0 (ax e.Point.Y c.Place.Y - b)) (by omega) (by omega)
    unfold sq2; omega
theorem best_worst {c : api_Circle} {e : api_Estimate} (hc : Fine c) (he : Tells e) : best c e ≤ worst c e := by
  have n1 := ax_nonneg e.Point.X c.Place.X
  have n2 := ax_nonneg e.Point.Y c.Place.Y
  have := he.bound
  unfold worst best far near
  rw [good hc he]
  simp only [Bool.false_eq_true, if_false]
  refine zone_mono hc ?_ (sq2_mono (by omega) (by omega) (by omega) (by omega))
  have r1 := mul_mono (a := 0) (b := max 0 (ax e.Point.X c.Place.X - e.Bound)) (by omega) (by omega)
  have r2 := mul_mono (a := 0) (b := max 0 (ax e.Point.Y c.Place.Y - e.Bound)) (by omega) (by omega)
  unfold sq2; omega

theorem circleGrows (t : List Int) (n : Int) (hn : 0 ≤ n ∧ n ≤ 65535) : F5 t n = some true := by
  unfold F5
  by_cases hl : (t.length : Int) > 600
  · have h : decide ((t.length : Int) > 600) = true := by simpa using hl
    rw [h]
    simp only [cond_true, sane_ok, Option.bind_some]
  · have h : decide ((t.length : Int) > 600) = false := by simpa using hl
    rw [h]
    simp only [cond_false]
    obtain ⟨s0, h0, k0⟩ := New_ok t (by omega)
    obtain ⟨c, s1, h1, k1, hc⟩ := Circle_fine k0
    obtain ⟨e, s2, h2, k2, hx, hy, hb, hS⟩ := known_ok k1
    obtain ⟨a, s3, h3, k3, a1, a2⟩ := N_ok k2 500 (by omega)
    obtain ⟨b, s4, h4, k4, b1, b2⟩ := N_ok k3 500 (by omega)
    have a2 := a2 (by omega)
    have b2 := b2 (by omega)
    have he := tells_of hx hy hb hS
    have e1 : w64 (e.Bound + w64 n) = e.Bound + n := by rw [w64_in (n := n) (by omega), w64_in (by omega)]
    have c1 := hc.red
    have c2 := hc.yellow
    have c3 := hc.most
    have e2 : w64 (c.Red + a) = c.Red + a := w64_in (by omega)
    have e3 : w64 (c.Yellow + b) = c.Yellow + b := w64_in (by omega)
    obtain ⟨w1, w2⟩ := far_wide hc he (b := e.Bound + n) (by omega) (by omega)
    have w3 := best_worst hc he
    have w4 : worst ⟨c.Place, min (c.Red + a) (c.Yellow + b), c.Red + a⟩ e ≤ worst c e := by
      have hg : bad ⟨c.Place, min (c.Red + a) (c.Yellow + b), c.Red + a⟩ e = false := by
        unfold bad
        have q1 := hc.x
        have q2 := hc.y
        have q3 : (F12 ⟨c.Place, min (c.Red + a) (c.Yellow + b), c.Red + a⟩ != 0) = false := (check_iff _).2 ⟨(valid_iff _).2 ⟨by show _ ≤ c.Place.X; omega, by show c.Place.X ≤ _; omega, by show _ ≤ c.Place.Y; omega, by show c.Place.Y ≤ _; omega⟩, by show 0 ≤ min (c.Red + a) (c.Yellow + b); omega, by show min (c.Red + a) (c.Yellow + b) ≤ c.Red + a; omega, by show c.Red + a ≤ _; omega⟩
        have q4 : F38 e = true := (usable_iff e).2 ⟨hS, (valid_iff _).2 ⟨by omega, by omega, by omega, by omega⟩, by omega, by omega⟩
        rw [q3, q4]; rfl
      unfold worst far
      rw [hg, good hc he]
      simp only [Bool.false_eq_true, if_false]
      obtain ⟨z1, z2, z3⟩ := sqs hc
      have z4 : w64 ((c.Red + a) * (c.Red + a)) = (c.Red + a) * (c.Red + a) := by
        have := mul_range (a := c.Red + a) (by omega)
        exact w64_in (by omega)
      have z5 : w64 (min (c.Red + a) (c.Yellow + b) * min (c.Red + a) (c.Yellow + b)) = min (c.Red + a) (c.Yellow + b) * min (c.Red + a) (c.Yellow + b) := by
        have := mul_range (a := min (c.Red + a) (c.Yellow + b)) (by omega)
        exact w64_in (by omega)
      have z6 := mul_mono (a := c.Red) (b := c.Red + a) (by omega) (by omega)
      have z7 := mul_mono (a := c.Yellow) (b := min (c.Red + a) (c.Yellow + b)) (by omega) (by omega)
      unfold zoneOf
      simp only [z1, z2, z4, z5]
      split <;> split <;> (try split) <;> (try split) <;> omega
    have f1 : (⟨e.Point, e.Bound + n, e.Time, e.State⟩ : api_Estimate) = wide e (e.Bound + n) := rfl
    simp only [h0, h1, h2, h3, h4, e1, e2, e3, Option.bind_some, Worst_eq, Best_eq, f1]
    simp [guardO, allEqB, sane_ok, w1, w2, w3, w4]

/-! ### the ticks that are left -/
theorem ticks_ok (c : api_Circle) (e : api_Estimate) (s : Int) : ∀ (m n : Nat), worst c (wide e (w64 (e.Bound + n * s))) ≠ 3 →
    n ≤ ticks c e s m n ∧ ticks c e s m n ≤ n + m ∧ worst c (wide e (w64 (e.Bound + (ticks c e s m n : Nat) * s))) ≠ 3 ∧ (ticks c e s m n < n + m → worst c (wide e (w64 (e.Bound + (ticks c e s m n + 1 : Nat) * s))) = 3)
  | 0, n, h => ⟨Nat.le_refl _, Nat.le_refl _, h, fun h => absurd h (Nat.lt_irrefl _)⟩
  | m + 1, n, h => by
    simp only [ticks]
    by_cases h3 : worst c (wide e (w64 (e.Bound + (n + 1 : Nat) * s))) = 3
    · rw [if_pos h3]
      exact ⟨Nat.le_refl _, by omega, h, fun _ => h3⟩
    · rw [if_neg h3]
      obtain ⟨g1, g2, g3, g4⟩ := ticks_ok c e s m (n + 1) h3
      exact ⟨by omega, by omega, g3, fun h => g4 (by omega)⟩

theorem circleLeft (t : List Int) (n : Int) (hn : 0 ≤ n ∧ n ≤ 65535) : F6 t n = some true := by
  unfold F6
  by_cases hl : (t.length : Int) > 600
  · have h : decide ((t.length : Int) > 600) = true := by simpa using hl
    rw [h]
    simp only [cond_true, sane_ok, Option.bind_some]
  · have h : decide ((t.length : Int) > 600) = false := by simpa using hl
    rw [h]
    simp only [cond_false]
    obtain ⟨s0, h0, k0⟩ := New_ok t (by omega)
    obtain ⟨c, s1, h1, k1, hc⟩ := Circle_fine k0
    obtain ⟨e, s2, h2, k2, hx, hy, hb, hS⟩ := known_ok k1
    obtain ⟨s, hs⟩ : ∃ s, Int.tmod (w64 n) 1001 = s := ⟨_, rfl⟩
    rw [w64_in (n := n) (by omega)] at hs
    have s1' : 0 ≤ s := by rw [← hs]; exact Int.tmod_nonneg _ hn.1
    have s2' : s < 1001 := by rw [← hs]; exact Int.tmod_lt_of_pos _ (by omega)
    simp only [h0, h1, h2, Option.bind_some, w64_in (n := n) (show _ by omega), hs]
    rw [Left_eq c e s (by omega)]
    simp only [Option.bind_some, Worst_eq]
    unfold left
    by_cases hw : worst c e = 3
    · rw [if_pos (by omega)]
      simp [hw, guardO, allEqB, sane_ok]
    · rw [if_neg (by omega)]
      have e0 : w64 (e.Bound + ((0 : Nat) : Int) * s) = e.Bound := by rw [w64_in] <;> simp <;> omega
      obtain ⟨g1, g2, g3, g4⟩ := ticks_ok c e s 400 0 (by rw [e0]; exact hw)
      obtain ⟨k, hk⟩ : ∃ k, ticks c e s 400 0 = k := ⟨_, rfl⟩
      rw [hk] at g1 g2 g3 g4 ⊢
      have p0 : 0 ≤ (k : Int) * s := Int.mul_nonneg (by omega) s1'
      have p1 : (k : Int) * s ≤ 400 * 1000 := Int.mul_le_mul (by omega) (by omega) s1' (by omega)
      have e4 : w64 ((k : Int) * s) = k * s := w64_in (by omega)
      have e5 : w64 (e.Bound + (k : Int) * s) = e.Bound + k * s := w64_in (by omega)
      have e6 : w64 (e.Bound + (k : Int) * s + s) = w64 (e.Bound + (k + 1 : Nat) * s) := by
        have : e.Bound + (k : Int) * s + s = e.Bound + (k + 1 : Nat) * s := by push_cast; rw [Int.add_mul]; omega
        rw [this]
      have hneg : decide ((k : Int) < 0) = false := by simp
      have f1 : ∀ b, (⟨e.Point, b, e.Time, e.State⟩ : api_Estimate) = wide e b := fun _ => rfl
      simp only [hneg, cond_false, e4, e5, e6, f1]
      rw [e5] at g3
      have g3' : (worst c (wide e (e.Bound + (k : Int) * s)) == 3) = false := by simpa using g3
      simp only [g3', cond_false]
      by_cases h4 : k = 400
      · subst h4
        simp [guardO, allEqB, sane_ok]
      · have g5 := g4 (by omega)
        have h4' : ((k : Int) == 400) = false := by simp; omega
        have hpos : s > 0 := by
          rcases Int.lt_or_le 0 s with h | h
          · exact h
          · exfalso
            have hz : s = 0 := by omega
            subst hz
            rw [Int.mul_zero, w64_in (by omega)] at g5
            rw [Int.mul_zero] at g3
            exact g3 g5
        have g6 : (worst c (wide e (w64 (e.Bound + ((k + 1 : Nat) : Int) * s))) == 3) = true := by simpa using g5
        have g7 : decide (s > 0) = true := by simpa using hpos
        simp only [h4', g6, g7, guardO, allEqB, sane_ok, Bool.false_or, Bool.true_or, Bool.and_true, beq_self_eq_true, cond_true, Option.bind_some]
end Go.Proofs.Ytakbldjmgfcipaa
