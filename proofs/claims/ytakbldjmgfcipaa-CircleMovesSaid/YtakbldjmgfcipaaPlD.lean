/-
  CIRCLE, the plain laws: zones do not change where circle and estimate are moved alike, or mirrored; and a ship of which nothing is known.
-/
import Derived.Test.YtakbldjmgfcipaaPlC
namespace Go.Proofs.Ytakbldjmgfcipaa
open Go.SL

theorem good_in {c : api_Circle} {e : api_Estimate} (h1 : -100000000 ≤ c.Place.X ∧ c.Place.X ≤ 100000000) (h2 : -100000000 ≤ c.Place.Y ∧ c.Place.Y ≤ 100000000) (h3 : 0 ≤ c.Yellow ∧ c.Yellow ≤ c.Red ∧ c.Red ≤ 1000000)
    (h4 : -100000000 ≤ e.Point.X ∧ e.Point.X ≤ 100000000) (h5 : -100000000 ≤ e.Point.Y ∧ e.Point.Y ≤ 100000000) (h6 : 0 ≤ e.Bound ∧ e.Bound ≤ 200000000) (h7 : e.State ≠ 0) : bad c e = false := by
  have g1 : (F12 c != 0) = false := (check_iff c).2 ⟨(valid_iff _).2 ⟨h1.1, h1.2, h2.1, h2.2⟩, h3.1, h3.2.1, h3.2.2⟩
  have g2 : F38 e = true := (usable_iff e).2 ⟨h7, (valid_iff _).2 ⟨h4.1, h4.2, h5.1, h5.2⟩, h6.1, h6.2⟩
  unfold bad; rw [g1, g2]; rfl

theorem same_squares {c c' : api_Circle} {e e' : api_Estimate} (h1 : bad c e = false) (h2 : bad c' e' = false) (hX : ax e'.Point.X c'.Place.X = ax e.Point.X c.Place.X) (hY : ax e'.Point.Y c'.Place.Y = ax e.Point.Y c.Place.Y)
    (hB : e'.Bound = e.Bound) : far c' e' = far c e ∧ near c' e' = near c e := by
  unfold far near
  rw [h1, h2, hX, hY, hB]
  exact ⟨rfl, rfl⟩
theorem same_worst {c c' : api_Circle} {e e' : api_Estimate} (h1 : bad c e = false) (h2 : bad c' e' = false) (hf : far c' e' = far c e) (hR : c'.Red = c.Red) (hY : c'.Yellow = c.Yellow) : worst c' e' = worst c e := by
  unfold worst zoneOf
  rw [h1, h2, hf, hR, hY]
theorem ax_shift (a b k : Int) : ax (a + k) (b + k) = ax a b := by unfold ax; split <;> split <;> omega
theorem ax_mirror (a b : Int) : ax (-a) (-b) = ax a b := by unfold ax; split <;> split <;> omega

theorem circleMoves (t : List Int) (x y : Int) (bx : -32768 ≤ x ∧ x ≤ 32767) (by_ : -32768 ≤ y ∧ y ≤ 32767) : F7 t x y = some true := by
  unfold F7
  by_cases hl : (t.length : Int) > 600
  · have h : decide ((t.length : Int) > 600) = true := by simpa using hl
    rw [h]
    simp only [cond_true, sane_ok, Option.bind_some]
  · have h : decide ((t.length : Int) > 600) = false := by simpa using hl
    rw [h]
    simp only [cond_false]
    obtain ⟨s0, h0, k0⟩ := New_ok t (by omega)
    obtain ⟨c, s1, h1, k1, hc⟩ := Circle_fine k0
    obtain ⟨e, s2, h2, k2, hx, hy, hb, hS⟩ := known_ok k1
    have cx := hc.x
    have cy := hc.y
    have cl := hc.yellow
    have cr := hc.red
    have cm := hc.most
    have e1 : w64 (c.Place.X + w64 x) = c.Place.X + x := by rw [w64_in (n := x) (by omega), w64_in (by omega)]
    have e2 : w64 (c.Place.Y + w64 y) = c.Place.Y + y := by rw [w64_in (n := y) (by omega), w64_in (by omega)]
    have e3 : w64 (e.Point.X + w64 x) = e.Point.X + x := by rw [w64_in (n := x) (by omega), w64_in (by omega)]
    have e4 : w64 (e.Point.Y + w64 y) = e.Point.Y + y := by rw [w64_in (n := y) (by omega), w64_in (by omega)]
    have e5 : w64 (0 - c.Place.X) = -c.Place.X := by rw [w64_in (by omega)]; omega
    have e6 : w64 (0 - e.Point.X) = -e.Point.X := by rw [w64_in (by omega)]; omega
    have b0 : bad c e = false := good_in (by omega) (by omega) (by omega) (by omega) (by omega) (by omega) hS
    have b1 : bad ⟨⟨c.Place.X + x, c.Place.Y + y⟩, c.Yellow, c.Red⟩ ⟨⟨e.Point.X + x, e.Point.Y + y⟩, e.Bound, e.Time, e.State⟩ = false :=
      good_in (by simp only; omega) (by simp only; omega) (by simp only; omega) (by simp only; omega) (by simp only; omega) (by simp only; omega) hS
    have b2 : bad ⟨⟨-c.Place.X, c.Place.Y⟩, c.Yellow, c.Red⟩ ⟨⟨-e.Point.X, e.Point.Y⟩, e.Bound, e.Time, e.State⟩ = false :=
      good_in (by simp only; omega) (by simp only; omega) (by simp only; omega) (by simp only; omega) (by simp only; omega) (by simp only; omega) hS
    obtain ⟨f1, n1⟩ := same_squares b0 b1 (ax_shift _ _ x) (ax_shift _ _ y) rfl
    obtain ⟨f2, n2⟩ := same_squares b0 b2 (ax_mirror _ _) rfl rfl
    have w2 := same_worst b0 b2 f2 rfl rfl
    simp only [h0, h1, h2, Option.bind_some, e1, e2, e3, e4, e5, e6, Far_eq, Near_eq, Worst_eq, f1, n1, f2, w2]
    simp [guardO, allEqB, sane_ok]

theorem circleNowhere (t : List Int) : F8 t = some true := by
  unfold F8
  by_cases hl : (t.length : Int) > 600
  · have h : decide ((t.length : Int) > 600) = true := by simpa using hl
    rw [h]
    simp only [cond_true, sane_ok, Option.bind_some]
  · have h : decide ((t.length : Int) > 600) = false := by simpa using hl
    rw [h]
    simp only [cond_false]
    obtain ⟨s0, h0, k0⟩ := New_ok t (by omega)
    obtain ⟨c, s1, h1, k1, hc⟩ := Circle_fine k0
    obtain ⟨e, s2, h2, k2, hx, hy, hB, _, _⟩ := Estimate_ok k1 0
    obtain ⟨v, s3, h3, k3, v1, v2⟩ := N_ok k2 100 (by omega)
    have b0 : bad c ⟨e.Point, e.Bound, e.Time, 0⟩ = true := by
      unfold bad F38
      simp
    have w0 : worst c ⟨e.Point, e.Bound, e.Time, 0⟩ = 3 := by unfold worst; rw [b0]; rfl
    have w1 : best c ⟨e.Point, e.Bound, e.Time, 0⟩ = 3 := by unfold best; rw [b0]; rfl
    have w2 : far c ⟨e.Point, e.Bound, e.Time, 0⟩ = -1 := by unfold far; rw [b0]; rfl
    have w3 : F24 c ⟨e.Point, e.Bound, e.Time, 0⟩ v = some (-1) := by
      have v3 : v < 100 := v2 (by omega)
      have d1 : decide (v < 0) = false := by simp; omega
      have d2 : decide (v > 1000) = false := by simp; omega
      unfold F24 guardO c24_0
      simp [allEqB, d1, d2, Worst_eq, w0]
    simp only [h0, h1, h2, Option.bind_some, Far_eq, Worst_eq, Best_eq, w0, w1, w2, h3]
    simp [guardO, allEqB, sane_ok, w3]
end Go.Proofs.Ytakbldjmgfcipaa
