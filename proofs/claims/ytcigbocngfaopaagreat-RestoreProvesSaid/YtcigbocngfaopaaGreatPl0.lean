import Derived.Test.YtcigbocngfaopaaGreatMo
import Derived.Test.YtcigbocngfaopaaGreatHo
namespace Go.Proofs.YtcigbocngfaopaaGreat
open Go.SL
theorem Mt {x n : Int} (h : 0 < n) : -n < Int.tmod x n /\ Int.tmod x n < n := by
 have h1 := Int.tmod_lt_of_pos x h
 have h2 := Int.lt_tmod_of_pos x h
 exact ⟨h2, h1⟩
theorem Ae8 {x n : Int} (h : 0 < n) (h0 : 0 <= x) : 0 <= Int.tmod x n /\ Int.tmod x n < n := ⟨Int.tmod_nonneg n h0, (Mt h).2⟩
structure Bh (s : Ag) : Prop where
 lo : 0 <= s.At
 hi : s.At <= s.L.length
 len : s.L.length <= 600
def InR (n r : Int) : Prop := (1 <= n -> 0 <= r /\ r < n) /\ (n < 1 -> r = 0)
theorem Axz (x n : Int) (h : n <= 4611686018427387904) : Ok (Ael x n) (InR n) := by
 unfold Ael
 refine c3 (λ h1 => ?_) λ h1 => ?_
 ·simp only [cZ] at h1
  exact Ok.pure ⟨λ h2 => by omega, λ _ => rfl⟩
 ·simp only [da] at h1
  refine (Ok.nzI (by omega)).bind λ _ _ => (Ok.nzI (by omega)).bind λ _ _ => Ok.pure ⟨λ _ => ?_, λ h2 => by omega⟩
  have h2 := Mt (x := x) (n := n) (by omega)
  rw [A7 (by omega)]
  exact Ae8 (by omega) (by omega)
theorem Qb {s : Ag} (hs : Bh s) (n : Int) (h : n <= 4611686018427387904) : Ok (F60 s n) λ y => Bh y.2 /\ InR n y.1 := by
 obtain ⟨h1, h2, h3⟩ := hs
 unfold F60
 refine c3 (λ h4 => ?_) λ h4 => ?_
 ·exact Ok.pure ⟨⟨h1, h2, h3⟩, λ h5 => ⟨by simp, by show (0 : Int) < n; omega⟩, λ _ => rfl⟩
 ·simp only [da] at h4
  have e : w64 (s.At + 1) = s.At + 1 := A7 (by omega)
  rw [e, A7 (n := s.At + 1 - 1) (by omega)]
  refine (c7 (by omega) (by omega)).bind λ x _ => (Axz x n h).bind λ r hr => Ok.pure ⟨⟨?_, ?_, h3⟩, hr⟩
  ·show 0 <= s.At + 1; omega
  ·show s.At + 1 <= (s.L.length : Int); omega
theorem Ei {s : Ag} (hs : Bh s) (n : Int) (h0 : 1 <= n) (h : n <= 4611686018427387904) : Ok (F60 s n) λ y => Bh y.2 /\ 0 <= y.1 /\ y.1 < n :=
 (Qb hs n h).mono λ _ h => ⟨h.1, h.2.1 h0⟩
theorem Kq {s : Ag} (hs : Bh s) (lo hi : Int) (h : lo <= hi) (h0 : -1000000000000 <= lo) (h1 : hi <= 1000000000000) : Ok (F64 s lo hi) λ y => Bh y.2 /\ lo <= y.1 /\ y.1 <= hi := by
 unfold F64
 have e : w64 (w64 (hi - lo) + 1) = hi - lo + 1 := by rw [A7 (n := hi - lo) (by omega), A7 (by omega)]
 rw [e]
 refine (Ei hs _ (by omega) (by omega)).bind λ y hy => Ok.pure ⟨hy.1, ?_⟩
 have := hy.2
 show lo <= w64 (lo + y.1) /\ w64 (lo + y.1) <= hi
 rw [A7 (by omega)]
 omega
theorem Ep {s : Ag} (hs : Bh s) (l : List Int) (h : 1 <= l.length) (h1 : l.length <= 1000) : Ok (F65 s l) λ y => Bh y.2 /\ y.1 ∈ l := by
 unfold F65
 refine (Ei hs _ (by omega) (by omega)).bind λ y hy => ?_
 have := hy.2
 refine (c7 (by omega) (by omega)).bind λ x hx => Ok.pure ⟨hy.1, ae hx⟩
theorem Axy (l : List Int) : Ok (F6 l) Bh := by
 unfold F6
 refine (Ok.cutI (by omega) (by omega) (by omega)).bind λ y hy => Ok.pure ⟨by simp, by simp, ?_⟩
 subst hy
 simp only [cf, aL]
 omega
def Fu (nb : Int) (ns nc : Nat) (x : Af) : Prop :=
 (0 <= x.A /\ x.A < nb) /\ ((x.Kind = 1 /\ x.A < x.B /\ x.B < nb) \/ (x.Kind = 2 /\ 0 <= x.B /\ x.B < ns) \/ (x.Kind = 3 /\ 0 <= x.B /\ x.B < nc))
def brs (l : List Af) (k : Int) (i : Nat) : List Af := l.filter λ x => x.Kind == k && x.B == (i : Int)
def Aiv (x : A9) : Prop := (1 <= x.Rating /\ x.Rating <= 50000) /\ (0 <= x.Least /\ x.Least <= x.Rating) /\ 0 <= x.Start /\ x.Start <= 600
def Akk (i : Nat) (x : A3) : Prop :=
 (0 <= x.Load /\ x.Load <= 50000) /\ (0 <= x.Least /\ x.Least <= x.Load) /\ (0 <= x.Bn /\ x.Bn <= 15) /\ (-1 <= x.Thruster /\ x.Thruster <= 7) /\ x.Needs.length <= 4 /\
 (∀ n, n ∈ x.Needs -> 0 <= n /\ n < (i : Int)) /\ ∀ (j : Nat) a b, x.Needs[j]? = some a -> x.Needs[j + 1]? = some b -> a < b
structure Aw (b : Aa) : Prop where
 buses : 1 <= b.Ao /\ b.Ao <= 6
 brl : b.Ad.length <= 24
 sol : b.Ac.length <= 8
 col : b.Ai.length <= 16
 phase : 0 <= b.Phase /\ b.Phase <= 1800
 freq : 0 <= b.Ar /\ b.Ar <= 6000
 br : ∀ x, x ∈ b.Ad -> Fu b.Ao b.Ac.length b.Ai.length x
 one : ∀ i, i < b.Ac.length -> (brs b.Ad 2 i).length = 1
 any : ∀ i, i < b.Ai.length -> brs b.Ad 3 i ≠ []
 nodup : ∀ i, ((brs b.Ad 3 i).map (·.A)).Nodup
 so : ∀ x, x ∈ b.Ac -> Aiv x
 co : ∀ (i : Nat) x, b.Ai[i]? = some x -> Akk i x
theorem Fd (l m : List Af) (k : Int) (i : Nat) : brs (l ++ m) k i = brs l k i ++ brs m k i := by unfold brs; rw [bv]
theorem Af8 (x : Af) (k : Int) (i : Nat) : brs [x] k i = if x.Kind = k /\ x.B = (i : Int) then [x] else [] := by
 unfold brs
 simp only [ba, List.filter_nil, ac, db]
theorem Ic {l : List Af} {k : Int} {i : Nat} (h : ∀ x, x ∈ l -> x.Kind = k -> x.B ≠ (i : Int)) : brs l k i = [] := by
 unfold brs
 rw [List.filter_eq_nil_iff]
 intro x hx
 simp only [ac, db, not_and]
 exact h x hx
def Kp (nb : Int) (l : List Af) : Prop := ∀ x, x ∈ l -> x.Kind = 1 /\ 0 <= x.A /\ x.A < x.B /\ x.B < nb
structure N1 (nb : Int) (l : List Af) (so : List A9) : Prop where
 len : l.length <= 4 + so.length
 br : ∀ x, x ∈ l -> (0 <= x.A /\ x.A < nb) /\ ((x.Kind = 1 /\ x.A < x.B /\ x.B < nb) \/ (x.Kind = 2 /\ 0 <= x.B /\ x.B < so.length))
 one : ∀ i, i < so.length -> (brs l 2 i).length = 1
 so : ∀ x, x ∈ so -> Aiv x
structure Ub (nb : Int) (l : List Af) (ns : Nat) (co : List A3) : Prop where
 len : l.length <= 4 + ns + 2 * co.length
 br : ∀ x, x ∈ l -> Fu nb ns co.length x
 one : ∀ i, i < ns -> (brs l 2 i).length = 1
 any : ∀ i, i < co.length -> brs l 3 i ≠ []
 nodup : ∀ i, ((brs l 3 i).map (·.A)).Nodup
 co : ∀ (i : Nat) x, co[i]? = some x -> Akk i x /\ x.Thruster <= 2
theorem N1.cons {nb : Int} {l : List Af} {so : List A9} (h : N1 nb l so) : Ub nb l so.length [] where
 len := by have := h.len; simp; omega
 br x hx := by
  obtain ⟨h1, h2⟩ := h.br x hx
  exact ⟨h1, h2.imp id .inl⟩
 one := h.one
 any i hi := by simp at hi
 nodup i := by
  rw [Ic]
  ·simp
  ·intro x hx h3
   obtain ⟨_, h2⟩ := h.br x hx
   omega
 co i x hx := by simp at hx
theorem N1.add {nb : Int} {l : List Af} {so : List A9} (h : N1 nb l so) {x : Af} {y : A9} (hx : x.Kind = 2 /\ x.B = so.length /\ 0 <= x.A /\ x.A < nb) (hy : Aiv y) : N1 nb (l ++ [x]) (so ++ [y]) where
 len := by have := h.len; simp; omega
 br z hz := by
  rcases ax.1 hz with hz | hz
  ·obtain ⟨h1, h2⟩ := h.br z hz
   refine ⟨h1, ?_⟩
   rw [aS]
   simp only [aY, bA]
   omega
  ·simp at hz; subst hz
   refine ⟨hx.2.2, .inr ⟨hx.1, ?_⟩⟩
   rw [aS]
   simp only [aY, bA]
   omega
 one i hi := by
  rw [aS] at hi
  simp only [aY, bA] at hi
  rw [Fd, Af8, aS]
  by_cases e : i = so.length
  ·rw [Ic, if_pos ⟨hx.1, by omega⟩]
   ·rfl
   ·intro z hz h2
    obtain ⟨_, h3⟩ := h.br z hz
    omega
  ·rw [h.one i (by omega), if_neg (by omega)]; rfl
 so z hz := by
  rcases ax.1 hz with hz | hz
  ·exact h.so z hz
  ·simp at hz; subst hz; exact hy
theorem Ub.add {nb : Int} {l m : List Af} {ns : Nat} {co : List A3} (h : Ub nb l ns co) {y : A3} (hm : ∀ x, x ∈ m -> x.Kind = 3 /\ x.B = co.length /\ 0 <= x.A /\ x.A < nb) (h1 : m ≠ []) (h2 : m.length <= 2) (h3 : (m.map (·.A)).Nodup)
  (hy : Akk co.length y /\ y.Thruster <= 2) : Ub nb (l ++ m) ns (co ++ [y]) := by
 have e1 : brs m 3 co.length = m := by
  unfold brs
  rw [List.filter_eq_self]
  intro x hx
  obtain ⟨g1, g2, _⟩ := hm x hx
  simp [g1, g2]
 have e2 : ∀ i, i ≠ co.length -> brs m 3 i = [] := λ i hi => Ic λ x hx _ e => by
  have := (hm x hx).2.1
  omega
 have e3 : brs l 3 co.length = [] := Ic λ x hx h3 e => by
  obtain ⟨_, g⟩ := h.br x hx
  omega
 have hlen : (co ++ [y]).length = co.length + 1 := by simp
 refine ⟨?_, λ z hz => ?_, λ i hi => ?_, λ i hi => ?_, λ i => ?_, λ i x hx => ?_⟩
 ·have := h.len
  rw [aS, hlen]; omega
 ·rw [hlen]
  rcases ax.1 hz with hz | hz
  ·obtain ⟨g1, g2⟩ := h.br z hz
   exact ⟨g1, by omega⟩
  ·obtain ⟨g1, g2, g3⟩ := hm z hz
   exact ⟨g3, by omega⟩
 ·have : brs m 2 i = [] := Ic λ x hx h2 => by have := (hm x hx).1; omega
  rw [Fd, this, aF]
  exact h.one i hi
 ·rw [Fd]
  rw [hlen] at hi
  by_cases e : i = co.length
  ·subst e; rw [e1]; simp [h1]
  ·have := h.any i (by omega)
   simp [this]
 ·rw [Fd]
  by_cases e : i = co.length
  ·subst e; rw [e1, e3]; simpa using h3
  ·rw [e2 i e, aF]; exact h.nodup i
 ·rw [bH] at hx
  split at hx
  ·exact h.co i x hx
  ·rename_i hi
   have : i = co.length := by
    have := (aa.1 hx).1
    simp at this; omega
   subst this
   simp at hx; subst hx; exact hy
theorem cY (nb : Int) : Kp nb [] := λ x hx => by cases hx
theorem Kp.add {nb : Int} {l : List Af} (h : Kp nb l) {x : Af} (hx : x.Kind = 1 /\ 0 <= x.A /\ x.A < x.B /\ x.B < nb) : Kp nb (l ++ [x]) := λ z hz => by
 rcases ax.1 hz with hz | hz
 ·exact h z hz
 ·simp at hz; subst hz; exact hx
theorem Kp.gens {nb : Int} {l : List Af} (h : Kp nb l) (hl : l.length <= 4) : N1 nb l [] where
 len := by simpa using hl
 br x hx := by have := h x hx; exact ⟨by omega, .inl (by omega)⟩
 one i hi := by simp at hi
 so x hx := by cases hx
theorem Ar0 {y : Int × Ag} (hy : 1 <= y.1 /\ y.1 <= 4) {s0 : Ag} (hs0 : Bh s0) :
  Ok (whileN (Wu y) 1152921504606846976 (1, s0.L, s0.At, ([] : List Af))) (Dc (λ s => Bh ⟨s.2.1, s.2.2.1⟩ /\ Kp y.1 s.2.2.2 /\ s.2.2.2.length <= 3) (λ (_ : Unit) => False)) := by
 refine c8 (λ s => (1 <= s.1 /\ s.1 <= 4 /\ s.1 <= y.1) /\ Bh ⟨s.2.1, s.2.2.1⟩ /\ Kp y.1 s.2.2.2 /\ (s.2.2.2.length : Int) + 1 <= s.1) (λ s => (y.1 - s.1).toNat) _ _ ?_ ?_ ?_
 ·exact ⟨by dsimp only; omega, hs0, cY _, by simp⟩
 ·dsimp only; omega
 ·rintro ⟨i, L, a, l⟩ ⟨⟨h1, h2, h3⟩, h4, h5, h6⟩
  dsimp only at h1 h2 h3 h4 h5 h6
  unfold Wu
  refine c3 (λ h => ?_) (λ h => ?_)
  ·simp only [cZ] at h
   have e : w64 (i + 1) = i + 1 := A7 (by omega)
   dsimp only
   rw [e]
   refine (Ei h4 6 (by omega) (by omega)).bind λ u hu => c3 (λ _ => ?_) (λ _ => ?_)
   ·refine (Ei hu.1 i h1 (by omega)).bind λ v hv => (cw (by simp; omega)).bind λ m hm => c4 ?_
    subst hm
    have := hv.2
    refine ⟨⟨by dsimp only; omega, hv.1, h5.add ⟨rfl, by dsimp only; omega, by dsimp only; omega, by dsimp only; omega⟩, by simp; omega⟩, by dsimp only; omega⟩
   ·refine c4 ⟨⟨by dsimp only; omega, hu.1, h5, by dsimp only; omega⟩, by dsimp only; omega⟩
  ·exact cA ⟨h4, h5, by dsimp only; omega⟩
theorem Arz {y : Int × Ag} (hy : 1 <= y.1 /\ y.1 <= 4) {s0 : Ag} (hs0 : Bh s0) {k : Int} (hk : 0 <= k /\ k < 5) {l0 : List Af} (hl0 : N1 y.1 l0 []) :
  Ok (whileN (Wt y) 1152921504606846976 (k, s0.L, s0.At, l0, ([] : List A9))) (Dc (λ s => Bh ⟨s.2.1, s.2.2.1⟩ /\ N1 y.1 s.2.2.2.1 s.2.2.2.2 /\ s.2.2.2.2.length <= 4) (λ (_ : Unit) => False)) := by
 refine c8 (λ s => (0 <= s.1 /\ s.1 + (s.2.2.2.2.length : Int) <= 4) /\ Bh ⟨s.2.1, s.2.2.1⟩ /\ N1 y.1 s.2.2.2.1 s.2.2.2.2) (λ s => s.1.toNat) _ _ ?_ ?_ ?_
 ·exact ⟨by simp; omega, hs0, hl0⟩
 ·dsimp only; omega
 ·rintro ⟨i, L, a, l, so⟩ ⟨⟨h1, h2⟩, h4, h5⟩
  dsimp only at h1 h2 h4 h5
  unfold Wt
  refine c3 (λ h => ?_) (λ h => ?_)
  ·simp only [cZ] at h
   have e : w64 (i - 1) = i - 1 := A7 (by omega)
   have hl := h5.len
   dsimp only
   rw [e]
   refine (Ei h4 y.1 hy.1 (by omega)).bind λ u hu => (cw (by simp; omega)).bind λ m hm => ?_
   refine (Ep hu.1 _ (by simp) (by simp)).bind λ v hv => (Ep hv.1 _ (by simp) (by simp)).bind λ p hp => (Ep hp.1 _ (by simp) (by simp)).bind λ q hq => (cw (by simp; omega)).bind λ o ho => c4 ?_
   subst hm; subst ho
   have g1 := hu.2
   have g2 : v.1 = 10 \/ v.1 = 50 \/ v.1 = 100 := by simpa using hv.2
   have g3 : p.1 = 0 \/ p.1 = 5 \/ p.1 = v.1 := by simpa using hp.2
   have g4 : q.1 = 0 \/ q.1 = 1 \/ q.1 = 3 := by simpa using hq.2
   refine ⟨⟨by simp; omega, hq.1, h5.add ⟨rfl, rfl, g1⟩ ⟨by dsimp only; omega, by dsimp only; omega, by dsimp only; omega⟩⟩, by dsimp only; omega⟩
  ·exact cA ⟨h4, h5, by dsimp only; omega⟩
theorem Aui {x : Int} (h : 0 <= x) (h2 : x <= 50000) : 0 <= w64 (Int.tdiv x 2) /\ w64 (Int.tdiv x 2) <= x := by
 have : Int.tdiv x 2 = x / 2 := Int.tdiv_eq_ediv_of_nonneg h
 rw [this, A7 (by omega)]
 omega
theorem Aqk {x : Int} (h : 0 <= x) (h2 : x <= 50000) : 0 <= w64 (Int.tdiv x 3) /\ w64 (Int.tdiv x 3) <= x := by
 have : Int.tdiv x 3 = x / 3 := Int.tdiv_eq_ediv_of_nonneg h
 rw [this, A7 (by omega)]
 omega
theorem Ary {y : Int × Ag} (hy : 1 <= y.1 /\ y.1 <= 4) {s0 : Ag} (hs0 : Bh s0) {k : Int} (hk : 0 <= k /\ k < 6) {ns : Nat} (hns : ns <= 4) {l0 : List Af} (hl0 : Ub y.1 l0 ns []) :
  Ok (whileN (Ws y) 1152921504606846976 (k, s0.L, s0.At, l0, ([] : List A3))) (Dc (λ s => Bh ⟨s.2.1, s.2.2.1⟩ /\ Ub y.1 s.2.2.2.1 ns s.2.2.2.2 /\ s.2.2.2.2.length <= 5) (λ (_ : Unit) => False)) := by
 refine c8 (λ s => (0 <= s.1 /\ s.1 + (s.2.2.2.2.length : Int) <= 5) /\ Bh ⟨s.2.1, s.2.2.1⟩ /\ Ub y.1 s.2.2.2.1 ns s.2.2.2.2) (λ s => s.1.toNat) _ _ ?_ ?_ ?_
 ·exact ⟨by simp; omega, hs0, hl0⟩
 ·dsimp only; omega
 ·rintro ⟨i, L, a, l, co⟩ ⟨⟨h1, h2⟩, h4, h5⟩
  dsimp only at h1 h2 h4 h5
  unfold Ws
  refine c3 (λ h => ?_) (λ h => ?_)
  ·simp only [cZ] at h
   have e : w64 (i - 1) = i - 1 := A7 (by omega)
   have hl := h5.len
   dsimp only
   rw [e]
   refine (Ei h4 y.1 hy.1 (by omega)).bind λ u hu => (cw (by simp; omega)).bind λ m hm => ?_
   subst hm
   have g1 := hu.2
   refine Ok.bind (P := λ v => Bh v.2) (c6 (λ _ => (Ei hu.1 4 (by omega) (by omega)).mono λ _ h => h.1) λ _ => hu.1) λ v hv => ?_
   refine Ok.inner (A := λ (r : List Af) => ∃ m, r = l ++ m /\ (∀ x, x ∈ m -> x.Kind = 3 /\ x.B = co.length /\ 0 <= x.A /\ x.A < y.1) /\ m ≠ [] /\ m.length <= 2 /\ (m.map (·.A)).Nodup) (B := λ (_ : Unit) => False) ?_ (λ r hr => ?_) (λ _ h => h.elim)
   ·unfold Adt
    refine c3 (λ hc => ?_) (λ hc => ?_)
    ·simp only [ac, cZ] at hc
     have e2 : w64 (u.1 + 1) = u.1 + 1 := A7 (by omega)
     rw [e2]
     refine (Ok.nzI (by omega)).bind λ _ _ => (cw (by simp; omega)).bind λ m hm => cF ?_
     subst hm
     have g2 := Ae8 (x := u.1 + 1) (n := y.1) (by omega) (by omega)
     have g3 : Int.tmod (u.1 + 1) y.1 ≠ u.1 := by
      rw [Int.tmod_eq_emod_of_nonneg (by omega)]
      intro e3
      by_cases g4 : u.1 + 1 = y.1
      ·rw [g4, Int.emod_self] at e3; omega
      ·rw [Int.emod_eq_of_lt (by omega) (by omega)] at e3; omega
     refine ⟨_, bc _ _ _, ?_, by simp, by simp, ?_⟩
     ·intro x hx
      simp at hx
      rcases hx with rfl | rfl
      ·exact ⟨rfl, rfl, g1⟩
      ·exact ⟨rfl, rfl, g2⟩
     ·simp
      exact λ h => g3 h.symm
    ·exact cF ⟨_, rfl, λ x hx => by simp at hx; subst hx; exact ⟨rfl, rfl, g1⟩, by simp, by simp, by simp⟩
   ·obtain ⟨m, rfl, hm, hm1, hm2, hm3⟩ := hr
    refine (Ep hv _ (by simp) (by simp)).bind λ p hp => (Ep hp.1 _ (by simp) (by simp)).bind λ q hq => (Ei hq.1 3 (by omega) (by omega)).bind λ pr hpr => (Kq hpr.1 (-1) 2 (by omega) (by omega) (by omega)).bind λ th hth => ?_
    have k1 : p.1 = 0 \/ p.1 = 5 \/ p.1 = 20 \/ p.1 = 40 := by simpa using hp.2
    have k2 : q.1 = 0 \/ q.1 = w64 (Int.tdiv p.1 2) \/ q.1 = p.1 := by simpa using hq.2
    have k3 := Aui (x := p.1) (by omega) (by omega)
    have k4 := hpr.2
    have k5 := hth.2
    refine Ok.bind (P := λ v => Bh v.2) (c6 (λ _ => (Ei hth.1 4 (by omega) (by omega)).mono λ _ h => h.1) λ _ => hth.1) λ w hw => c3 (λ hc => ?_) (λ hc => ?_)
    ·simp only [Ata, ac, cZ] at hc
     refine (Ei hw _ (by omega) (by omega)).bind λ n hn => (cw (by simp; omega)).bind λ o ho => c4 ?_
     subst ho
     have k6 := hn.2
     refine ⟨⟨by simp; omega, hn.1, h5.add hm hm1 hm2 hm3 ⟨⟨by dsimp only; omega, by dsimp only; omega, by dsimp only; omega, by dsimp only; omega, by simp, ?_, ?_⟩, by dsimp only; omega⟩⟩, by dsimp only; omega⟩
     ·intro z hz; simp at hz; subst hz; exact k6
     ·intro j a b ha hb
      simp at hb
    ·refine (cw (by simp; omega)).bind λ o ho => c4 ?_
     subst ho
     refine ⟨⟨by simp; omega, hw, h5.add hm hm1 hm2 hm3 ⟨⟨by dsimp only; omega, by dsimp only; omega, by dsimp only; omega, by dsimp only; omega, by simp, ?_, ?_⟩, by dsimp only; omega⟩⟩, by dsimp only; omega⟩
     ·intro z hz; simp at hz
     ·intro j a b ha hb; simp at ha
  ·exact cA ⟨h4, h5, by dsimp only; omega⟩
structure Ax0 (b : Aa) : Prop where
 ok : Aw b
 buses : b.Ao <= 4
 brl : b.Ad.length <= 18
 sol : b.Ac.length <= 4
 col : b.Ai.length <= 5
 thr : ∀ x, x ∈ b.Ai -> x.Thruster <= 2
theorem Asg {s : Ag} (hs : Bh s) : Ok (F28 s) λ y => Ax0 y.1 /\ Bh y.2 := by
 unfold F28
 refine (Kq hs 1 4 (by omega) (by omega) (by omega)).bind λ y1 h1 => (Ep h1.1 _ (by simp) (by simp)).bind λ y3 h3 => (Ep h3.1 _ (by simp) (by simp)).bind λ y5 h5 => ?_
 refine (Ar0 h1.2 h5.1).andThen (λ s0 hs0 => ?_) (λ _ h => h.elim)
 refine Ok.bind (P := λ v => Bh v.2) (c6 (λ _ => (Ei hs0.1 2 (by omega) (by omega)).mono λ _ h => h.1) λ _ => hs0.1) λ y15 h15 => ?_
 have hb := h1.2
 refine Ok.andThen (A := λ (l : List Af) => Kp y1.1 l /\ l.length <= 4) (B := λ (_ : Unit) => False) ?_ (λ l hl => ?_) (λ _ h => h.elim)
 ·unfold Adu
  refine c3 (λ hc => ?_) (λ hc => cF ⟨hs0.2.1, by omega⟩)
  simp only [ac, cZ] at hc
  have e : w64 (y1.1 - 1) = y1.1 - 1 := A7 (by omega)
  rw [e]
  have := hs0.2.2
  refine (cw (by simp; omega)).bind λ m hm => cF ?_
  subst hm
  exact ⟨hs0.2.1.add ⟨rfl, by simp, by dsimp only; omega, by dsimp only; omega⟩, by simp; omega⟩
 ·refine (Ei h15 5 (by omega) (by omega)).bind λ y20 h20 => ?_
  refine (Arz h1.2 h20.1 h20.2 (hl.1.gens hl.2)).andThen (λ s2 hs2 => ?_) (λ _ h => h.elim)
  refine (Ei hs2.1 6 (by omega) (by omega)).bind λ y35 h35 => ?_
  refine (Ary h1.2 h35.1 h35.2 hs2.2.2 hs2.2.1.cons).andThen (λ s3 hs3 => Ok.pure ⟨?_, hs3.1⟩) (λ _ h => h.elim)
  obtain ⟨_, hc, hl5⟩ := hs3
  have hl4 := hs2.2.2
  have hlen := hc.len
  have p3 : y3.1 = 0 \/ y3.1 = 50 \/ y3.1 = 200 \/ y3.1 = 1800 := by simpa using h3.2
  have p5 : y5.1 = 0 \/ y5.1 = 10 \/ y5.1 = 50 := by simpa using h5.2
  refine ⟨⟨by dsimp only; omega, by dsimp only; omega, by dsimp only; omega, by dsimp only; omega, by dsimp only; omega, by dsimp only; omega, hc.br, hc.one, hc.any, hc.nodup, hs2.2.1.so, λ i x hx => (hc.co i x hx).1⟩, by dsimp only; omega, by dsimp only; omega, hl4, hl5, λ x hx => ?_⟩
  obtain ⟨i, hi⟩ := bT hx
  exact (hc.co i x hi).2
theorem Gc (x lo hi : Int) : F93 x lo hi = true ↔ lo <= x /\ x <= hi := by
 simp [F93]
theorem X7 {x lo hi : Int} (h : lo <= x /\ x <= hi) : F93 x lo hi = true := (Gc x lo hi).2 h
theorem Cf (l : List Int) (x : Int) (h : l.length <= 9223372036854775807) : F59 l x = some (l.any (x == ·)) := by
 unfold F59 Aki
 rw [Ix (λ y => x == y) (λ i y => rfl) l h]
 simp only [ab, Nh]
theorem Ae2 (l : List (List Int)) (h : l.length <= 9223372036854775807) : Qk l = some (l.any λ x => (x.length : Int) == 0) := by
 unfold Qk W0
 rw [Ix (λ y => (y.length : Int) == 0) (λ i y => rfl) l h]
 simp only [ab, Nh]
theorem Ae4 {b : Aa} (h : Aw b) : Ok (F99 b) (· = true) := by
 unfold F99
 have hs := h.sol
 have hc := h.col
 have hb := h.buses
 refine (Ok.mkI (by omega) (by omega)).bind λ ys hys => (Ok.mkI (by omega) (by omega)).bind λ zs hzs => ?_
 rw [ar] at hys hzs
 refine Ok.andThen (A := λ s => s.1 = (List.range b.Ac.length).map (λ i => ((brs b.Ad 2 i).length : Int)) /\ s.2 = (List.range b.Ai.length).map (λ i => (brs b.Ad 3 i).map (·.A))) (B := λ _ => False) ?_ ?_ (λ _ h => h.elim)
 ·refine c5 (I := λ j s => s.1 = (List.range b.Ac.length).map (λ i => ((brs (b.Ad.take j) 2 i).length : Int)) /\ s.2 = (List.range b.Ai.length).map (λ i => (brs (b.Ad.take j) 3 i).map (·.A))) ?_ ?_ ?_
  ·exact ⟨by rw [hys, K2]; rfl, by rw [hzs, K2]; rfl⟩
  ·rintro j x ⟨us, vs⟩ hx ⟨hu, hv⟩
   dsimp only at hu hv
   subst hu; subst hv
   have hmem := ae hx
   obtain ⟨⟨a0, a1⟩, hk⟩ := h.br x hmem
   have htk : ∀ k i, brs (b.Ad.take (j + 1)) k i = brs (b.Ad.take j) k i ++ if x.Kind = k /\ x.B = (i : Int) then [x] else [] := λ k i => by rw [Bj hx, Fd, Af8]
   have hall : ∀ k i, brs b.Ad k i = brs (b.Ad.take (j + 1)) k i ++ brs (b.Ad.drop (j + 1)) k i := λ k i => by rw [← Fd, bU]
   unfold Acw
   have e1 : w64 (b.Ao - 1) = b.Ao - 1 := A7 (by omega)
   have e2 : w64 (x.A + 1) = x.A + 1 := A7 (by omega)
   refine c3 (λ hq => ?_) (λ _ => ?_)
   ·rw [e1, X7 (by omega)] at hq; simp at hq
   refine c3 (λ hq => ?_) (λ hq => ?_)
   ·simp only [Ail, ac, db, Gc] at hq
    refine c4 ⟨aT λ i _ => ?_, aT λ i _ => ?_⟩
    ·rw [htk, if_neg (by omega), aF]
    ·rw [htk, if_neg (by omega), aF]
   have hq := ff hq
   simp only [Ail, ac, db, Gc, e1, e2] at hq
   rcases hk with hk | hk | hk
   ·exact absurd ⟨hk.1, by omega⟩ hq
   ·have hBn : x.B = (x.B.toNat : Int) := by omega
    have hone := h.one x.B.toNat (by omega)
    have hz : (brs (b.Ad.take j) 2 x.B.toNat).length = 0 := by
     rw [hall, htk, if_pos ⟨hk.1, hBn⟩] at hone
     simp at hone; omega
    have hg : ((x.Kind == 2) && (F93 x.B 0 (w64 ((((List.range b.Ac.length).map (λ i => ((brs (b.Ad.take j) 2 i).length : Int))).length : Int) - 1)))) = true := by
     rw [ac, db, Gc, au, List.length_range, A7 (by omega)]
     omega
    dsimp only
    refine Ok.bind (P := λ y => y = 0) (c6 (λ _ => (cJ (by omega) (by omega)).mono λ y hy => by rw [hy, hz]; rfl) λ hn => (Q0 hg hn).elim) λ y hy => ?_
    refine c3 (λ hq2 => ?_) (λ hq2 => ?_)
    ·refine (cJ (by omega) (by omega)).bind λ y2 hy2 => (cO (by omega) (by omega)).bind λ y3 hy3 => c4 ⟨?_, aT λ i _ => ?_⟩
     ·rw [hy3]
      refine aT λ i hi => ?_
      by_cases e : i = x.B.toNat
      ·subst e
       rw [if_pos rfl, hy2, htk, if_pos ⟨hk.1, hBn⟩, hz, aS, hz]
       rfl
      ·rw [if_neg e, htk, if_neg (by omega), aF]
     ·rw [htk, if_neg (by omega), aF]
    ·have hq2 := ff hq2
     simp only [Aik, ac, hy] at hq2
     rw [ac] at hg
     exact absurd ⟨hg, by simp⟩ hq2
   ·have hBn : x.B = (x.B.toNat : Int) := by omega
    have hnod := h.nodup x.B.toNat
    have hnot : x.A ∉ (brs (b.Ad.take j) 3 x.B.toNat).map (·.A) := by
     rw [hall, htk, if_pos ⟨hk.1, hBn⟩] at hnod
     simp only [bB, bI, List.map_nil] at hnod
     rw [List.nodup_append] at hnod
     have := hnod.1
     rw [List.nodup_append] at this
     intro hm
     exact this.2.2 _ hm _ (by simp) rfl
    have hg0 : ((x.Kind == 2) && (F93 x.B 0 (w64 ((((List.range b.Ac.length).map (λ i => ((brs (b.Ad.take j) 2 i).length : Int))).length : Int) - 1)))) = false := by
     have : (x.Kind == 2) = false := by rw [de]; omega
     rw [this]; rfl
    have hg : ((x.Kind == 3) && (F93 x.B 0 (w64 ((((List.range b.Ai.length).map (λ i => (brs (b.Ad.take j) 3 i).map (·.A))).length : Int) - 1)))) = true := by
     rw [ac, db, Gc, au, List.length_range, A7 (by omega)]
     omega
    dsimp only
    refine Ok.bind (P := λ _ => True) (c6 (λ hn => absurd hn.1 (by rw [hg0]; simp)) λ _ => trivial) λ y _ => ?_
    refine c3 (λ hq2 => ?_) (λ _ => ?_)
    ·simp only [Aik, ac, db] at hq2
     omega
    refine Ok.bind (P := λ y => y = (brs (b.Ad.take j) 3 x.B.toNat).map (·.A)) (c6 (λ _ => cJ (by omega) (by omega)) λ hn => (Q0 hg hn).elim) λ y14 hy14 => ?_
    have hyl : y14.length <= 24 := by
     rw [hy14, au]
     have := bi (λ x => x.Kind == 3 && x.B == ((x.B.toNat : Nat) : Int)) (b.Ad.take j)
     have h1 : (brs (b.Ad.take j) 3 x.B.toNat).length <= (b.Ad.take j).length := bi _ _
     have h2 := h.brl
     rw [aL] at h1
     omega
    refine Ok.bind (P := λ y => y = false) (c6 (λ _ => ?_) λ hn => (Q0 hg hn).elim) λ y16 hy16 => ?_
    ·rw [Cf _ _ (by omega)]
     refine Ok.pure ?_
     rw [bC]
     intro z hz
     rw [hy14] at hz
     simp only [db]
     rintro rfl
     exact hnot hz
    refine c3 (λ hq2 => ?_) (λ hq2 => ?_)
    ·refine (cJ (by omega) (by omega)).bind λ y19 hy19 => ?_
     rw [hy19, ← hy14]
     refine (cw (by simp; omega)).bind λ y21 hy21 => (cO (by omega) (by omega)).bind λ y23 hy23 => c4 ⟨aT λ i _ => ?_, ?_⟩
     ·rw [htk, if_neg (by omega), aF]
     ·rw [hy23]
      refine aT λ i hi => ?_
      by_cases e : i = x.B.toNat
      ·subst e
       rw [if_pos rfl, hy21, hy14, htk, if_pos ⟨hk.1, hBn⟩, bB]
       rfl
      ·rw [if_neg e, htk, if_neg (by omega), aF]
    ·have hq2 := ff hq2
     simp only [Asw, ac, hy16] at hq2
     rw [ac] at hg
     exact absurd ⟨hg, by simp⟩ hq2
  ·rintro ⟨us, vs⟩ ⟨hu, hv⟩
   rw [aH] at hu hv
   exact ⟨hu, hv⟩
 ·rintro ⟨us, vs⟩ ⟨hu, hv⟩
  dsimp only at hu hv ⊢
  rw [Cf _ _ (by rw [hu]; simp; omega)]
  have h0 : us.any (λ y => 0 == y) = false := by
   rw [bC, hu]
   intro z hz
   obtain ⟨i, hi, rfl⟩ := ao.1 hz
   rw [h.one i (by simpa using hi)]
   simp
  have h1 : vs.any (λ x => (x.length : Int) == 0) = false := by
   rw [bC, hv]
   intro z hz
   obtain ⟨i, hi, rfl⟩ := ao.1 hz
   have := h.any i (by simpa using hi)
   simp only [au, db]
   intro e
   exact this (bD (by omega))
  simp only [h0, ab]
  refine Ok.bind (P := λ y => y = false) (c6 (λ _ => ?_) λ hn => (Q0 rfl hn).elim) λ y hy => Ok.pure (by rw [hy]; rfl)
  rw [Ae2 _ (by rw [hv]; simp; omega)]
  exact Ok.pure h1
theorem Aks {x : A9} (h : Aiv x) : Zd x = true := by
 obtain ⟨h1, h2, h3⟩ := h
 simp only [Zd, ac, Gc]
 omega
theorem Ae3 {x : A3} {i : Nat} (h : Akk i x) (hi : i <= 1000) : Zc x (i : Int) = some true := by
 obtain ⟨h1, h2, h3, h4, h5, h6, h7⟩ := h
 unfold Zc
 have hf : foldI (Rv x (i : Int)) x.Needs 0 () = some (.next ()) := by
  refine Ec _ _ λ j n hj => ?_
  rw [aJ]
  have hn := h6 n (ae hj)
  have hjl := (aa.1 hj).1
  have hcnt : cnt 0 j = (j : Int) := C1 (by omega)
  have hin : F93 n 0 (w64 ((i : Int) - 1)) = true := by rw [Gc, A7 (by omega)]; omega
  unfold Rv An2
  rw [hcnt, hin]
  cases j with
  | zero => simp [Ax, B1]
  | succ j =>
   obtain ⟨p, hp⟩ : ∃ p, x.Needs[j]? = some p := ⟨_, af (by omega)⟩
   have hlt := h7 j p n hp hj
   have e : w64 ((((j + 1 : Nat) : Int)) - 1) = (j : Int) := by rw [A7 (by omega)]; omega
   have hg : getI x.Needs (j : Int) = some p := by
    unfold getI
    simp [hp]
   have hd : decide (((j + 1 : Nat) : Int) > 0) = true := dg (by omega)
   have hd2 : decide (p >= n) = false := by simp; omega
   rw [e, hg, hd]
   simp [Ax, B1, hd2]
 rw [hf]
 have : (((((F93 x.Load 0 50000) && (F93 x.Least 0 x.Load)) && (F93 x.Bn 0 15)) && (F93 x.Thruster (-1) 7)) && (decide ((x.Needs.length : Int) <= 4))) = true := by
  simp only [ac, Gc, cZ]
  omega
 simp [andThen, this]
theorem Arv {b : Aa} (h : Aw b) : F51 b = some 0 := by
 refine cC ?_
 unfold F51
 have h1 := h.buses
 have h2 := h.brl
 have h3 := h.sol
 have h4 := h.col
 have h5 := h.phase
 have h6 := h.freq
 refine c3 (λ hc => ?_) (λ _ => ?_)
 ·have : F93 b.Ao 1 6 = true := X7 (by omega)
  simp only [As6, this, aD, cZ, aZ, bJ, false_or] at hc
  omega
 refine (Ae4 h).bind λ y hy => ?_
 subst hy
 rw [X7 (x := b.Phase) (by omega), X7 (x := b.Ar) (by omega)]
 refine Ok.andThen (A := λ s => s = true) (B := λ (_ : Unit) => False) ?_ ?_ (λ _ h => h.elim)
 ·refine c5 (I := λ _ s => s = true) rfl (λ j x s hx hs => ?_) λ _ h => h
  subst hs
  refine c4 ?_
  rw [Aks (h.so x (ae hx))]; rfl
 ·rintro s rfl
  refine Ok.andThen (A := λ s => s = true) (B := λ (_ : Unit) => False) ?_ ?_ (λ _ h => h.elim)
  ·refine c5 (I := λ _ s => s = true) rfl (λ j x s hx hs => ?_) λ _ h => h
   subst hs
   have hj := (aa.1 hx).1
   unfold Adg
   have : Ax [(true, true)] (Zc x (cnt 0 j)) default = some true := by
    rw [C1 (by omega), Ae3 (h.co j x hx) (by omega)]; rfl
   rw [this]
   exact c4 rfl
  ·rintro s rfl
   exact Ok.pure rfl
def Cn (x : Ae) : Prop := (0 <= x.State /\ x.State <= 3) /\ (0 <= x.Since /\ x.Since <= 2147483648) /\ (0 <= x.Ar /\ x.Ar <= 6000) /\ 0 <= x.Phase /\ x.Phase <= 3599
def Bv (b : Aa) (x : Al) : Prop :=
 0 <= x.Number /\ ((x.Kind = 1 /\ x.Number < b.Ac.length) \/ (x.Kind = 2 /\ x.Number < b.Ad.length) \/ (x.Kind = 3 /\ x.Number < b.Ao) \/ (x.Kind = 4 /\ x.Number < b.Ai.length))
def Ml (x y : Al) : Prop := x.Kind < y.Kind \/ x.Kind = y.Kind /\ x.Number < y.Number
structure De (b : Aa) (l : List Al) : Prop where
 len : l.length <= 32
 mem : ∀ x, x ∈ l -> Bv b x
 asc : ∀ (j : Nat) x y, l[j]? = some x -> l[j + 1]? = some y -> Ml x y
def Bz (l : List Af) (c : List Bool) (i : Nat) : List (Af × Bool) := (l.zip c).filter λ z => (z.1.Kind == 3 && z.1.B == (i : Int)) && z.2
structure Ay (b : Aa) (p : Ab) : Prop where
 ncl : p.Ah.length = b.Ad.length
 nso : p.Ac.length = b.Ac.length
 nli : p.As.length = b.Ai.length
 run : ∀ x, x ∈ p.Ac -> Cn x
 lim : ∀ (i : Nat) n c, p.As[i]? = some n -> b.Ai[i]? = some c -> 0 <= n /\ n <= c.Load
 one : ∀ i, i < b.Ai.length -> (Bz b.Ad p.Ah i).length <= 1
 brk : De b p.Ak
theorem Ag4 {x : Ae} (h : Cn x) : F92 x = true := by
 obtain ⟨h1, h2, h3, h4⟩ := h
 simp only [F92, ac, Gc]
 omega
theorem Ahj (l : List Ae) (h : l.length <= 9223372036854775807) : Rm l = some (l.any λ x => !F92 x) := by
 unfold Rm W8
 rw [Ix (λ y => !F92 y) (λ i y => rfl) l h]
 simp only [ab, Nh]
theorem Anr (x y : Int) : Ji x y = if x < y then -1 else if x > y then 1 else 0 := by
 have h : ∀ z : Int, T4 z = false := λ z => by simp [T4]
 unfold Ji
 rw [h x, h y]
 by_cases h1 : x < y
 ·simp [h1]
 ·by_cases h2 : y < x <;> simp [h1, h2]
theorem Aya (x y : Int) : Y5 [x, y] = some (if x = 0 then y else x) := by
 unfold Y5
 by_cases h : x = 0
 ·subst h
  by_cases h2 : y = 0
  ·subst h2; rfl
  ·have : (y != 0) = true := by simpa using h2
   simp [foldI, Ru, andThen, this]
 ·have : (x != 0) = true := by simpa using h
  simp [foldI, Ru, andThen, this, h]
theorem At2 {b : Aa} (h : Aw b) {x : Al} (hx : Bv b x) : F93 x.Number 0 (w64 ((Jh b x.Kind) - 1)) = true := by
 have h1 := h.buses
 have h2 := h.brl
 have h3 := h.sol
 have h4 := h.col
 obtain ⟨hn, hk⟩ := hx
 have hsz : ∃ n, Jh b x.Kind = n /\ x.Number < n /\ n <= 100 := by
  unfold Jh
  rcases hk with ⟨k, hk⟩ | ⟨k, hk⟩ | ⟨k, hk⟩ | ⟨k, hk⟩ <;> rw [k] <;> exact ⟨_, rfl, by simpa using hk, by simp; omega⟩
 obtain ⟨n, e, g1, g2⟩ := hsz
 rw [e, Gc, A7 (by omega)]
 omega
theorem An5 {b : Aa} (h : Aw b) {l : List Al} (hl : De b l) : F89 b l = some true := by
 have hlen := hl.len
 unfold F89
 have hf : foldI (Wo b l) l 0 () = some (.next ()) := by
  refine Ec _ _ λ j x hj => ?_
  rw [aJ]
  have hjl := (aa.1 hj).1
  have hcnt : cnt 0 j = (j : Int) := C1 (by omega)
  have hin := At2 h (hl.mem x (ae hj))
  unfold Wo As4
  rw [hcnt, hin]
  cases j with
  | zero => simp [Ax, B1]
  | succ j =>
   obtain ⟨p, hp⟩ : ∃ p, l[j]? = some p := ⟨_, af (by omega)⟩
   have hlt := hl.asc j p x hp hj
   have e : w64 ((((j + 1 : Nat) : Int)) - 1) = (j : Int) := by rw [A7 (by omega)]; omega
   have hg : getI l (j : Int) = some p := by unfold getI; simp [hp]
   have hd : decide (((j + 1 : Nat) : Int) > 0) = true := dg (by omega)
   have ho : Y5 [Ji p.Kind x.Kind, Ji p.Number x.Number] = some (-1) := by
    rw [Aya, Anr, Anr]
    rcases hlt with h1 | ⟨h1, h2⟩
    ·simp [h1]
    ·simp [h1, h2]
   rw [e, hg, hd]
   simp [Ax, B1, ho]
 rw [hf]
 have : decide ((l.length : Int) <= 32) = true := by simp; omega
 simp [andThen, this]
theorem Jq {l : List Af} {c : List Bool} {j : Nat} {x : Af} {v : Bool} (hx : l[j]? = some x) (hv : c[j]? = some v) (i : Nat) :
  Bz (l.take (j + 1)) (c.take (j + 1)) i = Bz (l.take j) (c.take j) i ++ if ((x.Kind == 3 && x.B == (i : Int)) && v) = true then [(x, v)] else [] := by
 unfold Bz
 rw [Bj hx, Bj hv, List.zip_append (by
  have h1 := (aa.1 hx).1
  have h2 := (aa.1 hv).1
  simp; omega), bv]
 congr 1
 simp only [bn, List.zip_nil_right, ba, List.filter_nil]
theorem Ans {b : Aa} (h : Aw b) {p : Ab} (hc : p.Ah.length = b.Ad.length) (i : Nat) : F94 b p (i : Int) = some (((Bz b.Ad p.Ah i).length : Nat) : Int) := by
 refine cC ?_
 unfold F94
 have hb := h.brl
 refine Ok.andThen (A := λ s => s = (((Bz b.Ad p.Ah i).length : Nat) : Int)) (B := λ (_ : Unit) => False) ?_ (λ s hs => Ok.pure hs) (λ _ h => h.elim)
 refine c5 (I := λ j s => s = (((Bz (b.Ad.take j) (p.Ah.take j) i).length : Nat) : Int)) ?_ (λ j x s hx hs => ?_) λ s hs => ?_
 ·simp [Bz]
 ·have hj := (aa.1 hx).1
  obtain ⟨v, hv⟩ : ∃ v, p.Ah[j]? = some v := ⟨_, af (by omega)⟩
  have hcnt : cnt 0 j = (j : Int) := C1 (by omega)
  have hg : getI p.Ah (j : Int) = some v := by unfold getI; simp [hv]
  have hle : (Bz (b.Ad.take j) (p.Ah.take j) i).length <= 24 := by
   have h1 : (Bz (b.Ad.take j) (p.Ah.take j) i).length <= ((b.Ad.take j).zip (p.Ah.take j)).length := bi _ _
   simp at h1; omega
  subst hs
  unfold Ac6 As3
  rw [hcnt, hg, Jq hx hv]
  cases hk : (x.Kind == 3 && x.B == (i : Int)) with
  | false =>
   simp only [Ax, B1, Bool.false_and]
   exact c4 (by simp)
  | true =>
   simp only [Ax, B1, aO]
   cases v with
   | false => exact c4 (by simp)
   | true =>
    refine c4 ?_
    show w64 _ = _
    rw [A7 (by omega)]
    simp
 ·rw [aH, ← hc, aH] at hs
  exact hs
theorem B6 {b : Aa} (h : Aw b) {p : Ab} (hp : Ay b p) : F44 b p = some 0 := by
 refine cC ?_
 unfold F44
 have h1 := hp.ncl
 have h2 := hp.nso
 have h3 := hp.nli
 have h4 := h.col
 have h5 := h.sol
 rw [Arv h]
 simp only [ab]
 have c0 : Aip b p = false := by
  simp [Aip, h1, h2, h3]
 have c1 : ((0 : Int) != 0) = false := rfl
 rw [c1, c0, An5 h hp.brk]
 simp only [cond_false, ab]
 have hr : (p.Ac.any λ x => !F92 x) = false := by
  rw [bC]
  intro x hx
  rw [Ag4 (hp.run x hx)]; simp
 have : Ax [(true, true)] (Rm p.Ac) default = some false := by
  rw [Ahj _ (by omega), hr]; rfl
 rw [this]
 simp only [ab]
 refine Ok.andThen (A := λ s => s = true) (B := λ (_ : Unit) => False) ?_ ?_ (λ _ h => h.elim)
 ·refine c5 (I := λ _ s => s = true) rfl (λ j x s hx hs => ?_) λ _ h => h
  subst hs
  have hj := (aa.1 hx).1
  obtain ⟨c, hc⟩ : ∃ c, b.Ai[j]? = some c := ⟨_, af (by omega)⟩
  have hcnt : cnt 0 j = (j : Int) := C1 (by omega)
  have hg : getI b.Ai (j : Int) = some c := by unfold getI; simp [hc]
  have hl := hp.lim j x c hx hc
  have hone := hp.one j (by omega)
  unfold Adl
  rw [hcnt, hg]
  have e1 : Ax [(true, true)] (some c) default = some c := rfl
  rw [e1]
  simp only [ab]
  have e2 : (true && F93 x 0 c.Load) = true := by rw [X7 hl]; rfl
  rw [e2, Ans h h1]
  have e3 : Ax [(true, true)] (some (((Bz b.Ad p.Ah j).length : Nat) : Int)) default = some (((Bz b.Ad p.Ah j).length : Nat) : Int) := rfl
  rw [e3]
  simp only [ab]
  refine c4 ?_
  simp; omega
 ·rintro s rfl
  exact Ok.pure rfl
theorem Hc (x lo hi : Int) : F46 x lo hi = true ↔ lo <= x /\ x <= hi := by
 simp [F46]
theorem Vs {b : Aa} (h : Aw b) (x : Al) : F47 b x = true ↔ Bv b x := by
 have h1 := h.buses
 have h2 := h.brl
 have h3 := h.sol
 have h4 := h.col
 unfold F47 Bv
 rw [A7 (n := (b.Ac.length : Int) - 1) (by omega), A7 (n := (b.Ad.length : Int) - 1) (by omega), A7 (n := b.Ao - 1) (by omega), A7 (n := (b.Ai.length : Int) - 1) (by omega)]
 by_cases k1 : x.Kind = 1
 ·rw [db.2 k1, cond_true, Hc]; omega
 rw [de.2 k1, cond_false]
 by_cases k2 : x.Kind = 2
 ·rw [db.2 k2, cond_true, Hc]; omega
 rw [de.2 k2, cond_false]
 by_cases k3 : x.Kind = 3
 ·rw [db.2 k3, cond_true, Hc]; omega
 rw [de.2 k3, cond_false]
 by_cases k4 : x.Kind = 4
 ·rw [db.2 k4, cond_true, Hc]; omega
 ·rw [de.2 k4]
  simp only [cond_false, bJ, false_iff]
  omega
theorem Aa2 {l : List Af} : ∀ {c d : List Bool}, c.length = d.length -> (∀ k : Nat, c[k]? = some true -> d[k]? = some true) -> ∀ i, (Bz l c i).length <= (Bz l d i).length := by
 induction l with
 | nil => intro c d _ _ i; simp [Bz]
 | cons x l ih =>
  intro c d hl h i
  cases c with
  | nil => simp [Bz]
  | cons v c => cases d with
   | nil => simp at hl
   | cons u d =>
    have := ih (c := c) (d := d) (by simpa using hl) (λ k hk => by have := h (k + 1) (by simpa using hk); simpa using this) i
    have h0 : v = true -> u = true := λ e => by have := h 0 (by simp [e]); simpa using this
    unfold Bz at this ⊢
    simp only [bn, ba]
    cases hk : (x.Kind == 3 && x.B == (i : Int)) with
    | false => simpa using this
    | true =>
     cases v with
     | false => cases u <;> simp <;> omega
     | true => rw [h0 rfl]; simp; omega
theorem Aqx {b : Aa} (h : Aw b) {s0 : Ag} (hs0 : Bh s0) :
  Ok (whileN (N8 b) 1152921504606846976 (0, s0.L, s0.At, ([] : List Bool))) (Dc (λ s => Bh ⟨s.2.1, s.2.2.1⟩ /\ s.2.2.2.length = b.Ad.length) (λ (_ : Unit) => False)) := by
 have hb := h.brl
 refine c8 (λ s => (0 <= s.1 /\ s.1 <= (b.Ad.length : Int)) /\ Bh ⟨s.2.1, s.2.2.1⟩ /\ (s.2.2.2.length : Int) = s.1) (λ s => ((b.Ad.length : Int) - s.1).toNat) _ _ ?_ ?_ ?_
 ·exact ⟨by dsimp only; omega, hs0, by simp⟩
 ·dsimp only; omega
 ·rintro ⟨i, L, a, l⟩ ⟨⟨h1, h2⟩, h4, h5⟩
  dsimp only at h1 h2 h4 h5
  unfold N8 Af7
  refine c3 (λ h => ?_) (λ h => ?_)
  ·simp only [cZ] at h
   have e : w64 (i + 1) = i + 1 := A7 (by omega)
   dsimp only
   rw [e]
   refine (Ei h4 2 (by omega) (by omega)).bind λ u hu => (cw (by simp; omega)).bind λ m hm => c4 ?_
   subst hm
   exact ⟨⟨by dsimp only; omega, hu.1, by simp; omega⟩, by dsimp only; omega⟩
  ·simp only [da] at h
   exact cA ⟨h4, by dsimp only; omega⟩
theorem Ba {α : Type} {l : List α} {j : Nat} {x : α} (h : l[j]? = some x) : getI l (j : Int) = some x := by unfold getI; simp [h]
theorem Su {α : Type} {l : List α} {j : Nat} {x : α} (h : j < l.length) : setI l (j : Int) x = some (l.set j x) := by
 unfold setI
 have h1 : decide ((0 : Int) <= (j : Int)) = true := by simp
 have h2 : decide ((j : Int) < (l.length : Int)) = true := by simp; omega
 rw [h1, h2]; simp
theorem Aqv {b : Aa} (h : Aw b) {n : Int} {i : Nat} (hn : n = (i : Int)) {c : List Bool} (hc : c.length = b.Ad.length) (w : Int × List Bool) (hw : w.1 = n) :
  Ok (foldI (N6 w) b.Ad 0 (true, c)) (Dc (λ s => s.2.length = b.Ad.length /\ (∀ k : Nat, s.2[k]? = some true -> c[k]? = some true) /\ (Bz b.Ad s.2 i).length <= 1) (λ (_ : Unit) => False)) := by
 have hb := h.brl
 refine c5 (I := λ j s => s.2.length = b.Ad.length /\ (∀ k : Nat, s.2[k]? = some true -> c[k]? = some true) /\ (s.1 = true -> Bz (b.Ad.take j) (s.2.take j) i = []) /\ (Bz (b.Ad.take j) (s.2.take j) i).length <= 1) ?_ (λ j x s hx hs => ?_) λ s hs => ?_
 ·exact ⟨hc, λ _ h => h, λ _ => by simp [Bz], by simp [Bz]⟩
 ·obtain ⟨f, d⟩ := s
  obtain ⟨h1, h2, h3, h4⟩ := hs
  dsimp only at h1 h2 h3 h4
  have hj := (aa.1 hx).1
  obtain ⟨v, hv⟩ : ∃ v, d[j]? = some v := ⟨_, af (by omega)⟩
  have hcnt : cnt 0 j = (j : Int) := C1 (by omega)
  unfold N6 Abn
  dsimp only
  rw [hcnt, Ba hv, Su (by omega), hw, hn]
  cases hk : (x.Kind == 3 && x.B == (i : Int)) with
  | false =>
   simp only [Ax, B1, Bool.false_and]
   refine c4 ⟨h1, h2, λ e => ?_, ?_⟩ <;> dsimp only <;> rw [Jq hx hv, hk]
   ·simpa using h3 e
   ·simpa using h4
  | true =>
   simp only [Ax, B1, aO]
   cases v with
   | false =>
    refine c4 ⟨h1, h2, λ e => ?_, ?_⟩ <;> dsimp only <;> rw [Jq hx hv, hk]
    ·simpa using h3 e
    ·simpa using h4
   | true =>
    have hset : (d.set j f)[j]? = some f := by rw [bE (by omega)]
    have htake : (d.set j f).take j = d.take j := by rw [List.take_set_of_le (aq j)]
    refine c4 ⟨by simpa using h1, λ k hk2 => ?_, λ e => ?_, ?_⟩
    ·dsimp only at hk2
     rw [al] at hk2
     split at hk2
     ·rename_i e; subst e; exact h2 _ hv
     ·exact h2 _ hk2
    ·cases e
    ·dsimp only
     rw [Jq hx hset, hk, htake]
     cases f with
     | false => simpa using h4
     | true => simp [h3 rfl]
 ·rw [aH] at hs
  obtain ⟨h1, h2, h3, h4⟩ := hs
  have : s.2.take b.Ad.length = s.2 := bK (by omega)
  rw [this] at h4
  exact ⟨h1, h2, h4⟩
theorem Aqw {b : Aa} (h : Aw b) {c : List Bool} (hc : c.length = b.Ad.length) :
  Ok (whileN (N7 b) 1152921504606846976 (0, c)) (Dc (λ s => s.2.length = b.Ad.length /\ ∀ i, i < b.Ai.length -> (Bz b.Ad s.2 i).length <= 1) (λ (_ : Unit) => False)) := by
 have hco := h.col
 refine c8 (λ s => (0 <= s.1 /\ s.1 <= (b.Ai.length : Int)) /\ s.2.length = b.Ad.length /\ ∀ i : Nat, (i : Int) < s.1 -> (Bz b.Ad s.2 i).length <= 1) (λ s => ((b.Ai.length : Int) - s.1).toNat) _ _ ?_ ?_ ?_
 ·exact ⟨by dsimp only; omega, hc, λ i hi => by dsimp only at hi; omega⟩
 ·dsimp only; omega
 ·rintro ⟨n, d⟩ ⟨⟨h1, h2⟩, h3, h4⟩
  dsimp only at h1 h2 h3 h4
  unfold N7 Af6
  refine c3 (λ hq => ?_) (λ hq => ?_)
  ·simp only [cZ] at hq
   have e : w64 (n + 1) = n + 1 := A7 (by omega)
   dsimp only
   refine (Aqv h (n := n) (i := n.toNat) (by omega) h3 (n, d) rfl).inner (λ s hs => ?_) (λ _ h => h.elim)
   rw [e]
   obtain ⟨g1, g2, g3⟩ := hs
   refine c4 ⟨⟨by dsimp only; omega, g1, λ i hi => ?_⟩, by dsimp only; omega⟩
   dsimp only at hi ⊢
   by_cases e : (i : Int) = n
   ·have : i = n.toNat := by omega
    subst this; exact g3
   ·exact ay (Aa2 (by omega) g2 i) (h4 i (by omega))
  ·simp only [da] at hq
   exact cA ⟨h3, λ i hi => h4 i (by omega)⟩
theorem Aqu {b : Aa} (h : Aw b) {s0 : Ag} (hs0 : Bh s0) :
  Ok (whileN (N5 b) 1152921504606846976 (0, s0.L, s0.At, ([] : List Ae))) (Dc (λ s => Bh ⟨s.2.1, s.2.2.1⟩ /\ s.2.2.2.length = b.Ac.length /\ ∀ x, x ∈ s.2.2.2 -> Cn x) (λ (_ : Unit) => False)) := by
 have hb := h.sol
 refine c8 (λ s => (0 <= s.1 /\ s.1 <= (b.Ac.length : Int)) /\ Bh ⟨s.2.1, s.2.2.1⟩ /\ (s.2.2.2.length : Int) = s.1 /\ ∀ x, x ∈ s.2.2.2 -> Cn x) (λ s => ((b.Ac.length : Int) - s.1).toNat) _ _ ?_ ?_ ?_
 ·exact ⟨by dsimp only; omega, hs0, by simp, λ x hx => by simp at hx⟩
 ·dsimp only; omega
 ·rintro ⟨i, L, a, l⟩ ⟨⟨h1, h2⟩, h4, h5, h6⟩
  dsimp only at h1 h2 h4 h5 h6
  unfold N5 Abm
  refine c3 (λ h => ?_) (λ h => ?_)
  ·simp only [cZ] at h
   have e : w64 (i + 1) = i + 1 := A7 (by omega)
   dsimp only
   rw [e]
   refine (Ep h4 _ (by simp) (by simp)).bind λ u hu => (Ei hu.1 5 (by omega) (by omega)).bind λ v hv => (Ep hv.1 _ (by simp) (by simp)).bind λ p hp => (Ep hp.1 _ (by simp) (by simp)).bind λ q hq => (cw (by simp; omega)).bind λ m hm => c4 ?_
   subst hm
   have g1 : u.1 = 0 \/ u.1 = 1 \/ u.1 = 2 \/ u.1 = 2 \/ u.1 = 2 \/ u.1 = 3 := by simpa using hu.2
   have g2 := hv.2
   have g3 : p.1 = 5000 \/ p.1 = 5000 \/ p.1 = 5005 \/ p.1 = 4950 := by simpa using hp.2
   have g4 : q.1 = 0 \/ q.1 = 0 \/ q.1 = 40 \/ q.1 = 1800 \/ q.1 = 3590 := by simpa using hq.2
   refine ⟨⟨by dsimp only; omega, hq.1, by simp; omega, λ x hx => ?_⟩, by dsimp only; omega⟩
   rcases ax.1 hx with hx | hx
   ·exact h6 x hx
   ·simp at hx; subst hx
    exact ⟨by dsimp only; omega, by dsimp only; omega, by dsimp only; omega, by dsimp only; omega⟩
  ·simp only [da] at h
   exact cA ⟨h4, by dsimp only; omega, h6⟩
theorem Aqt {b : Aa} (h : Aw b) {s0 : Ag} (hs0 : Bh s0) :
  Ok (foldI N4 b.Ai 0 (s0.L, s0.At, ([] : List Int))) (Dc (λ s => Bh ⟨s.1, s.2.1⟩ /\ s.2.2.length = b.Ai.length /\ ∀ (i : Nat) n c, s.2.2[i]? = some n -> b.Ai[i]? = some c -> 0 <= n /\ n <= c.Load) (λ (_ : Unit) => False)) := by
 have hb := h.col
 refine c5 (I := λ j s => Bh ⟨s.1, s.2.1⟩ /\ s.2.2.length = j /\ ∀ (i : Nat) n c, s.2.2[i]? = some n -> b.Ai[i]? = some c -> 0 <= n /\ n <= c.Load) ?_ (λ j x s hx hs => ?_) λ s hs => hs
 ·exact ⟨hs0, rfl, λ i n c hn => by simp at hn⟩
 ·obtain ⟨L, a, l⟩ := s
  obtain ⟨h1, h2, h3⟩ := hs
  dsimp only at h1 h2 h3
  have hj := (aa.1 hx).1
  unfold N4
  dsimp only
  refine (Ep h1 _ (by simp) (by simp)).bind λ u hu => (cw (by simp; omega)).bind λ m hm => c4 ⟨hu.1, ?_, λ i n c hn hc => ?_⟩
  ·subst hm; simp [h2]
  ·dsimp only at hn
   subst hm
   rw [bH] at hn
   split at hn
   ·exact h3 i n c hn hc
   ·rename_i hi
    have hlt := (aa.1 hn).1
    simp at hlt
    have : i = j := by omega
    subst this
    rw [hx] at hc; cases hc
    rw [h2] at hn
    simp at hn; subst hn
    obtain ⟨g1, g2, _⟩ := h.co _ x hx
    have g3 := Aqk (x := x.Load) (by omega) (by omega)
    have g4 : u.1 = x.Load \/ u.1 = x.Load \/ u.1 = x.Least \/ u.1 = w64 (Int.tdiv x.Load 3) := by simpa using hu.2
    omega
theorem Aqs {b : Aa} (h : Aw b) {s0 : Ag} (hs0 : Bh s0) :
  Ok (whileN (N3 b) 7 (1, s0.L, s0.At, ([] : List Al))) (Dc (λ s => Bh ⟨s.2.1, s.2.2.1⟩ /\ De b s.2.2.2 /\ s.2.2.2.length <= 4) (λ (_ : Unit) => False)) := by
 refine c8 (λ s => (1 <= s.1 /\ s.1 <= 5) /\ Bh ⟨s.2.1, s.2.2.1⟩ /\ ((s.2.2.2.length : Int) < s.1) /\ (∀ x, x ∈ s.2.2.2 -> Bv b x /\ x.Kind < s.1) /\ ∀ (j : Nat) x y, s.2.2.2[j]? = some x -> s.2.2.2[j + 1]? = some y -> Ml x y) (λ s => (5 - s.1).toNat) _ _ ?_ ?_ ?_
 ·exact ⟨by dsimp only; omega, hs0, by simp, λ x hx => by simp at hx, λ j x y hx => by simp at hx⟩
 ·dsimp only; omega
 ·rintro ⟨i, L, a, l⟩ ⟨⟨h1, h2⟩, h4, h5, h6, h7⟩
  dsimp only at h1 h2 h4 h5 h6 h7
  unfold N3
  refine c3 (λ hq => ?_) (λ hq => ?_)
  ·simp only [cZ] at hq
   have e : w64 (i + 1) = i + 1 := A7 (by omega)
   dsimp only
   rw [e]
   have skip : ∀ {u : Ag}, Bh u -> Ok (some (.next (i + 1, u.L, u.At, l)) : Option (Ctl (Int × List Int × Int × List Al) Unit)) (Gn (λ s => ((1 <= s.1 /\ s.1 <= 5) /\ Bh ⟨s.2.1, s.2.2.1⟩ /\ ((s.2.2.2.length : Int) < s.1) /\ (∀ x, x ∈ s.2.2.2 -> Bv b x /\ x.Kind < s.1) /\ ∀ (j : Nat) x y, s.2.2.2[j]? = some x -> s.2.2.2[j + 1]? = some y -> Ml x y) /\ (5 - s.1).toNat < (5 - i).toNat) (λ s => Bh ⟨s.2.1, s.2.2.1⟩ /\ De b s.2.2.2 /\ s.2.2.2.length <= 4) (λ _ => False)) := λ hu =>
    c4 ⟨⟨by dsimp only; omega, hu, by dsimp only; omega, λ x hx => ⟨(h6 x hx).1, by have := (h6 x hx).2; dsimp only; omega⟩, h7⟩, by dsimp only; omega⟩
   refine (Ei h4 5 (by omega) (by omega)).bind λ u hu => c3 (λ _ => ?_) (λ _ => skip hu.1)
   refine (Ei hu.1 4 (by omega) (by omega)).bind λ v hv => c3 (λ he => ?_) (λ _ => skip hv.1)
   rw [Vs h] at he
   refine (cw (by simp; omega)).bind λ m hm => c4 ?_
   subst hm
   refine ⟨⟨by dsimp only; omega, hv.1, by simp; omega, λ x hx => ?_, λ j x y hx hy => ?_⟩, by dsimp only; omega⟩
   ·rcases ax.1 hx with hx | hx
    ·exact ⟨(h6 x hx).1, by have := (h6 x hx).2; dsimp only; omega⟩
    ·simp at hx; subst hx; exact ⟨he, by dsimp only; omega⟩
   ·dsimp only at hx hy
    have hyl := (aa.1 hy).1
    simp at hyl
    rw [ap (by omega)] at hx
    rw [bH] at hy
    split at hy
    ·exact h7 j x y hx hy
    ·rename_i hn
     have e0 : j + 1 - l.length = 0 := by omega
     rw [e0] at hy
     simp at hy; subst hy
     exact .inl (h6 x (ae hx)).2
  ·simp only [da] at hq
   exact cA ⟨h4, ⟨by dsimp only; omega, λ x hx => (h6 x hx).1, h7⟩, by dsimp only; omega⟩
theorem Asd {b : Aa} (h : Aw b) {s : Ag} (hs : Bh s) : Ok (Wr s b) λ y => (Ay b y.1 /\ y.1.Ak.length <= 4) /\ Bh y.2 := by
 unfold Wr
 refine (Aqx h hs).andThen (λ s0 h0 => ?_) (λ _ h => h.elim)
 refine (Aqw h h0.2).andThen (λ s1 h1 => ?_) (λ _ h => h.elim)
 refine (Aqu h h0.1).andThen (λ s3 h3 => ?_) (λ _ h => h.elim)
 refine (Aqt h h3.1).andThen (λ s4 h4 => ?_) (λ _ h => h.elim)
 refine (Aqs h h4.1).andThen (λ s5 h5 => ?_) (λ _ h => h.elim)
 exact Ok.pure ⟨⟨⟨h1.1, h3.2.1, h4.2.1, h3.2.2, h4.2.2, h1.2, h5.2.1⟩, h5.2.2⟩, h5.1⟩
def Dr (b : Aa) (p : Ab) (k i : Int) : Option Int := ((b.Ad.zip p.Ah).find? λ z => (z.1.Kind == k && z.1.B == i) && z.2).map (·.1.A)
def Ew (o : Option Int) : Int × Bool := match o with
 | some a => (a, true)
 | none => (0, false)
theorem Aan {p : Ab} {k i : Int} : ∀ (l : List Af) (c : List Bool) (n : Nat), n + l.length <= 9223372036854775807 -> l.length = c.length -> p.Ah.drop n = c ->
  foldI (Ro p k i) l n () = match ((l.zip c).find? λ z => (z.1.Kind == k && z.1.B == i) && z.2) with
   | some z => some (.ret (z.1.A, true))
   | none => some (.next ())
 | [], c, n, _, _, _ => by simp [foldI]
 | x :: l, [], n, _, h, _ => by simp at h
 | x :: l, v :: c, n, hn, h, hd => by
  simp only [aY] at hn h
  have hv : p.Ah[n]? = some v := by
   have := congrArg (·[0]?) hd
   simpa [List.getElem?_drop] using this
  have hd' : p.Ah.drop (n + 1) = c := by rw [← bV, hd]; rfl
  have ih := Aan (p := p) (k := k) (i := i) l c (n + 1) (by omega) (by omega) hd'
  have hcnt : cnt 0 n = (n : Int) := C1 (by omega)
  simp only [foldI, Ro, Anx, hcnt, Ba hv, bn, cg]
  cases hk : (x.Kind == k && x.B == i) with
  | false => simpa [Ax, B1] using ih
  | true =>
   cases v with
   | false => simpa [Ax, B1] using ih
   | true => simp [Ax, B1]
theorem Amw {b : Aa} (h : Aw b) {p : Ab} (hc : p.Ah.length = b.Ad.length) (k i : Int) : Yz b p k i = some (Ew (Dr b p k i)) := by
 have hb := h.brl
 unfold Yz
 rw [Aan b.Ad p.Ah 0 (by omega) (by omega) rfl]
 unfold Dr
 cases (b.Ad.zip p.Ah).find? λ z => (z.1.Kind == k && z.1.B == i) && z.2 with
 | none => rfl
 | some z => rfl
theorem Aa3 {b : Aa} (h : Aw b) {p : Ab} (hc : p.Ah.length = b.Ad.length) (i : Int) : Y6 b p i = some (Ew (Dr b p 3 i)) := by
 unfold Y6
 rw [Amw h hc]; rfl
def Ey (b : Aa) (p : Ab) (i : Int) : Option Int :=
 if 0 <= i /\ i < p.Ac.length /\ (p.Ac.getD i.toNat default).State = 2 then Dr b p 2 i else none
theorem Kl {b : Aa} (h : Aw b) {p : Ab} (hp : Ay b p) (i : Int) : Y0 b p i = some (Ew (Ey b p i)) := by
 have hs := h.sol
 have hn := hp.nso
 refine cC ?_
 unfold Y0
 have e1 : w64 ((p.Ac.length : Int) - 1) = (p.Ac.length : Int) - 1 := A7 (by omega)
 by_cases hi : 0 <= i /\ i < p.Ac.length
 ·have hin : F93 i 0 (w64 ((p.Ac.length : Int) - 1)) = true := by rw [e1]; exact X7 (by omega)
  obtain ⟨x, hx⟩ : ∃ x, p.Ac[i.toNat]? = some x := ⟨_, af (by omega)⟩
  have hg : getI p.Ac i = some x := by have := Ba hx; rwa [aU hi.1] at this
  have hd : p.Ac.getD i.toNat default = x := by simp [List.getD, hx]
  rw [hin, hg]
  refine Ok.bind (P := λ y => y = x) (c6 (λ _ => Ok.pure rfl) λ hn => (hn ⟨rfl, trivial⟩).elim) λ y hy => ?_
  subst hy
  unfold Ey
  refine c3 (λ hc => ?_) (λ hc => ?_)
  ·simp only [V_, hin, aD, aZ, bJ, false_or, bne_iff_ne, ne_eq] at hc
   rw [hd, if_neg (λ hh => hc hh.2.2)]
   exact Ok.pure rfl
  ·have hc := ff hc
   simp only [V_, hin, aD, aZ, bJ, false_or, bne_iff_ne, ne_eq, Decidable.not_not] at hc
   rw [hd, if_pos ⟨hi.1, hi.2, hc⟩, Amw h hp.ncl]
   exact Ok.pure rfl
 ·have hin : F93 i 0 (w64 ((p.Ac.length : Int) - 1)) = false := by
   cases hq : F93 i 0 (w64 ((p.Ac.length : Int) - 1)) with
   | false => rfl
   | true => rw [Gc, e1] at hq; omega
  rw [hin]
  unfold Ey
  rw [if_neg (λ hh => hi ⟨hh.1, hh.2.1⟩)]
  refine Ok.bind (P := λ _ => True) (c6 (λ hg => absurd hg.1 (by simp)) λ _ => trivial) λ y _ => ?_
  refine c3 (λ _ => Ok.pure rfl) (λ hc => ?_)
  simp [V_, hin] at hc
theorem S7 {b : Aa} (h : Aw b) {p : Ab} {k i a : Int} (e : Dr b p k i = some a) : 0 <= a /\ a < b.Ao := by
 unfold Dr at e
 rw [Option.map_eq_some_iff] at e
 obtain ⟨z, hz, rfl⟩ := e
 exact (h.br z.1 (bL (List.mem_of_find?_eq_some hz)).1).1
theorem Th {b : Aa} (h : Aw b) {p : Ab} {i a : Int} (e : Ey b p i = some a) : 0 <= a /\ a < b.Ao := by
 unfold Ey at e
 split at e
 ·exact S7 h e
 ·cases e
def Cx (s : List Int) (z : Af × Bool) : List Int :=
 if z.1.Kind = 1 /\ z.2 = true then (s.set z.1.A.toNat (min (s.getD z.1.A.toNat 0) (s.getD z.1.B.toNat 0))).set z.1.B.toNat (min (s.getD z.1.A.toNat 0) (s.getD z.1.B.toNat 0)) else s
def B4 (l : List (Af × Bool)) (s : List Int) : List Int := l.foldl Cx s
def Cp (n : Nat) : List Int := (List.range n).map λ (i : Nat) => (i : Int)
def groups (b : Aa) (p : Ab) : List Int := (List.range b.Ao.toNat).foldl (λ s _ => B4 (b.Ad.zip p.Ah) s) (Cp b.Ao.toNat)
theorem Dj (s : List Int) (z : Af × Bool) : (Cx s z).length = s.length := by
 unfold Cx; split <;> simp
theorem Eo (l : List (Af × Bool)) : ∀ s : List Int, (B4 l s).length = s.length := by
 induction l with
 | nil => intro s; rfl
 | cons z l ih => intro s; show (B4 l (Cx s z)).length = _; rw [ih, Dj]
theorem Lo {b : Aa} {p : Ab} {n : Nat} : ∀ (xs : List Nat) (s : List Int), s.length = n -> (xs.foldl (λ s _ => B4 (b.Ad.zip p.Ah) s) s).length = n
 | [], s, h => h
 | _ :: xs, s, h => Lo xs _ (by rw [Eo]; exact h)
theorem Gy (b : Aa) (p : Ab) : (groups b p).length = b.Ao.toNat := Lo _ _ (by simp [Cp])
theorem Arj {b : Aa} (h : Aw b) {p : Ab} (hc : p.Ah.length = b.Ad.length) {s : List Int} (hs : s.length = b.Ao.toNat) :
  Ok (foldI (Rs p) b.Ad 0 s) (Dc (λ r => r = B4 (b.Ad.zip p.Ah) s) (λ (_ : Unit) => False)) := by
 have hb := h.brl
 have hbu := h.buses
 refine c5 (I := λ j r => r = B4 ((b.Ad.take j).zip (p.Ah.take j)) s) (by simp [B4]) (λ j x r hx hr => ?_) λ r hr => ?_
 ·have hj := (aa.1 hx).1
  obtain ⟨v, hv⟩ : ∃ v, p.Ah[j]? = some v := ⟨_, af (by omega)⟩
  have hcnt : cnt 0 j = (j : Int) := C1 (by omega)
  have hl : r.length = b.Ao.toNat := by rw [hr, Eo, hs]
  have hnext : B4 ((b.Ad.take (j + 1)).zip (p.Ah.take (j + 1))) s = Cx r (x, v) := by
   rw [Bj hx, Bj hv, List.zip_append (by simp; omega)]
   unfold B4 at hr ⊢
   rw [aP, ← hr]; rfl
  rw [hnext]
  unfold Rs
  rw [hcnt, Ba hv]
  obtain ⟨⟨a0, a1⟩, hk⟩ := h.br x (ae hx)
  by_cases k1 : x.Kind = 1
  ·rw [db.2 k1]
   refine Ok.bind (P := λ y => y = v) (c6 (λ _ => Ok.pure rfl) λ hn => (hn ⟨rfl, trivial⟩).elim) λ y hy => ?_
   subst hy
   have hB : x.A < x.B /\ x.B < b.Ao := by omega
   cases y with
   | false =>
    refine c3 (λ hq => by simp at hq) (λ _ => c4 ?_)
    simp [Cx]
   | true =>
    refine c3 (λ _ => ?_) (λ hq => by simp at hq)
    refine (c7 a0 (by omega)).bind λ u hu => (c7 (by omega) (by omega)).bind λ w hw => (c9 a0 (by omega)).bind λ t ht => ?_
    subst ht
    refine (c7 (by omega) (by simp; omega)).bind λ _ _ => (c9 (by omega) (by simp; omega)).bind λ t ht => c4 ?_
    subst ht
    simp [Cx, k1, List.getD, hu, hw]
  ·rw [de.2 k1]
   refine Ok.bind (P := λ _ => True) (c6 (λ hg => absurd hg.1 (by simp)) λ _ => trivial) λ y _ => ?_
   refine c3 (λ hq => by simp at hq) (λ _ => c4 ?_)
   simp [Cx, k1]
 ·rw [aH, ← hc, aH] at hr
  exact hr
theorem Am4 {b : Aa} (h : Aw b) {p : Ab} (hc : p.Ah.length = b.Ad.length) : Ad4 b p = some (groups b p) := by
 have hbu := h.buses
 refine cC ?_
 unfold Ad4
 refine (Ok.mkI (by omega) (by omega)).bind λ y hy => ?_
 refine Ok.andThen (A := λ s => s = Cp b.Ao.toNat) (B := λ (_ : Unit) => False) ?_ ?_ (λ _ h => h.elim)
 ·refine c5 (I := λ j s => s = (List.range b.Ao.toNat).map λ i => if i < j then (i : Int) else 0) ?_ (λ j x s hx hs => ?_) λ s hs => ?_
  ·rw [hy, K2]
   exact aT λ i _ => by simp
  ·have hj := (aa.1 hx).1
   have hjl : j < b.Ao.toNat := by rw [hy] at hj; simpa using hj
   have hcnt : cnt 0 j = (j : Int) := C1 (by omega)
   subst hs
   unfold Y2
   rw [hcnt]
   refine (cJ (by omega) (by omega)).bind λ _ _ => (cO (by omega) (by omega)).bind λ z hz => c4 ?_
   rw [hz]
   refine aT λ i _ => ?_
   by_cases e : i = j
   ·subst e; simp
   ·have : ((j : Int)).toNat = j := by omega
    rw [this, if_neg e]
    by_cases e2 : i < j
    ·rw [if_pos e2, if_pos (by omega)]
    ·rw [if_neg e2, if_neg (by omega)]
  ·rw [hs]
   unfold Cp
   refine aT λ i hi => ?_
   rw [hy]
   simp at hi
   simp [hi]
 ·rintro s rfl
  refine Ok.andThen (A := λ s => s = groups b p) (B := λ (_ : Unit) => False) ?_ (λ s hs => Ok.pure hs) (λ _ h => h.elim)
  refine c5 (I := λ j s => s = (List.range j).foldl (λ s _ => B4 (b.Ad.zip p.Ah) s) (Cp b.Ao.toNat)) rfl (λ j x s hx hs => ?_) λ s hs => ?_
  ·unfold Y1
   have hl : s.length = b.Ao.toNat := by rw [hs]; exact Lo _ _ (by simp [Cp])
   refine (Arj h hc hl).inner (λ r hr => c4 ?_) (λ _ h => h.elim)
   rw [hr, bo, aP, ← hs]; rfl
  ·rw [hs]
   unfold groups
   congr 2
   simp [Cp]
theorem Ari {s : List Int} (h : ∀ (i : Nat) v, s[i]? = some v -> 0 <= v /\ v <= i) {z : Af × Bool} (hz : z.1.Kind = 1 -> 0 <= z.1.A /\ z.1.A < z.1.B /\ z.1.B < s.length) : ∀ (i : Nat) v, (Cx s z)[i]? = some v -> 0 <= v /\ v <= i := by
 unfold Cx
 split
 ·rename_i hk
  obtain ⟨h1, h2, h3⟩ := hz hk.1
  have ga : s[z.1.A.toNat]? = some (s.getD z.1.A.toNat 0) := by rw [af (by omega)]; simp [List.getD, List.getElem?_eq_getElem (show z.1.A.toNat < s.length by omega)]
  have gb : s[z.1.B.toNat]? = some (s.getD z.1.B.toNat 0) := by rw [af (by omega)]; simp [List.getD, List.getElem?_eq_getElem (show z.1.B.toNat < s.length by omega)]
  have ha := h _ _ ga
  have hb := h _ _ gb
  intro i v hv
  rw [al] at hv
  split at hv
  ·rename_i e; subst e
   split at hv
   ·cases hv; omega
   ·cases hv
  ·rw [al] at hv
   split at hv
   ·rename_i e; subst e
    split at hv
    ·cases hv; omega
    ·cases hv
   ·exact h i v hv
 ·exact h
theorem jD {n : Nat} : ∀ (l : List (Af × Bool)) (s : List Int), s.length = n -> (∀ z, z ∈ l -> z.1.Kind = 1 -> 0 <= z.1.A /\ z.1.A < z.1.B /\ z.1.B < n) -> (∀ (i : Nat) v, s[i]? = some v -> 0 <= v /\ v <= i) -> ∀ (i : Nat) v, (B4 l s)[i]? = some v -> 0 <= v /\ v <= i
 | [], s, _, _, h => h
 | z :: l, s, hs, hz, h => jD l (Cx s z) (by rw [Dj]; exact hs) (λ y hy => hz y (ai _ hy)) (Ari h (by rw [hs]; exact hz z ak))
theorem Pr {b : Aa} (h : Aw b) (p : Ab) : ∀ (i : Nat) v, (groups b p)[i]? = some v -> 0 <= v /\ v <= i := by
 have hbu := h.buses
 have hz : ∀ z, z ∈ b.Ad.zip p.Ah -> z.1.Kind = 1 -> 0 <= z.1.A /\ z.1.A < z.1.B /\ z.1.B < (b.Ao.toNat : Int) := by
  intro z hz hk
  have := h.br z.1 (bL hz).1
  unfold Fu at this
  omega
 have key : ∀ (xs : List Nat) (s : List Int), s.length = b.Ao.toNat -> (∀ (i : Nat) v, s[i]? = some v -> 0 <= v /\ v <= i) -> ∀ (i : Nat) v, (xs.foldl (λ s _ => B4 (b.Ad.zip p.Ah) s) s)[i]? = some v -> 0 <= v /\ v <= i := by
  intro xs
  induction xs with
  | nil => intro s _ h; exact h
  | cons x xs ih => intro s hl h; exact ih _ (by rw [Eo]; exact hl) (jD _ s hl hz h)
 refine key _ _ (by simp [Cp]) ?_
 intro i v hv
 simp only [Cp, az] at hv
 cases hr : (List.range b.Ao.toNat)[i]? with
 | none => rw [hr] at hv; cases hv
 | some k =>
  rw [hr] at hv
  have := aa.1 hr
  simp at this
  obtain ⟨_, rfl⟩ := this
  cases hv; dsimp only; omega
def G4 (x : Aj) : Bool := !((x.Ao.length : Int) == 0)
theorem Art (l : List Aj) (h : l.length <= 9223372036854775807) : Qd l = some (Ni (λ x => (x.Ao.length : Int) == 0) l) := by
 unfold Qd
 exact Ix (λ x : Aj => (x.Ao.length : Int) == 0) (λ i y => rfl) l h
theorem Auo (l : List Aj) (hl : l.length <= 1000) : Qf l = some (l.filter G4) := by
 refine cC ?_
 unfold Qf
 rw [Art l (by omega)]
 simp only [ab]
 unfold Ni
 cases hf : l.findIdx? λ x => (x.Ao.length : Int) == 0 with
 | none =>
  rw [List.findIdx?_eq_none_iff] at hf
  refine c3 (λ _ => Ok.pure ?_) (λ hc => by simp at hc)
  rw [eq_comm, List.filter_eq_self]
  intro x hx
  simp only [G4, hf x hx]; rfl
 | some i =>
  rw [List.findIdx?_eq_some_iff_getElem] at hf
  obtain ⟨hi, hp, hn⟩ := hf
  refine c3 (λ hc => ?_) (λ _ => ?_)
  ·simp only [db] at hc; omega
  have e1 : w64 ((i : Int) + 1) = (i : Int) + 1 := A7 (by omega)
  simp only [e1]
  refine Ok.andThen (A := λ s => 0 <= s.1 /\ s.1 <= (l.length : Int) /\ s.2.2.length = l.length /\ s.2.2.take s.1.toNat = l.filter G4) (B := λ (_ : Unit) => False) ?_ ?_ (λ _ h => h.elim)
  ·refine c8 (λ s => (0 <= s.1 /\ s.1 < s.2.1 /\ s.2.1 <= (l.length : Int)) /\ s.2.2.length = l.length /\ s.2.2.take s.1.toNat = (l.take s.2.1.toNat).filter G4 /\ s.2.2.drop s.2.1.toNat = l.drop s.2.1.toNat) (λ s => ((l.length : Int) - s.2.1).toNat) _ _ ?_ ?_ ?_
   ·refine ⟨by dsimp only; omega, rfl, ?_, rfl⟩
    dsimp only
    have e2 : ((i : Int) + 1).toNat = i + 1 := by omega
    rw [e2, ar, Bj (af hi), bv]
    have h1 : (l.take i).filter G4 = l.take i := by
     rw [List.filter_eq_self]
     intro x hx
     obtain ⟨j, hj, rfl⟩ := List.getElem_of_mem hx
     simp only [aL] at hj
     rw [List.getElem_take]
     have := hn j (by omega)
     simp only [G4]
     simpa using this
    have h2 : G4 l[i] = false := by simp only [G4, hp]; rfl
    rw [h1]
    simp [h2]
   ·dsimp only; omega
   ·rintro ⟨a, j, m⟩ ⟨⟨h1, h2, h3⟩, h4, h5, h6⟩
    dsimp only at h1 h2 h3 h4 h5 h6
    unfold Qe Abo
    dsimp only
    refine c3 (λ hq => ?_) (λ hq => ?_)
    ·simp only [cZ] at hq
     have e1 : w64 (j + 1) = j + 1 := A7 (by omega)
     have e2 : w64 (a + 1) = a + 1 := A7 (by omega)
     have e3 : (j + 1).toNat = j.toNat + 1 := by omega
     have e4 : (a + 1).toNat = a.toNat + 1 := by omega
     refine (c7 (by omega) (by omega)).bind λ y hy => ?_
     have hyl : l[j.toNat]? = some y := by
      have := congrArg (·[0]?) h6
      simp only [an, Nat.add_zero] at this
      rw [← this]; exact hy
     have hdrop : ∀ (q : List Aj), q.drop j.toNat = l.drop j.toNat -> q.drop (j.toNat + 1) = l.drop (j.toNat + 1) := λ q hq => by
      rw [← bV, hq, bV]
     refine c3 (λ hf => ?_) (λ hf => ?_)
     ·refine (c7 (by omega) (by omega)).bind λ _ _ => (c9 (by omega) (by omega)).bind λ z hz => ?_
      rw [e1, e2]
      subst hz
      refine c4 ⟨⟨by dsimp only; omega, by simpa using h4, ?_, ?_⟩, by dsimp only; omega⟩
      ·dsimp only
       rw [e3, e4, Bj hyl, bv, ← h5]
       have hfl : G4 y = true := hf
       rw [Bj (x := y) (by rw [bE (by omega)])]
       simp [hfl, List.take_set_of_le]
      ·dsimp only
       rw [e3, List.drop_set_of_lt (by omega)]
       exact hdrop m h6
     ·rw [e1]
      refine c4 ⟨⟨by dsimp only; omega, h4, ?_, ?_⟩, by dsimp only; omega⟩
      ·dsimp only
       have hfl : G4 y = false := hf
       rw [e3, Bj hyl, bv, ← h5]
       simp [hfl]
      ·dsimp only
       rw [e3]; exact hdrop m h6
    ·simp only [da] at hq
     have e : j.toNat = l.length := by omega
     refine cA ⟨h1, by dsimp only; omega, h4, ?_⟩
     dsimp only
     rw [h5, e, aH]
  ·rintro ⟨a, j, m⟩ ⟨h1, h2, h3, h4⟩
   dsimp only at h1 h2 h3 h4 ⊢
   have hc : (Jf m a.toNat ((Int.toNat (m.length : Int)) - a.toNat) (⟨([] : List Int), ([] : List Int), ([] : List Int)⟩ : Aj)).length = l.length := by
    simp [Jf]; omega
   refine (Ok.bndI h1 (by omega) (by omega)).bind λ _ _ => (Ok.bndI (by omega) h1 (by rw [hc]; omega)).bind λ _ _ => Ok.pure ?_
   rw [← h4]
   unfold Jf
   rw [Nat.sub_zero, ch (by simp; omega), List.take_take, Nat.min_self]
def E0 (b : Aa) (p : Ab) (o : Option Int) : Option Int := o.map λ a => (groups b p).getD a.toNat 0
def Dm (b : Aa) (p : Ab) (n f : Nat) : List Int := ((List.range n).filter λ (i : Nat) => (groups b p).getD i 0 == (f : Int)).map λ (i : Nat) => (i : Int)
def Dt (b : Aa) (p : Ab) (n f : Nat) : List Int := ((List.range n).filter λ (i : Nat) => E0 b p (Ey b p (i : Int)) == some (f : Int)).map λ (i : Nat) => (i : Int)
def Gf (b : Aa) (p : Ab) (n f : Nat) : List Int := ((List.range n).filter λ (i : Nat) => E0 b p (Dr b p 3 (i : Int)) == some (f : Int)).map λ (i : Nat) => (i : Int)
def isl (b : Aa) (p : Ab) (f : Nat) : Aj := ⟨Dm b p b.Ao.toNat f, Dt b p b.Ac.length f, Gf b p b.Ai.length f⟩
def Cb (b : Aa) (p : Ab) : List Aj := ((List.range b.Ao.toNat).map (isl b p)).filter G4
theorem D4 (q : Nat -> Bool) (n : Nat) : ((List.range (n + 1)).filter q).map (λ (i : Nat) => (i : Int)) = ((List.range n).filter q).map (λ (i : Nat) => (i : Int)) ++ if q n = true then [(n : Int)] else [] := by
 rw [bo, bv, bB]
 congr 1
 cases h : q n <;> simp [h]
theorem C6 (q : Nat -> Bool) (n : Nat) : (((List.range n).filter q).map (λ (i : Nat) => (i : Int))).length <= n := by
 have := bi q (List.range n)
 simpa using this
theorem Jo {b : Aa} (h : Aw b) {p : Ab} (hp : Ay b p) : T8 b p = some (Cb b p) := by
 have hbu := h.buses
 have hso := h.sol
 have hco := h.col
 have hgl := Gy b p
 have hglo := Pr h p
 refine cC ?_
 unfold T8
 rw [B6 h hp]
 simp only [ab]
 refine c3 (λ hc => by simp at hc) (λ _ => ?_)
 rw [Am4 h hp.ncl]
 simp only [ab]
 refine (Ok.mkI (by omega) (by omega)).bind λ y hy => ?_
 have hget : ∀ (i : Nat), i < b.Ao.toNat -> (groups b p)[i]? = some ((groups b p).getD i 0) := λ i hi => by
  have : i < (groups b p).length := by omega
  simp [List.getD, List.getElem?_eq_getElem this]
 refine Ok.andThen (A := λ s => s = (List.range b.Ao.toNat).map λ f => (⟨Dm b p b.Ao.toNat f, [], []⟩ : Aj)) (B := λ (_ : Unit) => False) ?_ ?_ (λ _ h => h.elim)
 ·refine c5 (I := λ j s => s = (List.range b.Ao.toNat).map λ f => (⟨Dm b p j f, [], []⟩ : Aj)) ?_ (λ j x s hx hs => ?_) λ s hs => ?_
  ·rw [hy, K2]; rfl
  ·subst hs
   have hj : j < b.Ao.toNat := by have := (aa.1 hx).1; omega
   have hlo := hglo j x hx
   have hxe : (groups b p).getD j 0 = x := by simp [List.getD, hx]
   have hcnt : cnt 0 j = (j : Int) := C1 (by omega)
   unfold Y9
   rw [hcnt]
   refine (cJ (by omega) (by omega)).bind λ u hu => ?_
   subst hu
   have hl : (Dm b p j x.toNat).length <= j := C6 _ _
   refine (cw (by simp; omega)).bind λ v hv => (cO (by omega) (by omega)).bind λ w hw => c4 ?_
   rw [hw]
   refine aT λ f _ => ?_
   unfold Dm
   rw [D4, hxe]
   by_cases e : f = x.toNat
   ·subst e
    rw [if_pos rfl, if_pos (by simp; omega), hv]
    rfl
   ·rw [if_neg e, if_neg (by simp; omega), aF]
  ·rw [hgl] at hs; exact hs
 ·rintro s rfl
  refine Ok.andThen (A := λ s => s.2 = (List.range b.Ao.toNat).map λ f => (⟨Dm b p b.Ao.toNat f, Dt b p b.Ac.length f, []⟩ : Aj)) (B := λ (_ : Unit) => False) ?_ ?_ (λ _ h => h.elim)
  ·refine c8 (λ s => (0 <= s.1 /\ s.1 <= (b.Ac.length : Int)) /\ s.2 = (List.range b.Ao.toNat).map λ f => (⟨Dm b p b.Ao.toNat f, Dt b p s.1.toNat f, []⟩ : Aj)) (λ s => ((b.Ac.length : Int) - s.1).toNat) _ _ ?_ ?_ ?_
   ·exact ⟨by dsimp only; omega, rfl⟩
   ·dsimp only; omega
   ·rintro ⟨i, s⟩ ⟨⟨h1, h2⟩, h3⟩
    dsimp only at h1 h2 h3
    subst h3
    unfold Y8 Anz
    dsimp only
    refine c3 (λ hq => ?_) (λ hq => ?_)
    ·simp only [cZ] at hq
     have e1 : w64 (i + 1) = i + 1 := A7 (by omega)
     have e2 : (i + 1).toNat = i.toNat + 1 := by omega
     have e3 : ((i.toNat : Nat) : Int) = i := by omega
     rw [Kl h hp]
     simp only [ab]
     cases hcn : Ey b p i with
     | none =>
      refine c3 (λ hc => by simp [Ew] at hc) (λ _ => ?_)
      rw [e1]
      refine c4 ⟨⟨by dsimp only; omega, ?_⟩, by dsimp only; omega⟩
      dsimp only
      rw [e2]
      refine aT λ f _ => ?_
      unfold Dt
      rw [D4, e3, hcn, if_neg (by simp [E0]), aF]
     | some a =>
      have hab := Th h hcn
      have hga := hget a.toNat (by omega)
      have hgla := hglo _ _ hga
      refine c3 (λ _ => ?_) (λ hc => by simp [Ew] at hc)
      have hg2 : getI (groups b p) a = some ((groups b p).getD a.toNat 0) := by have := Ba hga; rwa [aU hab.1] at this
      simp only [Ew, hg2, ab]
      generalize hge : (groups b p).getD a.toNat 0 = ga at hgla
      refine (cJ (by omega) (by omega)).bind λ u hu => ?_
      subst hu
      have hl : (Dt b p i.toNat ga.toNat).length <= i.toNat := C6 _ _
      refine (cw (by simp; omega)).bind λ v hv => (cO (by omega) (by omega)).bind λ w hw => ?_
      rw [e1]
      refine c4 ⟨⟨by dsimp only; omega, ?_⟩, by dsimp only; omega⟩
      dsimp only
      rw [hw, e2]
      refine aT λ f _ => ?_
      unfold Dt
      rw [D4, e3, hcn]
      simp only [E0, bM, hge]
      by_cases e : f = ga.toNat
      ·subst e
       rw [if_pos rfl, if_pos (by simp; omega), hv]
       rfl
      ·rw [if_neg e, if_neg (by simp; omega), aF]
    ·simp only [da] at hq
     have e : i.toNat = b.Ac.length := by omega
     rw [e]
     exact cA rfl
  ·rintro ⟨i0, s⟩ hs
   dsimp only at hs
   subst hs
   dsimp only
   refine Ok.andThen (A := λ s => s.2 = (List.range b.Ao.toNat).map (isl b p)) (B := λ (_ : Unit) => False) ?_ ?_ (λ _ h => h.elim)
   ·refine c8 (λ s => (0 <= s.1 /\ s.1 <= (b.Ai.length : Int)) /\ s.2 = (List.range b.Ao.toNat).map λ f => (⟨Dm b p b.Ao.toNat f, Dt b p b.Ac.length f, Gf b p s.1.toNat f⟩ : Aj)) (λ s => ((b.Ai.length : Int) - s.1).toNat) _ _ ?_ ?_ ?_
    ·exact ⟨by dsimp only; omega, rfl⟩
    ·dsimp only; omega
    ·rintro ⟨i, s⟩ ⟨⟨h1, h2⟩, h3⟩
     dsimp only at h1 h2 h3
     subst h3
     unfold Y7 Any
     dsimp only
     refine c3 (λ hq => ?_) (λ hq => ?_)
     ·simp only [cZ] at hq
      have e1 : w64 (i + 1) = i + 1 := A7 (by omega)
      have e2 : (i + 1).toNat = i.toNat + 1 := by omega
      have e3 : ((i.toNat : Nat) : Int) = i := by omega
      rw [Aa3 h hp.ncl]
      simp only [ab]
      cases hcn : Dr b p 3 i with
      | none =>
       refine c3 (λ hc => by simp [Ew] at hc) (λ _ => ?_)
       rw [e1]
       refine c4 ⟨⟨by dsimp only; omega, ?_⟩, by dsimp only; omega⟩
       dsimp only
       rw [e2]
       refine aT λ f _ => ?_
       unfold Gf
       rw [D4, e3, hcn, if_neg (by simp [E0]), aF]
      | some a =>
       have hab := S7 h hcn
       have hga := hget a.toNat (by omega)
       have hgla := hglo _ _ hga
       refine c3 (λ _ => ?_) (λ hc => by simp [Ew] at hc)
       have hg2 : getI (groups b p) a = some ((groups b p).getD a.toNat 0) := by have := Ba hga; rwa [aU hab.1] at this
       simp only [Ew, hg2, ab]
       generalize hge : (groups b p).getD a.toNat 0 = ga at hgla
       refine (cJ (by omega) (by omega)).bind λ u hu => ?_
       subst hu
       have hl : (Gf b p i.toNat ga.toNat).length <= i.toNat := C6 _ _
       refine (cw (by simp; omega)).bind λ v hv => (cO (by omega) (by omega)).bind λ w hw => ?_
       rw [e1]
       refine c4 ⟨⟨by dsimp only; omega, ?_⟩, by dsimp only; omega⟩
       dsimp only
       rw [hw, e2]
       refine aT λ f _ => ?_
       unfold Gf
       rw [D4, e3, hcn]
       simp only [E0, bM, hge]
       by_cases e : f = ga.toNat
       ·subst e
        rw [if_pos rfl, if_pos (by simp; omega), hv]
        rfl
       ·rw [if_neg e, if_neg (by simp; omega), aF]
     ·simp only [da] at hq
      have e : i.toNat = b.Ai.length := by omega
      rw [e]
      exact cA rfl
   ·rintro ⟨i1, s⟩ hs
    dsimp only at hs
    subst hs
    dsimp only
    rw [Auo _ (by simp; omega)]
    exact Ok.pure rfl
theorem P8 {α : Type} {B : Nat} {l : List α} (h : l.length * B <= 140737488355328) : appI B [] l = some l := by
 unfold appI
 have : decide ((([] : List α).length + l.length) * B <= 140737488355328) = true := by simpa using h
 rw [this]; rfl
theorem Ea {b : Aa} (h : Aw b) {p : Ab} (hp : Ay b p) : F35 p = some p := by
 have h1 := hp.ncl
 have h2 := hp.nso
 have h3 := hp.nli
 have h4 := hp.brk.len
 have h5 := h.brl
 have h6 := h.sol
 have h7 := h.col
 unfold F35 F78 F79 F80 F81
 rw [P8 (by omega), P8 (by omega), P8 (by omega), P8 (by omega)]
 rfl
structure A1a (p : Ab) : Prop where
 c : p.Ah.length <= 1000
 s : p.Ac.length <= 1000
 l : p.As.length <= 1000
 k : p.Ak.length <= 1000
theorem Ay.lens {b : Aa} (h : Aw b) {p : Ab} (hp : Ay b p) : A1a p := by
 have h1 := hp.ncl
 have h2 := hp.nso
 have h3 := hp.nli
 have h4 := hp.brk.len
 have h5 := h.brl
 have h6 := h.sol
 have h7 := h.col
 exact ⟨by omega, by omega, by omega, by omega⟩
def Aqj (Cr x : Ae) : Ae := ⟨x.State, x.Since, Cr.Ar, Cr.Phase⟩
def F1 (Cr : Ae) (idx : List Int) (ss : List Ae) : List Ae := idx.foldl (λ s i => s.set i.toNat (Aqj Cr (s.getD i.toNat default))) ss
theorem Fo (Cr : Ae) : ∀ (idx : List Int) (ss : List Ae), (F1 Cr idx ss).length = ss.length
 | [], _ => rfl
 | i :: idx, ss => by
  show (F1 Cr idx _).length = _
  rw [Fo Cr idx, bF]
theorem Zp {Cr : Ae} {idx : List Int} {j : Nat} {i : Int} (h : idx[j]? = some i) (ss : List Ae) : F1 Cr (idx.take (j + 1)) ss = (F1 Cr (idx.take j) ss).set i.toNat (Aqj Cr ((F1 Cr (idx.take j) ss).getD i.toNat default)) := by
 unfold F1
 rw [Bj h, aP]; rfl
theorem O4 {p : Ab} {idx : List Int} {Cr : Ae} (h : ∀ i, i ∈ idx -> 0 <= i /\ i < p.Ac.length) : Kr p idx Cr = some (F1 Cr idx p.Ac) := by
 refine cC ?_
 unfold Kr
 refine Ok.andThen (A := λ s => s = F1 Cr idx p.Ac) (B := λ (_ : Unit) => False) ?_ (λ s hs => Ok.pure hs) (λ _ h => h.elim)
 refine c5 (I := λ j s => s = F1 Cr (idx.take j) p.Ac) rfl (λ j x s hx hs => ?_) λ s hs => ?_
 ·have hi := h x (ae hx)
  have hl : s.length = p.Ac.length := by rw [hs, Fo]
  unfold Qj
  refine (c7 hi.1 (by omega)).bind λ u hu => (c9 hi.1 (by omega)).bind λ v hv => ?_
  have hvg : v[x.toNat]? = some (⟨u.State, u.Since, Cr.Ar, u.Phase⟩ : Ae) := by rw [hv, bE (by omega)]
  refine Ok.bind (P := λ w => w = (⟨u.State, u.Since, Cr.Ar, u.Phase⟩ : Ae)) ((c7 hi.1 (by rw [hv]; simpa using by omega)).mono λ w hw => by rw [hvg] at hw; cases hw; rfl) λ w hw => ?_
  refine (c9 hi.1 (by rw [hv]; simpa using by omega)).bind λ z hz => c4 ?_
  rw [Zp hx, ← hs, hz, hv, hw, List.set_set]
  have : s.getD x.toNat default = u := by simp [List.getD, hu]
  rw [this]; rfl
 ·rw [aH] at hs; exact hs
def E9 (b : Aa) (p : Ab) : List Ae := (Cb b p).foldl (λ s x => match x.Ac with | [] => s | i :: _ => F1 (p.Ac.getD i.toNat default) x.Ac s) p.Ac
theorem Q9 {b : Aa} {p : Ab} {x : Aj} (h : x ∈ Cb b p) : ∀ i, i ∈ x.Ac -> 0 <= i /\ i < b.Ac.length := by
 unfold Cb at h
 obtain ⟨f, _, rfl⟩ := ao.1 (aw.1 h).1
 intro i hi
 obtain ⟨k, hk, rfl⟩ := ao.1 hi
 have := aK.1 (aw.1 hk).1
 omega
theorem X5 (b : Aa) (p : Ab) : (Cb b p).length <= b.Ao.toNat := by
 have := bi G4 ((List.range b.Ao.toNat).map (isl b p))
 simpa [Cb] using this
def Dl (p : Ab) (s : List Ae) (x : Aj) : List Ae := match x.Ac with
 | [] => s
 | i :: _ => F1 (p.Ac.getD i.toNat default) x.Ac s
theorem Pu (p : Ab) (s : List Ae) (x : Aj) : (Dl p s x).length = s.length := by
 unfold Dl; split
 ·rfl
 ·rw [Fo]
theorem Iq (p : Ab) : ∀ (l : List Aj) (s : List Ae), (l.foldl (Dl p) s).length = s.length
 | [], _ => rfl
 | x :: l, s => by show (l.foldl (Dl p) _).length = _; rw [Iq p l, Pu]
theorem Mb (b : Aa) (p : Ab) : (E9 b p).length = p.Ac.length := Iq p _ _
theorem jE {b : Aa} (h : Aw b) {p : Ab} (hp : Ay b p) : Za b p = some (⟨p.Ah, E9 b p, p.As, p.Ak⟩, 0) := by
 refine cC ?_
 unfold Za
 rw [B6 h hp, Ea h hp, Jo h hp]
 simp only [ab]
 refine c3 (λ hc => by simp at hc) (λ _ => ?_)
 refine Ok.andThen (A := λ s => s = E9 b p) (B := λ (_ : Unit) => False) ?_ (λ s hs => Ok.pure (by rw [hs])) (λ _ h => h.elim)
 refine c5 (I := λ j s => s = ((Cb b p).take j).foldl (Dl p) p.Ac) rfl (λ j x s hx hs => ?_) λ s hs => ?_
 ·have hi := Q9 (ae hx)
  have hl : s.length = p.Ac.length := by rw [hs, Iq]
  have hn := hp.nso
  have hnext : ((Cb b p).take (j + 1)).foldl (Dl p) p.Ac = Dl p s x := by rw [Bj hx, aP, ← hs]; rfl
  unfold Y_ An0
  cases hsrc : x.Ac with
  | nil =>
   refine c3 (λ hc => by simp at hc) (λ _ => c4 ?_)
   rw [hnext]; simp [Dl, hsrc]
  | cons i l =>
   have hi0 := hi i (by rw [hsrc]; exact ak)
   refine c3 (λ _ => ?_) (λ hc => by simp at hc)
   have hg : getI (i :: l) 0 = some i := rfl
   obtain ⟨u, hu⟩ : ∃ u, p.Ac[i.toNat]? = some u := ⟨_, af (by omega)⟩
   have hg2 : getI p.Ac i = some u := by have := Ba hu; rwa [aU hi0.1] at this
   rw [hg]
   simp only [ab]
   rw [hg2]
   simp only [ab]
   rw [O4 (by
    intro k hk
    have := hi k (by rw [hsrc]; exact hk)
    dsimp only
    omega)]
   refine c4 ?_
   rw [hnext]
   have : p.Ac.getD i.toNat default = u := by simp [List.getD, hu]
   simp only [Dl, hsrc, this]
 ·rw [aH] at hs; exact hs


def brk (l : List Al) (k n : Int) : Bool := l.any λ x => k == x.Kind && n == x.Number
theorem D6 {p : Ab} (h : p.Ak.length <= 1000) (k n : Int) : F76 p k n = some (brk p.Ak k n) := by
 unfold F76 Akh Ake
 rw [Ix (λ x : Al => (k == x.Kind) && ((n == x.Number) && true)) (λ i y => rfl) p.Ak (by omega)]
 simp only [ab, Nh, brk, bp]
def Eh (b : Aa) (i : Int) : Int := Ni (λ x : Af => x.Kind == 2 && x.B == i) b.Ad
theorem Js {b : Aa} (h : Aw b) (i : Int) : F56 b i = some (Eh b i) := by
 have hb := h.brl
 unfold F56 W_
 refine cC ?_
 refine Ok.bind (P := λ y => y = (Eh b i, i)) ?_ (λ y hy => Ok.pure (by rw [hy]))
 have key := Lj (f := λ n (a : Af) (z : Unit) => (bif (a.Kind == 2 && a.B == i) then some (.ret (cnt 0 n)) else some (.next ()) : Option (Ctl Unit Int))) (p := λ x : Af => x.Kind == 2 && x.B == i) (λ _ _ => rfl) b.Ad 0 (by omega)
 have : ∀ (xs : List Af) (k : Nat), foldI (Li i) xs k () = match foldI (λ n (a : Af) (z : Unit) => (bif (a.Kind == 2 && a.B == i) then some (.ret (cnt 0 n)) else some (.next ()) : Option (Ctl Unit Int))) xs k () with
   | some (.ret r) => some (.ret (r, i))
   | some (.next _) => some (.next ())
   | some (.brk _) => some (.brk ())
   | none => none := by
  intro xs
  induction xs with
  | nil => intro k; rfl
  | cons x xs ih =>
   intro k
   simp only [foldI, Li, W9]
   cases hq : (x.Kind == 2 && x.B == i) with
   | true => rfl
   | false => simp only [cond_false]; exact ih (k + 1)
 rw [this, key]
 unfold Eh Ni
 cases b.Ad.findIdx? (λ x : Af => x.Kind == 2 && x.B == i) with
 | none => exact Ok.pure rfl
 | some j => exact Ok.pure rfl
theorem Hs {b : Aa} (h : Aw b) {i : Int} (h0 : 0 <= i) (h1 : i < b.Ac.length) : ∃ (j : Nat) (x : Af), Eh b i = (j : Int) /\ b.Ad[j]? = some x /\ x.Kind = 2 /\ x.B = i /\ j < 24 := by
 have hone := h.one i.toNat (by omega)
 have hb := h.brl
 unfold Eh Ni
 cases hf : b.Ad.findIdx? (λ x : Af => x.Kind == 2 && x.B == i) with
 | none =>
  exfalso
  rw [List.findIdx?_eq_none_iff] at hf
  have : brs b.Ad 2 i.toNat = [] := Ic λ x hx hk e => by
   have := hf x hx
   simp [hk] at this
   omega
  rw [this] at hone; simp at hone
 | some j =>
  rw [List.findIdx?_eq_some_iff_getElem] at hf
  obtain ⟨hj, hp, _⟩ := hf
  simp only [ac, db] at hp
  exact ⟨j, b.Ad[j], rfl, af hj, hp.1, hp.2, by omega⟩
def Bt (b : Aa) (l : List Al) (i : Int) : Bool :=
 let x := b.Ad.getD i.toNat default
 (!brk l 2 i && !brk l 3 x.A) && ((x.Kind != 1) || !brk l 3 x.B)
theorem Mw {b : Aa} (h : Aw b) {p : Ab} (hl : p.Ak.length <= 1000) {i : Int} (h0 : 0 <= i) (h1 : i < b.Ad.length) : F57 b p i = some (Bt b p.Ak i) := by
 have hb := h.brl
 refine cC ?_
 unfold F57
 refine (c7 h0 (by omega)).bind λ x hx => ?_
 have hd : b.Ad.getD i.toNat default = x := by simp [List.getD, hx]
 unfold Bt
 rw [hd]
 simp only [D6 hl, ab]
 cases h2 : brk p.Ak 2 i with
 | true => simp [Ax, B1]; exact Ok.pure rfl
 | false =>
  cases h3 : brk p.Ak 3 x.A with
  | true => simp [Ax, B1]; exact Ok.pure rfl
  | false =>
   cases hk : (x.Kind != 1) with
   | true => simp [Ax, B1]; exact Ok.pure rfl
   | false => simp [Ax, B1]; exact Ok.pure rfl
def Bm (b : Aa) (p : Ab) (i : Int) : Bool := (Bt b p.Ak (Eh b i) && !brk p.Ak 1 i) && ((p.Ac.getD i.toNat default).State != 3)
theorem Oi {b : Aa} (h : Aw b) {p : Ab} (hp : p.Ac.length = b.Ac.length) (hl : p.Ak.length <= 1000) {i : Int} (h0 : 0 <= i) (h1 : i < b.Ac.length) : F55 b p i = some (Bm b p i) := by
 obtain ⟨j, x, e, hx, _, _, hj⟩ := Hs h h0 h1
 have hjl := (aa.1 hx).1
 refine cC ?_
 unfold F55
 rw [Js h]
 simp only [ab]
 rw [Mw h hl (by omega) (by omega)]
 simp only [ab, D6 hl]
 obtain ⟨s, hs⟩ : ∃ s, p.Ac[i.toNat]? = some s := ⟨_, af (by omega)⟩
 have hg : getI p.Ac i = some s := by have := Ba hs; rwa [aU h0] at this
 have hd : p.Ac.getD i.toNat default = s := by simp [List.getD, hs]
 unfold Bm
 rw [hd, hg]
 cases h2 : Bt b p.Ak (Eh b i) with
 | false => simp [Ax, B1]; exact Ok.pure rfl
 | true =>
  cases h3 : brk p.Ak 1 i with
  | true => simp [Ax, B1]; exact Ok.pure rfl
  | false => simp [Ax, B1]; exact Ok.pure rfl
def lit (b : Aa) (u : Int -> Bool) (s : List Bool) (i : Nat) : List Bool := if u (i : Int) then s.set (b.Ad.getD (Eh b (i : Int)).toNat default).A.toNat true else s
def Du (sd : Int -> Bool) (s : List Bool) (z : Af × Nat) : List Bool :=
 if z.1.Kind = 1 /\ sd (z.2 : Int) = true then (s.set z.1.A.toNat (s.getD z.1.A.toNat false || s.getD z.1.B.toNat false)).set z.1.B.toNat (s.getD z.1.A.toNat false || s.getD z.1.B.toNat false) else s
def Co (sd : Int -> Bool) (l : List (Af × Nat)) (s : List Bool) : List Bool := l.foldl (Du sd) s
def Na (b : Aa) (u : Int -> Bool) : List Bool := (List.range b.Ac.length).foldl (lit b u) (List.replicate b.Ao.toNat false)
def E1 (b : Aa) (u sd : Int -> Bool) : List Bool := (List.range b.Ao.toNat).foldl (λ s _ => Co sd b.Ad.zipIdx s) (Na b u)
theorem Nb (b : Aa) (u : Int -> Bool) (s : List Bool) (i : Nat) : (lit b u s i).length = s.length := by unfold lit; split <;> simp
theorem Io (b : Aa) (u : Int -> Bool) : (Na b u).length = b.Ao.toNat := by
 have : ∀ (xs : List Nat) (s : List Bool), (xs.foldl (lit b u) s).length = s.length := by
  intro xs
  induction xs with
  | nil => intro s; rfl
  | cons x xs ih => intro s; rw [be, ih, Nb]
 unfold Na
 rw [this]; simp
theorem Gv (sd : Int -> Bool) (s : List Bool) (z : Af × Nat) : (Du sd s z).length = s.length := by unfold Du; split <;> simp
theorem Jb (sd : Int -> Bool) : ∀ (l : List (Af × Nat)) (s : List Bool), (Co sd l s).length = s.length
 | [], _ => rfl
 | z :: l, s => by show (Co sd l _).length = _; rw [Jb sd l, Gv]
theorem Gw (sd : Int -> Bool) (l : List (Af × Nat)) : ∀ (xs : List Nat) (s : List Bool), (xs.foldl (λ s _ => Co sd l s) s).length = s.length
 | [], _ => rfl
 | _ :: xs, s => by rw [be, Gw sd l xs, Jb]
theorem Pt (b : Aa) (u sd : Int -> Bool) : (E1 b u sd).length = b.Ao.toNat := by
 unfold E1
 rw [Gw, Io]
theorem Ah5 {b : Aa} (h : Aw b) {p : Ab} (hl : p.Ak.length <= 1000) {s : List Bool} (hs : s.length = b.Ao.toNat) :
  Ok (foldI (Wy b p) b.Ad 0 s) (Dc (λ r => r = Co (Bt b p.Ak) b.Ad.zipIdx s) (λ (_ : Unit) => False)) := by
 have hb := h.brl
 refine c5 (I := λ j r => r = Co (Bt b p.Ak) (b.Ad.zipIdx.take j) s) (by simp [Co]) (λ j x r hx hr => ?_) λ r hr => ?_
 ·have hj := (aa.1 hx).1
  have hcnt : cnt 0 j = (j : Int) := C1 (by omega)
  have hrl : r.length = b.Ao.toNat := by rw [hr, Jb, hs]
  have hz : b.Ad.zipIdx[j]? = some (x, j) := by rw [List.getElem?_zipIdx, hx]; simp
  have hnext : Co (Bt b p.Ak) (b.Ad.zipIdx.take (j + 1)) s = Du (Bt b p.Ak) r (x, j) := by
   rw [Bj hz]
   unfold Co at hr ⊢
   rw [aP, ← hr]; rfl
  rw [hnext]
  obtain ⟨⟨a0, a1⟩, hk⟩ := h.br x (ae hx)
  unfold Wy
  rw [hcnt]
  by_cases k1 : x.Kind = 1
  ·rw [db.2 k1]
   have hB : x.A < x.B /\ x.B < b.Ao := by omega
   refine Ok.bind (P := λ y => y = Bt b p.Ak (j : Int)) (c6 (λ _ => by rw [Mw h hl (by omega) (by omega)]; exact Ok.pure rfl) λ hn => (hn ⟨rfl, trivial⟩).elim) λ y hy => ?_
   refine c3 (λ hq => ?_) (λ hq => ?_)
   ·simp only [aO] at hq
    rw [hq] at hy
    obtain ⟨u, hu⟩ : ∃ u, r[x.A.toNat]? = some u := ⟨_, af (by omega)⟩
    obtain ⟨v, hv⟩ : ∃ v, r[x.B.toNat]? = some v := ⟨_, af (by omega)⟩
    have hgu : getI r x.A = some u := by have := Ba hu; rwa [aU a0] at this
    have hgv : getI r x.B = some v := by have := Ba hv; rwa [aU (by omega)] at this
    have hdu : r.getD x.A.toNat false = u := by simp [List.getD, hu]
    have hdv : r.getD x.B.toNat false = v := by simp [List.getD, hv]
    rw [hgu, hgv]
    simp only [ab]
    refine Ok.bind (P := λ w => (u || w) = (u || v)) (c6 (λ _ => Ok.pure rfl) λ hn => ?_) λ w hw => ?_
    ·cases u with
     | true => rfl
     | false => exact (hn ⟨rfl, trivial⟩).elim
    rw [hw]
    refine (c9 a0 (by omega)).bind λ t ht => ?_
    subst ht
    refine (c7 (by omega) (by simp; omega)).bind λ _ _ => (c9 (by omega) (by simp; omega)).bind λ t ht => c4 ?_
    rw [ht]
    unfold Du
    rw [if_pos ⟨k1, hy.symm⟩]
    simp only [hdu, hdv]
   ·simp only [aO] at hq
    refine c4 ?_
    unfold Du
    rw [if_neg (by rw [← hy, hq]; simp)]
  ·rw [de.2 k1]
   refine Ok.bind (P := λ _ => True) (c6 (λ hg => absurd hg.1 (by simp)) λ _ => trivial) λ y _ => ?_
   refine c3 (λ hq => by simp at hq) (λ _ => c4 ?_)
   unfold Du
   rw [if_neg (λ hh => k1 hh.1)]
 ·rw [hr, show b.Ad.length = b.Ad.zipIdx.length from by simp, aH]
theorem Auk {b : Aa} (h : Aw b) {p : Ab} (hp : Ay b p) : F23 b p = some (E1 b (Bm b p) (Bt b p.Ak)) := by
 have hbu := h.buses
 have hso := h.sol
 have hns := hp.nso
 have hbl : p.Ak.length <= 1000 := by have := hp.brk.len; omega
 refine cC ?_
 unfold F23
 rw [B6 h hp]
 simp only [ab]
 refine c3 (λ hc => by simp at hc) (λ _ => ?_)
 refine (Ok.mkI (by omega) (by omega)).bind λ y hy => ?_
 refine Ok.andThen (A := λ s => s.2 = Na b (Bm b p)) (B := λ (_ : Unit) => False) ?_ ?_ (λ _ h => h.elim)
 ·refine c8 (λ s => (0 <= s.1 /\ s.1 <= (b.Ac.length : Int)) /\ s.2 = (List.range s.1.toNat).foldl (lit b (Bm b p)) (List.replicate b.Ao.toNat false)) (λ s => ((b.Ac.length : Int) - s.1).toNat) _ _ ?_ ?_ ?_
  ·exact ⟨by dsimp only; omega, by rw [hy]; rfl⟩
  ·dsimp only; omega
  ·rintro ⟨i, s⟩ ⟨⟨h1, h2⟩, h3⟩
   dsimp only at h1 h2 h3
   have hsl : s.length = b.Ao.toNat := by
    rw [h3]
    have : ∀ (xs : List Nat) (s : List Bool), (xs.foldl (lit b (Bm b p)) s).length = s.length := by
     intro xs
     induction xs with
     | nil => intro s; rfl
     | cons x xs ih => intro s; rw [be, ih, Nb]
    rw [this]; simp
   unfold Adw Atb
   dsimp only
   refine c3 (λ hq => ?_) (λ hq => ?_)
   ·simp only [cZ] at hq
    have e1 : w64 (i + 1) = i + 1 := A7 (by omega)
    have e2 : (i + 1).toNat = i.toNat + 1 := by omega
    have e3 : ((i.toNat : Nat) : Int) = i := by omega
    have hnext : (List.range (i + 1).toNat).foldl (lit b (Bm b p)) (List.replicate b.Ao.toNat false) = lit b (Bm b p) s i.toNat := by
     rw [e2, bo, aP, ← h3]; rfl
    rw [Oi h hns hbl h1 hq]
    simp only [ab, e1]
    refine c3 (λ hu => ?_) (λ hu => ?_)
    ·obtain ⟨j, x, e, hx, _, _, hj⟩ := Hs h h1 hq
     have hjl := (aa.1 hx).1
     obtain ⟨⟨a0, a1⟩, _⟩ := h.br x (ae hx)
     rw [Js h, e]
     simp only [ab]
     rw [Ba hx]
     simp only [ab]
     refine (c7 a0 (by omega)).bind λ _ _ => (c9 a0 (by omega)).bind λ t ht => c4 ⟨⟨by dsimp only; omega, ?_⟩, by dsimp only; omega⟩
     dsimp only
     rw [hnext, ht]
     unfold lit
     have hd : b.Ad.getD j default = x := by simp [List.getD, hx]
     rw [e3, if_pos hu, e, ar, hd]
    ·refine c4 ⟨⟨by dsimp only; omega, ?_⟩, by dsimp only; omega⟩
     dsimp only
     rw [hnext]
     unfold lit
     rw [e3, if_neg (by rw [hu]; simp)]
   ·simp only [da] at hq
    refine cA ?_
    dsimp only
    rw [h3]
    have : i.toNat = b.Ac.length := by omega
    rw [this]; rfl
 ·rintro ⟨i0, s⟩ hs
  dsimp only at hs
  subst hs
  dsimp only
  refine Ok.andThen (A := λ s => s.2 = E1 b (Bm b p) (Bt b p.Ak)) (B := λ (_ : Unit) => False) ?_ (λ s hs => Ok.pure hs) (λ _ h => h.elim)
  refine c8 (λ s => (0 <= s.1 /\ s.1 <= b.Ao) /\ s.2 = (List.range s.1.toNat).foldl (λ s _ => Co (Bt b p.Ak) b.Ad.zipIdx s) (Na b (Bm b p))) (λ s => (b.Ao - s.1).toNat) _ _ ?_ ?_ ?_
  ·exact ⟨by dsimp only; omega, rfl⟩
  ·dsimp only; omega
  ·rintro ⟨i, s⟩ ⟨⟨h1, h2⟩, h3⟩
   dsimp only at h1 h2 h3
   unfold Adv
   dsimp only
   refine c3 (λ hq => ?_) (λ hq => ?_)
   ·simp only [cZ] at hq
    have e1 : w64 (i + 1) = i + 1 := A7 (by omega)
    have e2 : (i + 1).toNat = i.toNat + 1 := by omega
    have hsl : s.length = b.Ao.toNat := by rw [h3, Gw, Io]
    refine (Ah5 h hbl hsl).inner (λ r hr => ?_) (λ _ h => h.elim)
    rw [e1]
    refine c4 ⟨⟨by dsimp only; omega, ?_⟩, by dsimp only; omega⟩
    dsimp only
    rw [hr, e2, bo, aP, ← h3]; rfl
   ·simp only [da] at hq
    refine cA ?_
    dsimp only
    rw [h3]
    have : i.toNat = b.Ao.toNat := by omega
    rw [this]; rfl
def ks (x : Al) : Int := x.Kind * 1000 + x.Number
def B3 (x : Al) : Prop := (1 <= x.Kind /\ x.Kind <= 4) /\ 0 <= x.Number /\ x.Number <= 100
theorem Bv.small {b : Aa} (h : Aw b) {x : Al} (hx : Bv b x) : B3 x := by
 have h1 := h.buses
 have h2 := h.brl
 have h3 := h.sol
 have h4 := h.col
 unfold Bv at hx
 unfold B3
 omega
theorem uD {x y : Al} (hx : B3 x) (hy : B3 y) : Ml x y ↔ ks x < ks y := by
 unfold Ml ks
 unfold B3 at hx hy
 omega
theorem Asu {x y : Al} (hx : B3 x) (hy : B3 y) (h : ks x = ks y) : x = y := by
 unfold ks at h
 unfold B3 at hx hy
 cases x; cases y
 simp only [Al.mk.injEq]
 dsimp only at *
 omega
theorem jP {x y : Al} (hx : B3 x) (hy : B3 y) : (decide (N9 x y < 0) = decide (ks x < ks y)) /\ ((N9 x y == 0) = (ks x == ks y)) := by
 unfold B3 at hx hy
 unfold N9 ks
 by_cases hk : x.Kind = y.Kind
 ·have : (x.Kind != y.Kind) = false := by simp [hk]
  rw [this, cond_false, A7 (by omega)]
  constructor
  ·exact decide_eq_decide.2 (by omega)
  ·rw [bj, db, db]; omega
 ·have : (x.Kind != y.Kind) = true := by simp [hk]
  rw [this, cond_true, A7 (by omega)]
  constructor
  ·exact decide_eq_decide.2 (by omega)
  ·rw [bj, db, db]; omega
def Fi (l : List Al) : Prop := ∀ (j k : Nat) x y, j < k -> l[j]? = some x -> l[k]? = some y -> ks x < ks y
theorem Fz {b : Aa} (h : Aw b) {l : List Al} (hl : De b l) : Fi l := by
 have hs : ∀ x, x ∈ l -> B3 x := λ x hx => (hl.mem x hx).small h
 intro j k
 induction k with
 | zero => intro x y hj; omega
 | succ k ih =>
  intro x y hj hx hy
  have hk := (aa.1 hy).1
  obtain ⟨z, hz⟩ : ∃ z, l[k]? = some z := ⟨_, af (by omega)⟩
  have h1 := (uD (hs z (ae hz)) (hs y (ae hy))).1 (hl.asc k z y hz hy)
  by_cases e : j = k
  ·subst e
   rw [hx] at hz; cases hz; exact h1
  ·have := ih x z (by omega) hx hz
   omega
theorem Auj {n : Int} (h0 : 0 <= n) (h1 : n <= 1000000) : w64 (F0 .u64 (IntKind.wrap .u64 (w64 n)) 1) = n / 2 := by
 have e1 : w64 n = n := A7 (by omega)
 have e2 : IntKind.wrap .u64 n = n := by
  simp [IntKind.wrap, IntKind.signed, IntKind.bits]
  omega
 have e3 : F0 .u64 n 1 = n / 2 := by
  unfold F0
  have : (2 : Int) ^ min 1 (IntKind.u64).bits = 2 := by decide
  rw [this]
  exact Int.fdiv_eq_ediv_of_nonneg _ (by omega)
 rw [e1, e2, e3, A7 (by omega)]
structure At (l : List Al) (x : Al) (n : Nat) : Prop where
 le : n <= l.length
 lo : ∀ (j : Nat) y, j < n -> l[j]? = some y -> ks y < ks x
 hi : ∀ (j : Nat) y, n <= j -> l[j]? = some y -> ks x <= ks y
theorem K0 {l : List Al} (hs : Fi l) (hsm : ∀ x, x ∈ l -> B3 x) {x : Al} (hx : B3 x) (hl : l.length <= 1000) :
  Ok (Qi l x) λ y => ∃ n : Nat, y.1 = (n : Int) /\ At l x n /\ (y.2 = true ↔ l[n]? = some x) := by
 unfold Qi
 refine Ok.andThen (A := λ s => ∃ n : Nat, s.1 = (n : Int) /\ At l x n) (B := λ (_ : Unit) => False) ?_ ?_ (λ _ h => h.elim)
 ·refine c8 (λ s => (0 <= s.1 /\ s.1 <= s.2 /\ s.2 <= (l.length : Int)) /\ (∀ (j : Nat) y, (j : Int) < s.1 -> l[j]? = some y -> ks y < ks x) /\ ∀ (j : Nat) y, s.2 <= (j : Int) -> l[j]? = some y -> ks x <= ks y) (λ s => (s.2 - s.1).toNat) _ _ ?_ ?_ ?_
  ·refine ⟨by dsimp only; omega, λ j y hj => by dsimp only at hj; omega, λ j y hj hy => ?_⟩
   have := (aa.1 hy).1
   dsimp only at hj; omega
  ·dsimp only; omega
  ·rintro ⟨i, j⟩ ⟨⟨h1, h2, h3⟩, h4, h5⟩
   dsimp only at h1 h2 h3 h4 h5
   unfold Qh
   dsimp only
   refine c3 (λ hq => ?_) (λ hq => ?_)
   ·simp only [cZ] at hq
    rw [Auj (by omega) (by omega)]
    refine (c7 (by omega) (by omega)).bind λ y hy => ?_
    have hym := hsm y (ae hy)
    rw [(jP hym hx).1]
    refine c3 (λ hc => ?_) (λ hc => ?_)
    ·simp only [cZ] at hc
     rw [A7 (by omega)]
     refine c4 ⟨⟨by dsimp only; omega, λ k z hk hz => ?_, h5⟩, by dsimp only; omega⟩
     dsimp only at hk
     by_cases e : k = ((i + j) / 2).toNat
     ·subst e; rw [hy] at hz; cases hz; exact hc
     ·have := hs k _ z y (by omega) hz hy
      omega
    ·simp only [da] at hc
     refine c4 ⟨⟨by dsimp only; omega, h4, λ k z hk hz => ?_⟩, by dsimp only; omega⟩
     dsimp only at hk
     by_cases e : k = ((i + j) / 2).toNat
     ·subst e; rw [hy] at hz; cases hz; omega
     ·have := hs _ k y z (by omega) hy hz
      omega
   ·simp only [da] at hq
    refine cA ⟨i.toNat, by dsimp only; omega, by omega, λ k y hk hy => h4 k y (by omega) hy, λ k y hk hy => h5 k y (by omega) hy⟩
 ·rintro ⟨i, j⟩ ⟨n, hn, hat⟩
  dsimp only at hn
  subst hn
  dsimp only
  by_cases hlt : n < l.length
  ·obtain ⟨y, hy⟩ : ∃ y, l[n]? = some y := ⟨_, af hlt⟩
   have hd : decide ((n : Int) < (l.length : Int)) = true := by simp; omega
   rw [hd, Ba hy]
   refine Ok.bind (P := λ z => z = y) (c6 (λ _ => Ok.pure rfl) λ hn => (hn ⟨rfl, trivial⟩).elim) λ z hz => Ok.pure ⟨n, rfl, hat, ?_⟩
   subst hz
   have hym := hsm z (ae hy)
   show (true && (N9 z x == 0)) = true ↔ _
   rw [aO, (jP hym hx).2, db, hy]
   constructor
   ·intro e; rw [Asu hym hx e]
   ·intro e; cases e; rfl
  ·have hd : decide ((n : Int) < (l.length : Int)) = false := by simp; omega
   rw [hd]
   refine Ok.bind (P := λ _ => True) (c6 (λ hg => absurd hg.1 (by simp)) λ _ => trivial) λ z _ => Ok.pure ⟨n, rfl, hat, ?_⟩
   rw [bN (by omega)]
   simp
theorem At.uniq {l : List Al} {x : Al} {n m : Nat} (h : At l x n) (k : At l x m) : n = m := by
 rcases bx n m with e | e | e
 ·obtain ⟨y, hy⟩ : ∃ y, l[n]? = some y := ⟨_, af (by have := k.le; omega)⟩
  have := h.hi n y (aq _) hy
  have := k.lo n y e hy
  omega
 ·exact e
 ·obtain ⟨y, hy⟩ : ∃ y, l[m]? = some y := ⟨_, af (by have := h.le; omega)⟩
  have := k.hi m y (aq _) hy
  have := h.lo m y e hy
  omega
def Dd (l : List Al) (n : Nat) (x : Al) : List Al := l.take n ++ (x :: l.drop n)
theorem Am0 {l : List Al} {n : Nat} (hn : n <= l.length) (hl : l.length <= 1000) (x : Al) : Mo l (n : Int) [x] = some (Dd l n x) := by
 refine cC ?_
 unfold Mo
 refine (Ok.bndI (by omega) (by omega) (by omega)).bind λ _ _ => ?_
 refine c3 (λ hc => by simp at hc) (λ _ => c3 (λ hc => ?_) (λ _ => ?_))
 ·simp only [db] at hc
  have e : n = l.length := by omega
  refine (cw (by simp; omega)).bind λ y hy => Ok.pure ?_
  rw [hy, Dd, e]; simp
 ·refine (Ok.insI (by simp; omega)).mono λ y hy => ?_
  rw [hy, ar]; rfl
theorem Ann {l : List Al} {n : Nat} (hn : n <= l.length) (x : Al) : Qg (Dd l n x) (n : Int) ((n : Int) + 1) = some l := by
 have hlen : (Dd l n x).length = l.length + 1 := by simp [Dd]; omega
 refine cC ?_
 unfold Qg
 have e1 : ((n : Int) + 1).toNat = n + 1 := by omega
 have hdrop : (Dd l n x).drop (n + 1) = l.drop n := by
  unfold Dd
  rw [List.drop_append, List.drop_of_length_le (by simp; omega)]
  have : n + 1 - (l.take n).length = 1 := by simp; omega
  rw [this]; simp
 have htake : (Dd l n x).take n = l.take n := by
  unfold Dd
  rw [ch (by simp; omega), List.take_take, Nat.min_self]
 refine (Ok.bnd3I (by omega) (by omega) (by omega) (by omega)).bind λ _ _ => c3 (λ hc => ?_) (λ _ => ?_)
 ·simp only [db] at hc; omega
 refine (Ok.bndI (by omega) (by omega) (by omega)).bind λ _ _ => (Ok.bndI (by omega) (by omega) (by omega)).bind λ _ _ => ?_
 simp only [ar, e1, hdrop, Nat.sub_zero]
 have hpl : ((l.drop n).take ((Dd l n x).length - (n + 1))).length = l.length - n := by simp [hlen]
 have hpe : (l.drop n).take ((Dd l n x).length - (n + 1)) = l.drop n := bK (by simp [hlen])
 rw [hpe]
 have hdl : (l.drop n).length = l.length - n := by simp
 refine (Ok.appPI (by rw [hlen, hdl]; omega)).bind λ y hy => ?_
 have hyl : y.length = l.length + 1 := by rw [hy]; simp [hlen]; omega
 refine (Ok.bndI (by omega) (by rw [hlen, hdl]; omega) (by rw [hlen, hyl]; omega)).bind λ _ _ => Ok.pure ?_
 have e2 : n + (l.drop n).length = l.length := by rw [hdl]; omega
 rw [e2]
 unfold Jf
 simp only [aJ]
 rw [ch (by simp; omega), List.take_take, Nat.min_self, hy, htake, ← bc, ch (by simp), bU, aH]
theorem Nf {l : List Al} {n : Nat} (hn : n <= l.length) {x : Al} {j : Nat} {y : Al} (h : (Dd l n x)[j]? = some y) : (j < n /\ l[j]? = some y) \/ (j = n /\ y = x) \/ (n < j /\ l[j - 1]? = some y) := by
 unfold Dd at h
 have ht : (l.take n).length = n := by simp; omega
 rw [bH] at h
 split at h
 ·rename_i h1
  rw [ht] at h1
  rw [am, if_pos h1] at h
  exact .inl ⟨h1, h⟩
 ·rename_i h1
  rw [ht] at h1 h
  by_cases e : j = n
  ·subst e
   simp at h
   exact .inr (.inl ⟨rfl, h.symm⟩)
  ·obtain ⟨k, hk⟩ : ∃ k, j - n = k + 1 := ⟨j - n - 1, by omega⟩
   rw [hk, ci, an] at h
   refine .inr (.inr ⟨by omega, ?_⟩)
   rw [← h]; congr 1; omega
theorem Arg {l : List Al} {n : Nat} {x y : Al} (h : y ∈ Dd l n x) : y = x \/ y ∈ l := by
 unfold Dd at h
 rcases ax.1 h with h | h
 ·exact .inr (bf h)
 ·rcases ag.1 h with h | h
  ·exact .inl h
  ·exact .inr (bW h)
theorem Afx {b : Aa} (h : Aw b) {l : List Al} (hl : De b l) {x : Al} (hx : Bv b x) {n : Nat} (hat : At l x n) (hnot : l[n]? ≠ some x) (hlen : l.length < 32) : De b (Dd l n x) := by
 have hs := Fz h hl
 have hsm : ∀ y, y ∈ l -> B3 y := λ y hy => (hl.mem y hy).small h
 have hxs := hx.small h
 refine ⟨by simp [Dd]; omega, λ y hy => ?_, λ j y z hy hz => ?_⟩
 ·rcases Arg hy with rfl | hy
  ·exact hx
  ·exact hl.mem y hy
 ·rcases Nf hat.le hy with ⟨a1, a2⟩ | ⟨a1, a2⟩ | ⟨a1, a2⟩ <;> rcases Nf hat.le hz with ⟨b1, b2⟩ | ⟨b1, b2⟩ | ⟨b1, b2⟩
  ·exact hl.asc j y z a2 b2
  ·subst b2
   exact (uD (hsm y (ae a2)) hxs).2 (hat.lo j y a1 a2)
  ·omega
  ·omega
  ·omega
  ·subst a2
   have e : j + 1 - 1 = n := by omega
   rw [e] at b2
   have hzm := hsm z (ae b2)
   refine (uD hxs hzm).2 ?_
   have h1 := hat.hi n z (aq _) b2
   rcases Int.lt_or_eq_of_le h1 with h1 | h1
   ·exact h1
   ·exact absurd (by rw [b2, Asu hxs hzm h1]) hnot
  ·omega
  ·omega
  ·have e : j + 1 - 1 = j - 1 + 1 := by omega
   rw [e] at b2
   exact hl.asc (j - 1) y z a2 b2
theorem At.ins {l : List Al} {x : Al} {n : Nat} (hat : At l x n) : At (Dd l n x) x n := by
 refine ⟨by have := hat.le; simp [Dd]; omega, λ j y hj hy => ?_, λ j y hj hy => ?_⟩
 ·rcases Nf hat.le hy with ⟨_, a2⟩ | ⟨a1, _⟩ | ⟨a1, _⟩
  ·exact hat.lo j y hj a2
  ·omega
  ·omega
 ·rcases Nf hat.le hy with ⟨a1, _⟩ | ⟨_, a2⟩ | ⟨a1, a2⟩
  ·omega
  ·subst a2; exact Int.le_refl _
  ·exact hat.hi (j - 1) y (by omega) a2
theorem Aug {l : List Al} {n : Nat} (hn : n <= l.length) (x : Al) : (Dd l n x)[n]? = some x := by
 unfold Dd
 rw [aA (by simp; omega)]
 have : n - (l.take n).length = 0 := by simp; omega
 rw [this]; rfl
def Is (ss : List Ae) (x : Al) (st : Int) : List Ae := if x.Kind = 1 then ss.set x.Number.toNat ⟨st, (ss.getD x.Number.toNat default).Since, (ss.getD x.Number.toNat default).Ar, (ss.getD x.Number.toNat default).Phase⟩ else ss
theorem Py (ss : List Ae) (x : Al) (st : Int) : (Is ss x st).length = ss.length := by unfold Is; split <;> simp
theorem Aa4 {ss : List Ae} (h : ∀ x, x ∈ ss -> Cn x) {x : Al} (hx : x.Kind = 1 -> 0 <= x.Number /\ x.Number < ss.length) {st : Int} (hst : 0 <= st /\ st <= 3) : ∀ y, y ∈ Is ss x st -> Cn y := by
 unfold Is
 split
 ·rename_i hk
  have hn := hx hk
  obtain ⟨u, hu⟩ : ∃ u, ss[x.Number.toNat]? = some u := ⟨_, af (by omega)⟩
  have hd : ss.getD x.Number.toNat default = u := by simp [List.getD, hu]
  intro y hy
  rcases bX hy with hy | hy
  ·exact h y hy
  ·subst hy
   rw [hd]
   have := h u (ae hu)
   exact ⟨hst, this.2⟩
 ·exact h
theorem Aun {b : Aa} (h : Aw b) {p : Ab} (hp : Ay b p) {x : Al} (hx : Bv b x) (t : Int) {n : Nat} (hat : At p.Ak x n) (hnot : p.Ak[n]? ≠ some x) (hlen : p.Ak.length < 32) :
  Gh ⟨b, p, t⟩ x true = some (0, ⟨b, ⟨p.Ah, Is p.Ac x 3, p.As, Dd p.Ak n x⟩, t⟩) := by
 have hs := Fz h hp.brk
 have hsm : ∀ y, y ∈ p.Ak -> B3 y := λ y hy => (hp.brk.mem y hy).small h
 refine cC ?_
 unfold Gh
 refine (K0 hs hsm (hx.small h) (by omega)).bind λ y hy => ?_
 obtain ⟨m, e1, hat2, hf⟩ := hy
 have e2 := hat.uniq hat2
 subst e2
 have hf2 : y.2 = false := by
  cases hb : y.2 with
  | false => rfl
  | true => exact absurd (hf.1 hb) hnot
 refine c3 (λ hc => by rw [hf2] at hc; simp at hc) (λ _ => c3 (λ hc => ?_) (λ _ => ?_))
 ·simp [Nt] at hc; omega
 refine Ok.andThen (A := λ z => z = Dd p.Ak n x) (B := λ (_ : Unit) => False) ?_ ?_ (λ _ h => h.elim)
 ·unfold Lg
  rw [e1, Am0 hat.le (by omega)]
  exact cF rfl
 ·rintro z rfl
  unfold Is
  refine c3 (λ hk => ?_) (λ hk => ?_)
  ·simp only [db] at hk
   have hn : 0 <= x.Number /\ x.Number < p.Ac.length := by
    have := hp.nso
    unfold Bv at hx
    omega
   rw [if_pos hk]
   refine (c7 hn.1 hn.2).bind λ u hu => (c9 hn.1 hn.2).bind λ v hv => ?_
   have hd : p.Ac.getD x.Number.toNat default = u := by simp [List.getD, hu]
   have hvg : v[x.Number.toNat]? = some (⟨0, u.Since, u.Ar, u.Phase⟩ : Ae) := by rw [hv, bE (by omega)]
   simp only [cond_true]
   refine Ok.bind (P := λ w => w = (⟨0, u.Since, u.Ar, u.Phase⟩ : Ae)) ((c7 hn.1 (by rw [hv]; simpa using hn.2)).mono λ w hw => by rw [hvg] at hw; cases hw; rfl) λ w hw => ?_
   subst hw
   refine (c9 hn.1 (by rw [hv]; simpa using hn.2)).bind λ z hz => Ok.pure ?_
   rw [hz, hv, List.set_set, hd]
  ·simp only [de, ne_eq] at hk
   rw [if_neg hk]
   exact Ok.pure rfl
theorem At9 {b : Aa} (h : Aw b) {p : Ab} (hbl : De b p.Ak) {q : Ab} {x : Al} (hx : Bv b x) (t : Int) {n : Nat} (hat : At p.Ak x n) (hnot : p.Ak[n]? ≠ some x) (hlen : p.Ak.length < 32)
  (hq : q.Ak = Dd p.Ak n x) (hqs : q.Ac.length = b.Ac.length) : Gh ⟨b, q, t⟩ x false = some (0, ⟨b, ⟨q.Ah, Is q.Ac x 0, q.As, p.Ak⟩, t⟩) := by
 have hbl2 : De b q.Ak := by rw [hq]; exact Afx h hbl hx hat hnot hlen
 have hs := Fz h hbl2
 have hsm : ∀ y, y ∈ q.Ak -> B3 y := λ y hy => (hbl2.mem y hy).small h
 refine cC ?_
 unfold Gh
 refine (K0 hs hsm (hx.small h) (by have := hbl2.len; omega)).bind λ y hy => ?_
 obtain ⟨m, e1, hat2, hf⟩ := hy
 rw [hq] at hat2 hf
 have e2 := hat.ins.uniq hat2
 subst e2
 have hf2 : y.2 = true := hf.2 (Aug hat.le x)
 refine c3 (λ hc => by rw [hf2] at hc; simp at hc) (λ _ => c3 (λ hc => ?_) (λ _ => ?_))
 ·simp [Nt] at hc
 refine Ok.andThen (A := λ z => z = p.Ak) (B := λ (_ : Unit) => False) ?_ ?_ (λ _ h => h.elim)
 ·unfold Lg
  have hle := hat.le
  rw [e1, A7 (by omega)]
  simp only [cond_false, hq]
  rw [Ann hat.le]
  exact cF rfl
 ·rintro z rfl
  unfold Is
  refine c3 (λ hk => ?_) (λ hk => ?_)
  ·simp only [db] at hk
   have hn : 0 <= x.Number /\ x.Number < q.Ac.length := by
    unfold Bv at hx
    omega
   rw [if_pos hk]
   refine (c7 hn.1 hn.2).bind λ u hu => (c9 hn.1 hn.2).bind λ v hv => ?_
   have hd : q.Ac.getD x.Number.toNat default = u := by simp [List.getD, hu]
   simp only [cond_false]
   exact Ok.pure (by rw [hv, hd])
  ·simp only [de, ne_eq] at hk
   rw [if_neg hk]
   exact Ok.pure rfl
def Aul (p : Ab) (x : Al) (n : Nat) : Ab := ⟨p.Ah, Is p.Ac x 3, p.As, Dd p.Ak n x⟩
theorem Ah9 {b : Aa} (h : Aw b) {p : Ab} (hp : Ay b p) {x : Al} (hx : Bv b x) {n : Nat} (hat : At p.Ak x n) (hnot : p.Ak[n]? ≠ some x) (hlen : p.Ak.length < 32) : Ay b (Aul p x n) where
 ncl := hp.ncl
 nso := by show (Is p.Ac x 3).length = _; rw [Py]; exact hp.nso
 nli := hp.nli
 run := Aa4 hp.run (λ hk => by have := hp.nso; unfold Bv at hx; omega) (by omega)
 lim := hp.lim
 one := hp.one
 brk := Afx h hp.brk hx hat hnot hlen
theorem Kc (b : Aa) (k n : Int) : Ih b k n = true ↔ Bv b ⟨k, n⟩ := by
 unfold Ih Bv
 dsimp only
 by_cases h1 : k = 1
 ·subst h1; simp
 rw [de.2 h1, cond_false]
 by_cases h2 : k = 2
 ·subst h2; simp
 rw [de.2 h2, cond_false]
 by_cases h3 : k = 3
 ·subst h3; simp
 rw [de.2 h3, cond_false]
 by_cases h4 : k = 4
 ·subst h4; simp
 rw [de.2 h4, cond_false]
 simp only [ac, cZ]
 omega
theorem Azf {b : Aa} (h : Aw b) {l : List Al} (hl : De b l) {x : Al} (hx : Bv b x) : ∃ n, At l x n := by
 have hs := Fz h hl
 obtain ⟨y, _, n, _, hat, _⟩ := K0 hs (λ y hy => (hl.mem y hy).small h) (hx.small h) (by have := hl.len; omega)
 exact ⟨n, hat⟩
theorem Ye {b : Aa} (h : Aw b) {p : Ab} (hp : Ay b p) : T9 p = some p := by
 have hl := hp.lens h
 have h1 := hl.c
 have h2 := hl.s
 have h3 := hl.l
 have h4 := hl.k
 unfold T9
 rw [P8 (by omega), P8 (by omega), P8 (by omega), P8 (by omega)]
 rfl
theorem Aky : F9 = some true := by kernel_rfl
theorem cE {α : Type} {l : List (Bool × Bool)} {x : Option α} {d : α} {P : α -> Prop} (hx : Cy l -> Ok x λ _ => True) (hr : ∀ y, P y) : Ok (Ax l x d) P :=
 c6 (λ h => (hx h).mono λ y _ => hr y) λ _ => hr d
theorem cL {α : Type} {x : Option α} {v : α} (h : x = some v) : Ok x λ _ => True := ⟨v, h, trivial⟩
theorem Aty {x Cr : Ae} (hx : Cn x) (hl : Cn Cr) : Cn (Aqj Cr x) := ⟨hx.1, hx.2.1, hl.2.2.1, hl.2.2.2⟩
theorem Jw {ss : List Ae} (h : ∀ x, x ∈ ss -> Cn x) {n : Nat} {y : Ae} (hy : Cn y) : ∀ x, x ∈ ss.set n y -> Cn x := λ x hx => by
 rcases bX hx with hx | hx
 ·exact h x hx
 ·exact hx ▸ hy
theorem Aax {ss : List Ae} (h : ∀ x, x ∈ ss -> Cn x) {n : Nat} (hn : n < ss.length) : Cn (ss.getD n default) := by
 have : ss.getD n default = ss[n] := by simp [List.getD, List.getElem?_eq_getElem hn]
 rw [this]; exact h _ (List.getElem_mem hn)
theorem Mz {Cr : Ae} (hl : Cn Cr) : ∀ (idx : List Int) (ss : List Ae), (∀ i, i ∈ idx -> 0 <= i /\ i < ss.length) -> (∀ x, x ∈ ss -> Cn x) -> ∀ x, x ∈ F1 Cr idx ss -> Cn x
 | [], _, _, h => h
 | i :: idx, ss, hi, h => by
  have h0 := hi i ak
  refine Mz hl idx _ (λ j hj => ?_) (Jw h (Aty (Aax h (by omega)) hl))
  have := hi j (ai _ hj)
  simpa using this
theorem Aay {b : Aa} {p : Ab} (hp : Ay b p) : ∀ (l : List Aj) (s : List Ae), (∀ x, x ∈ l -> ∀ i, i ∈ x.Ac -> 0 <= i /\ i < b.Ac.length) -> s.length = p.Ac.length -> (∀ x, x ∈ s -> Cn x) -> ∀ x, x ∈ l.foldl (Dl p) s -> Cn x
 | [], _, _, _, h => h
 | y :: l, s, hi, hs, h => by
  refine Aay hp l _ (λ x hx => hi x (ai _ hx)) (by rw [Pu, hs]) ?_
  have h0 := hi y ak
  have hn := hp.nso
  unfold Dl
  split
  ·exact h
  ·rename_i i r e
   rw [e] at h0
   have h1 := h0 i ak
   rw [e]
   exact Mz (Aax hp.run (by omega)) _ _ (λ j hj => by have := h0 j hj; omega) h
theorem Vq {b : Aa} {p : Ab} (hp : Ay b p) : ∀ x, x ∈ E9 b p -> Cn x :=
 Aay hp _ _ (λ _ hx => Q9 hx) rfl hp.run
theorem Ij {b : Aa} {p : Ab} (hp : Ay b p) {ss : List Ae} (hl : ss.length = p.Ac.length) (hr : ∀ x, x ∈ ss -> Cn x) : Ay b ⟨p.Ah, ss, p.As, p.Ak⟩ where
 ncl := hp.ncl
 nso := hl.trans hp.nso
 nli := hp.nli
 run := hr
 lim := hp.lim
 one := hp.one
 brk := hp.brk
theorem Ahg {b : Aa} {p : Ab} (hp : Ay b p) (j : Nat) : Ay b ⟨p.Ah.set j false, p.Ac, p.As, p.Ak⟩ where
 ncl := by simpa using hp.ncl
 nso := hp.nso
 nli := hp.nli
 run := hp.run
 lim := hp.lim
 one i hi := by
  refine ay (Aa2 (by simp) (λ k hk => ?_) i) (hp.one i hi)
  rw [al] at hk
  split at hk
  ·split at hk <;> cases hk
  ·exact hk
 brk := hp.brk
theorem Am5 {l : List Af} : ∀ {c : List Bool} {j : Nat} {x : Af}, l[j]? = some x -> ∀ i : Nat, (Bz l (c.set j true) i).length <= (Bz l c i).length + (if x.Kind = 3 /\ x.B = (i : Int) then 1 else 0) := by
 induction l with
 | nil => intro c j x h; simp at h
 | cons y l ih =>
  intro c j x h i
  cases c with
  | nil => simp [Bz]
  | cons v c =>
   cases j with
   | zero =>
    simp only [List.getElem?_cons_zero, aj] at h
    subst h
    simp only [List.set_cons_zero, Bz, bn, ba]
    by_cases hk : y.Kind = 3 /\ y.B = (i : Int)
    ·rw [if_pos hk]
     simp only [hk.1, hk.2, beq_self_eq_true, aO, bp, if_true]
     split <;> simp
    ·rw [if_neg hk]
     have : (y.Kind == 3 && y.B == (i : Int)) = false := by
      rw [cj]; intro e
      simp only [ac, db] at e
      exact hk e
     simp [this]
   | succ j =>
    simp only [ci] at h
    have := ih (c := c) h i
    simp only [List.set_cons_succ, Bz, bn, ba] at this ⊢
    split <;> simp at this ⊢ <;> omega
theorem Am6 {b : Aa} {p : Ab} {i : Nat} (h : Dr b p 3 (i : Int) = none) : Bz b.Ad p.Ah i = [] := by
 unfold Dr at h
 rw [Option.map_eq_none_iff, List.find?_eq_none] at h
 unfold Bz
 rw [List.filter_eq_nil_iff]
 exact h
theorem Ant {b : Aa} {p : Ab} (hp : Ay b p) {j : Nat} {x : Af} (hx : b.Ad[j]? = some x) (hf : x.Kind = 3 -> Dr b p 3 x.B = none) : Ay b ⟨p.Ah.set j true, p.Ac, p.As, p.Ak⟩ where
 ncl := by simpa using hp.ncl
 nso := hp.nso
 nli := hp.nli
 run := hp.run
 lim := hp.lim
 one i hi := by
  have h1 := Am5 (c := p.Ah) hx i
  have h2 := hp.one i hi
  dsimp only
  split at h1
  ·rename_i hk
   have h3 := hf hk.1
   rw [hk.2] at h3
   rw [Am6 h3] at h1
   simpa using h1
  ·omega
 brk := hp.brk
theorem At5 {b : Aa} (h : Aw b) {p : Ab} (hp : Ay b p) (i : Int) : Ok (Ua b p i) λ y => y.2 ≠ 0 \/ Ay b y.1 := by
 have hbl : p.Ak.length <= 1000 := by have := hp.brk.len; omega
 have hn := hp.ncl
 unfold Ua
 rw [B6 h hp, Ea h hp]
 simp only [ab]
 refine c3 (λ hc => by simp at hc) (λ _ => c3 (λ _ => Ok.pure (.inl (by simp))) (λ hr => ?_))
 simp only [An1, aQ, da] at hr
 refine (c7 (by omega) (by omega)).bind λ v _ => Ok.bind (P := λ _ => True) (cE (λ _ => cL (D6 hbl _ _)) λ _ => trivial) λ _ _ => ?_
 refine c3 (λ _ => Ok.pure (.inl (by simp))) (λ _ => ?_)
 exact (c7 (by omega) (by omega)).bind λ _ _ => (c9 (by omega) (by omega)).bind λ z hz => Ok.pure (.inr (by rw [hz]; exact Ahg hp _))
theorem Ahh {b : Aa} (h : Aw b) {p : Ab} (hp : Ay b p) (n : Int) : Ok (Hv b p n) λ y => ∀ i, i ∈ y.1.Ac -> 0 <= i /\ i < p.Ac.length := by
 have hn := hp.nso
 unfold Hv
 rw [Jo h hp]
 simp only [ab]
 refine Ok.andThen (A := λ _ => True) (B := λ y => ∀ i, i ∈ y.1.Ac -> 0 <= i /\ i < p.Ac.length) ?_ (λ _ _ => Ok.pure (λ i hi => by cases hi)) (λ v hv => Ok.pure hv)
 refine c5 (I := λ _ _ => True) trivial (λ j x s hx _ => ?_) λ s _ => trivial
 have hmem := ae hx
 have hbl : x.Ao.length <= 9223372036854775807 := by
  unfold Cb at hmem
  obtain ⟨f, _, rfl⟩ := ao.1 (aw.1 hmem).1
  have := C6 (λ i => (groups b p).getD i 0 == (f : Int)) b.Ao.toNat
  have := h.buses
  simp only [isl, Dm]
  omega
 unfold J4
 rw [Cf _ _ hbl]
 simp only [ab]
 refine c3 (λ _ => Ok.ret λ i hi => ?_) (λ _ => c4 trivial)
 have := Q9 hmem i hi
 omega
theorem Awd {b : Aa} (h : Aw b) {p : Ab} (hp : Ay b p) (n : Int) : Ok (Hv b p n) λ y => y.1.Ao.length <= 9223372036854775807 := by
 unfold Hv
 rw [Jo h hp]
 simp only [ab]
 refine Ok.andThen (A := λ _ => True) (B := λ y => y.1.Ao.length <= 9223372036854775807) ?_ (λ _ _ => Ok.pure (by simp)) (λ v hv => Ok.pure hv)
 refine c5 (I := λ _ _ => True) trivial (λ j x s hx _ => ?_) λ s _ => trivial
 have hmem := ae hx
 have hbl : x.Ao.length <= 9223372036854775807 := by
  unfold Cb at hmem
  obtain ⟨f, _, rfl⟩ := ao.1 (aw.1 hmem).1
  have := C6 (λ i => (groups b p).getD i 0 == (f : Int)) b.Ao.toNat
  have := h.buses
  simp only [isl, Dm]
  omega
 unfold J4
 rw [Cf _ _ hbl]
 simp only [ab]
 exact c3 (λ _ => Ok.ret hbl) (λ _ => c4 trivial)
theorem K_ {b : Aa} (h : Aw b) {p : Ab} (hp : Ay b p) (n : Int) : Ok (T6 b p n) λ y => y.2 = true -> 0 <= y.1 /\ y.1 < p.Ac.length := by
 unfold T6
 refine (Ahh h hp n).bind λ y hy => ?_
 refine c3 (λ _ => Ok.pure (λ e => by cases e)) (λ hc => ?_)
 simp only [de, ne_eq] at hc
 exact (c7 (by omega) (by omega)).bind λ z hz => Ok.pure λ _ => hy z (ae hz)
theorem cD {α : Type} {l : List α} {i : Int} (h0 : 0 <= i) (h1 : i < l.length) : Ok (getI l i) λ _ => True := (c7 h0 h1).mono λ _ _ => trivial
theorem Ae9 {b : Aa} (h : Aw b) {p : Ab} (hp : Ay b p) {j : Nat} {x : Af} (hx : b.Ad[j]? = some x) : Ok (Ad1 b p x) λ _ => True := by
 have hn := hp.nso
 have hb := h.br x (ae hx)
 unfold Fu at hb
 unfold Ad1
 refine (K_ h hp _).bind λ y hy => ?_
 refine c3 (λ _ => Ok.pure trivial) (λ h2 => ?_)
 simp only [bY] at h2
 have hy := hy h2
 refine c3 (λ _ => ?_) (λ _ => c3 (λ hk => ?_) (λ _ => Ok.pure trivial))
 ·refine (K_ h hp _).bind λ z hz => ?_
  refine Ok.bind (P := λ _ => True) (cE (λ _ => cD hy.1 hy.2) λ _ => trivial) λ _ _ => ?_
  refine Ok.bind (P := λ _ => True) (cE (λ hg => ?_) λ _ => trivial) λ _ _ => Ok.pure trivial
  have := hz (by have := hg.1; simpa using this)
  exact cD this.1 this.2
 ·simp only [db] at hk
  exact (cD hy.1 hy.2).bind λ _ _ => (cD (by omega) (by omega)).bind λ _ _ => Ok.pure trivial
theorem jC {o : Option Int} : (Ew o).2 = false -> o = none := by
 cases o with
 | none => intro _; rfl
 | some a => intro e; cases e
theorem Aqm {b : Aa} (h : Aw b) {p : Ab} (hp : Ay b p) {j : Int} (h0 : 0 <= j) (h1 : j < b.Ad.length) : Ok (T3 b p j) λ y => y = true -> ∀ x, b.Ad[j.toNat]? = some x -> x.Kind = 3 -> Dr b p 3 x.B = none := by
 have hbl : p.Ak.length <= 1000 := by have := hp.brk.len; omega
 have hn := hp.nso
 have hc := hp.ncl
 unfold T3
 refine (c7 h0 h1).bind λ x hx => (cD h0 (by omega)).bind λ _ _ => ?_
 have hb := h.br x (ae hx)
 unfold Fu at hb
 refine Ok.bind (P := λ _ => True) (cE (λ _ => cL (D6 hbl _ _)) λ _ => trivial) λ _ _ => ?_
 refine Ok.bind (P := λ _ => True) (cE (λ _ => cL (D6 hbl _ _)) λ _ => trivial) λ _ _ => ?_
 refine c3 (λ _ => Ok.pure (λ e => by cases e)) (λ _ => ?_)
 refine c3 (λ hk => ?_) (λ hk1 => c3 (λ hk => ?_) (λ hk2 => ?_))
 ·simp only [db] at hk
  rw [D6 hbl]
  refine Ok.pure λ _ y hy hy3 => ?_
  rw [hx] at hy; cases hy; omega
 ·simp only [db] at hk
  rw [D6 hbl]
  simp only [ab]
  refine Ok.bind (P := λ _ => True) (cE (λ _ => cD (by omega) (by omega)) λ _ => trivial) λ _ _ => Ok.pure λ _ y hy hy3 => ?_
  rw [hx] at hy; cases hy; omega
 ·unfold F86
  rw [B6 h hp, Aa3 h hc, D6 hbl]
  simp only [ab, di, cond_false]
  refine Ok.pure λ e y hy hy3 => ?_
  rw [hx] at hy; cases hy
  simp only [ac, aV] at e
  exact jC e.2
theorem Avb {b : Aa} (h : Aw b) {p : Ab} (hp : Ay b p) (j : Int) : Ok (T7 b p j) λ y => y ≠ 0 \/ ((0 <= j /\ j < b.Ad.length) /\ ∀ x, b.Ad[j.toNat]? = some x -> x.Kind = 3 -> Dr b p 3 x.B = none) := by
 unfold T7
 rw [B6 h hp]
 simp only [ab]
 refine c3 (λ hc => by simp at hc) (λ _ => c3 (λ _ => Ok.pure (.inl (by simp))) (λ hr => ?_))
 simp only [Abp, aQ, da] at hr
 refine (Aqm h hp (by omega) (by omega)).bind λ y hy => ?_
 refine c3 (λ _ => Ok.pure (.inl (by simp))) (λ h2 => ?_)
 simp only [bY] at h2
 have hy := hy h2
 refine (c7 (by omega) (by omega)).bind λ x hx => (Awd h hp x.A).bind λ z hz => ?_
 refine Ok.bind (P := λ _ => True) (cE (λ _ => cL (Cf _ _ hz)) λ _ => trivial) λ _ _ => ?_
 refine Ok.bind (P := λ _ => True) (cE (λ _ => Ae9 h hp hx) λ _ => trivial) λ _ _ => ?_
 exact c3 (λ _ => Ok.pure (.inl (by simp))) (λ _ => Ok.pure (.inr ⟨⟨by omega, by omega⟩, hy⟩))
theorem Aru {b : Aa} (h : Aw b) {p : Ab} (hp : Ay b p) (i : Int) : Ok (Qm b p i) λ y => y.2 ≠ 0 \/ Ay b y.1 := by
 have hn := hp.ncl
 unfold Qm
 rw [Ea h hp]
 simp only [ab]
 refine (Avb h hp i).bind λ y hy => c3 (λ hc => Ok.pure (.inl (by simpa using hc))) (λ hc => ?_)
 simp only [dh] at hc
 rcases hy with hy | ⟨hr, hf⟩
 ·exact absurd hc hy
 ·refine (c7 hr.1 (by omega)).bind λ _ _ => (c9 hr.1 (by omega)).bind λ z hz => ?_
  obtain ⟨x, hx⟩ : ∃ x, b.Ad[i.toNat]? = some x := ⟨_, af (by omega)⟩
  have hq := Ant hp hx (hf x hx)
  rw [← hz] at hq
  rw [jE h hq]
  exact Ok.pure (.inr (Ij hq (Mb _ _) (Vq hq)))
theorem Aq2 {b : Aa} (h : Aw b) {p : Ab} (hp : Ay b p) (i n : Int) : Ok (T_ b p i n) λ y => y.2 ≠ 0 \/ Ay b y.1 := by
 have hn := hp.nso
 unfold T_
 rw [B6 h hp, Ea h hp]
 simp only [ab]
 refine c3 (λ hc => by simp at hc) (λ _ => c3 (λ _ => Ok.pure (.inl (by simp))) (λ hr => ?_))
 simp only [Abr, aQ, da] at hr
 refine (K_ h hp n).bind λ y hy => ?_
 refine Ok.bind (P := λ _ => True) (cE (λ _ => cD (by omega) (by omega)) λ _ => trivial) λ u _ => ?_
 refine c3 (λ _ => Ok.pure (.inl (by simp))) (λ hc => ?_)
 simp only [aQ, bY] at hc
 have hy := hy hc.1
 unfold Ad5
 rw [B6 h hp, Kl h hp]
 simp only [ab, di, cond_false]
 have hrun : ∀ w, p.Ac[y.1.toNat]? = some w -> Cn w := λ w hw => hp.run w (ae hw)
 refine c3 (λ _ => ?_) (λ _ => ?_)
 ·refine (Ahh h hp _).bind λ z hz => (c7 hy.1 hy.2).bind λ w hw => ?_
  rw [O4 hz]
  exact Ok.pure (.inr (Ij hp (Fo _ _ _) (Mz (hrun w hw) _ _ hz hp.run)))
 ·refine (c7 hy.1 hy.2).bind λ w hw => ?_
  have hz : ∀ k, k ∈ [i] -> 0 <= k /\ k < p.Ac.length := λ k hk => by
   simp only [bq] at hk
   subst hk; omega
  rw [O4 hz]
  exact Ok.pure (.inr (Ij hp (Fo _ _ _) (Mz (hrun w hw) _ _ hz hp.run)))
theorem Pn {b : Aa} (h : Aw b) {p : Ab} (hc : p.Ah.length = b.Ad.length) (t : Int) {i : Int} (h0 : 0 <= i) (h1 : i < b.Ac.length) : Ok (Hu ⟨b, p, t⟩ i) λ _ => True := by
 obtain ⟨j, x, e, hx, _⟩ := Hs h h0 h1
 have hj := (aa.1 hx).1
 unfold Hu
 rw [Js h, e]
 simp only [ab]
 exact (cD (by omega) (by omega)).bind λ _ _ => Ok.pure trivial
def Rx (b : Aa) (y : Int × Az) : Prop := y.1 ≠ 0 \/ Ay b y.2.Ap
theorem Aql {b : Aa} (h : Aw b) {p : Ab} (hp : Ay b p) {t : Int} (ht : 0 <= t /\ t <= 2147483648) {i : Int} (h0 : 0 <= i) (h1 : i < b.Ac.length) : Ok (Ku ⟨b, p, t⟩ i) (Rx b) := by
 have hn := hp.nso
 have hbl : p.Ak.length <= 1000 := by have := hp.brk.len; omega
 unfold Ku
 refine (cD h0 (by dsimp only; omega)).bind λ u _ => Ok.bind (P := λ _ => True) (cE (λ _ => cL (D6 hbl _ _)) λ _ => trivial) λ _ _ => ?_
 refine c3 (λ _ => Ok.pure (.inl (by simp))) (λ _ => (cD h0 h1).bind λ s _ => ?_)
 refine Ok.bind (P := λ _ => True) (cE (λ _ => Pn h hp.ncl t h0 h1) λ _ => trivial) λ _ _ => ?_
 refine c3 (λ _ => ?_) (λ _ => ?_)
 ·exact (c9 h0 (by dsimp only; omega)).bind λ z hz => Ok.pure (.inr (by
   rw [hz]
   exact Ij hp (by simp) (Jw hp.run ⟨by dsimp only; omega, ht, by dsimp only; omega, by dsimp only; omega⟩)))
 ·exact (c9 h0 (by dsimp only; omega)).bind λ z hz => Ok.pure (.inr (by
   rw [hz]
   exact Ij hp (by simp) (Jw hp.run ⟨by dsimp only; omega, ht, by dsimp only; omega, by dsimp only; omega⟩)))
theorem At0 {b : Aa} (h : Aw b) {p : Ab} (hp : Ay b p) {t : Int} {i : Int} (h0 : 0 <= i) (h1 : i < b.Ac.length) : Ok (Kt ⟨b, p, t⟩ i) (Rx b) := by
 have hn := hp.nso
 unfold Kt
 refine (c7 h0 (by dsimp only; omega)).bind λ u hu => ?_
 have hr := hp.run u (ae hu)
 refine Ok.bind (P := λ _ => True) (cE (λ _ => Pn h hp.ncl t h0 h1) λ _ => trivial) λ _ _ => ?_
 refine c3 (λ _ => Ok.pure (.inl (by simp))) (λ _ => (c9 h0 (by dsimp only; omega)).bind λ z hz => Ok.pure (.inr ?_))
 rw [hz]
 exact Ij hp (by simp) (Jw hp.run ⟨by dsimp only; omega, hr.2⟩)
theorem Aq7 {b : Aa} {p : Ab} (hp : Ay b p) {t : Int} {i v : Int} (h0 : 0 <= i) (h1 : i < b.Ai.length) : Ok (Ks ⟨b, p, t⟩ i v) (Rx b) := by
 have hn := hp.nli
 unfold Ks
 refine Ok.bind (P := λ y => 0 <= v -> b.Ai[i.toNat]? = some y) (c6 (λ _ => (c7 h0 h1).mono λ y hy _ => hy) λ hg hv => (hg ⟨by simp; omega, trivial⟩).elim) λ c hc => ?_
 refine c3 (λ _ => Ok.pure (.inl (by simp))) (λ hr => ?_)
 simp only [Abq, aQ, da] at hr
 have hc := hc (by omega)
 refine (cD h0 (by dsimp only; omega)).bind λ _ _ => (c9 h0 (by dsimp only; omega)).bind λ z hz => Ok.pure (.inr ?_)
 subst hz
 exact {
  ncl := hp.ncl
  nso := hp.nso
  nli := by simpa using hp.nli
  run := hp.run
  lim := λ k m y hk hy => by
   dsimp only at hk
   rw [al] at hk
   split at hk
   ·rename_i e
    split at hk
    ·cases hk
     rw [← e, hc] at hy; cases hy; omega
    ·cases hk
   ·exact hp.lim k m y hk hy
  one := hp.one
  brk := hp.brk }
theorem At8 (x : Int) : 0 <= Ft x /\ Ft x <= 3599 := by
 have := Mt (x := x) (n := 3600) (by omega)
 unfold Ft
 by_cases h : Int.tmod x 3600 < 0
 ·rw [dg h, cond_true, A7 (by omega)]; omega
 ·rw [decide_eq_false h, cond_false]; omega
theorem Atw {b : Aa} (h : Aw b) {p : Ab} (hp : Ay b p) : Ok (T5 b p) λ y => Ay b y.1 /\ y.1.Ah = p.Ah /\ y.2 = 0 := by
 have hs := h.sol
 have hn := hp.nso
 unfold T5
 rw [B6 h hp, Ea h hp]
 simp only [ab]
 refine c3 (λ hc => by simp at hc) (λ _ => ?_)
 refine Ok.andThen (A := λ s => s.length = p.Ac.length /\ ∀ x, x ∈ s -> Cn x) (B := λ (_ : Unit) => False) ?_ (λ s hs => Ok.pure ⟨Ij hp hs.1 hs.2, rfl, rfl⟩) (λ _ h => h.elim)
 refine c5 (I := λ _ s => s.length = p.Ac.length /\ ∀ x, x ∈ s -> Cn x) ⟨rfl, hp.run⟩ (λ j x s hx hs => ?_) λ s hs => hs
 have hj := (aa.1 hx).1
 have hcnt : cnt 0 j = (j : Int) := C1 (by omega)
 unfold Rt
 rw [hcnt]
 refine c3 (λ _ => ?_) (λ _ => c4 hs)
 refine (c7 (by omega) (by omega)).bind λ u hu => (c9 (by omega) (by omega)).bind λ z hz => c4 ?_
 have hr := hs.2 u (ae hu)
 rw [hz]
 exact ⟨by simpa using hs.1, Jw hs.2 ⟨hr.1, hr.2.1, hr.2.2.1, At8 _⟩⟩
theorem Att {b : Aa} (h : Aw b) {p : Ab} (hp : Ay b p) (t : Int) : Ok (I9 ⟨b, p, t⟩) λ y => Ay b y.Ap := by
 have hso := h.sol
 unfold I9
 refine (Atw h hp).bind λ ⟨q, e⟩ hq => ?_
 dsimp only at hq ⊢
 obtain ⟨hq, _, _⟩ := hq
 have hn := hq.nso
 refine Ok.andThen (A := λ s => s.2.length = q.Ac.length /\ ∀ x, x ∈ s.2 -> Cn x) (B := λ (_ : Unit) => False) ?_ (λ s hs => Ok.pure (Ij hq hs.1 hs.2)) (λ _ h => h.elim)
 refine c8 (λ s => (0 <= s.1 /\ s.1 <= (q.Ac.length : Int)) /\ s.2.length = q.Ac.length /\ ∀ x, x ∈ s.2 -> Cn x) (λ s => ((q.Ac.length : Int) - s.1).toNat) _ _ ?_ ?_ ?_
 ·exact ⟨by dsimp only; omega, rfl, hq.run⟩
 ·dsimp only; omega
 ·rintro ⟨i, s⟩ ⟨⟨h1, h2⟩, h3, h4⟩
  dsimp only at h1 h2 h3 h4
  unfold Lh Tj
  dsimp only
  refine c3 (λ hc => ?_) (λ _ => cA ⟨h3, h4⟩)
  simp only [cZ] at hc
  have e1 : w64 (i + 1) = i + 1 := A7 (by omega)
  refine (c7 h1 (by omega)).bind λ u hu => ?_
  have hr := h4 u (ae hu)
  refine Ok.bind (P := λ _ => True) (cE (λ _ => Pn h hq.ncl t h1 (by omega)) λ _ => trivial) λ _ _ => ?_
  refine Ok.bind (P := λ _ => True) (cE (λ _ => cD h1 (by omega)) λ _ => trivial) λ _ _ => ?_
  rw [e1]
  refine c3 (λ _ => ?_) (λ _ => c4 ⟨⟨by dsimp only; omega, h3, h4⟩, by dsimp only; omega⟩)
  refine (c9 h1 (by omega)).bind λ z hz => c4 ⟨⟨by dsimp only; omega, ?_, ?_⟩, by dsimp only; omega⟩
  ·dsimp only; rw [hz]; simpa using h3
  ·dsimp only; rw [hz]; exact Jw h4 ⟨by dsimp only; omega, hr.2⟩
theorem bet {x lo hi : Int} (h : lo <= x /\ x <= hi) : F46 x lo hi = true := (Hc x lo hi).2 h
def ofL (b : Aa) (q : Af -> Bool) : List Int := (b.Ad.zipIdx.filter λ z => q z.1).map λ z => (z.2 : Int)
theorem Xt {b : Aa} (h : Aw b) (k i : Int) : F49 b k i = some (ofL b λ x => Hr k i x) := by
 have hb := h.brl
 refine cC ?_
 unfold F49
 refine Ok.andThen (A := λ s => s = ofL b λ x => Hr k i x) (B := λ (_ : Unit) => False) ?_ (λ s hs => Ok.pure hs) (λ _ h => h.elim)
 refine c5 (I := λ j s => s = ((b.Ad.zipIdx.take j).filter λ z => Hr k i z.1).map λ z => (z.2 : Int)) rfl (λ j x s hx hs => ?_) λ s hs => ?_
 ·have hj := (aa.1 hx).1
  have hcnt : cnt 0 j = (j : Int) := C1 (by omega)
  have hz : b.Ad.zipIdx[j]? = some (x, j) := by rw [List.getElem?_zipIdx, hx]; simp
  have hsl : s.length <= j := by
   rw [hs, au]
   exact ay (bi _ _) (by simp; omega)
  unfold Adk
  rw [hcnt, Bj hz, bv, bB, ← hs]
  refine c3 (λ hq => ?_) (λ hq => c4 (by simp [hq]))
  exact (cw (by simp; omega)).bind λ y hy => c4 (by rw [hy]; simp [hq])
 ·rw [hs, show b.Ad.length = b.Ad.zipIdx.length from by simp, aH]; rfl
theorem vF (q : Af -> Bool) : ∀ (l : List Af) (k : Nat), ((l.zipIdx k).filter λ z => q z.1).length = (l.filter q).length
 | [], _ => rfl
 | x :: l, k => by
  simp only [List.zipIdx_cons, ba]
  split <;> simp [vF q l (k + 1)]
theorem At7 (b : Aa) (q : Af -> Bool) : (ofL b q).length = (b.Ad.filter q).length := by
 unfold ofL
 rw [au, vF]
theorem Aqr (k : Int) (hk : k ≠ 1) (i : Int) (x : Af) : Hr k i x = (x.Kind == k && x.B == i) := by
 unfold Hr
 have : (k == 1) = false := de.2 hk
 rw [this]; simp
theorem Xs {b : Aa} {k : Int} (hk : k ≠ 1) (i : Nat) : (ofL b λ x => Hr k (i : Int) x).length = (brs b.Ad k i).length := by
 rw [At7]
 unfold brs
 congr 1
 exact ck λ x _ => Aqr k hk i x
theorem zQ {b : Aa} (h : Aw b) : F95 b = some true := by
 have hs := h.sol
 have hc := h.col
 have hb := h.buses
 have hbl := h.brl
 refine cC ?_
 unfold F95
 rw [Ec b.Ad 0 λ j x hj => ?_]
 ·rw [show ∀ (f : Unit -> Option Bool), andThen (some (Ctl.next ()) : Option (Ctl Unit Bool)) some f = f () from λ _ => rfl]
  refine Ok.andThen (A := λ _ => True) (B := λ (_ : Bool) => False) ?_ (λ _ _ => ?_) (λ _ h => h.elim)
  ·refine c8 (λ s => 0 <= s /\ s <= (b.Ac.length : Int)) (λ s => ((b.Ac.length : Int) - s).toNat) _ (0 : Int) (by omega) (by omega) ?_
   rintro i ⟨h1, h2⟩
   unfold Ac4 Anw
   refine c3 (λ hq => ?_) (λ _ => cA trivial)
   simp only [cZ] at hq
   obtain ⟨n, rfl⟩ : ∃ n : Nat, i = (n : Int) := ⟨i.toNat, by omega⟩
   rw [Xt h]
   simp only [ab]
   have hone := h.one n (by omega)
   rw [Xs (by decide), hone, A7 (by omega)]
   refine c3 (λ hc => by simp at hc) (λ _ => c4 ⟨by omega, by omega⟩)
  ·refine Ok.andThen (A := λ _ => True) (B := λ (_ : Bool) => False) ?_ (λ _ _ => Ok.pure rfl) (λ _ h => h.elim)
   refine c8 (λ s => 0 <= s /\ s <= (b.Ai.length : Int)) (λ s => ((b.Ai.length : Int) - s).toNat) _ (0 : Int) (by omega) (by omega) ?_
   rintro i ⟨h1, h2⟩
   unfold Ac3 Anv
   refine c3 (λ hq => ?_) (λ _ => cA trivial)
   simp only [cZ] at hq
   obtain ⟨n, rfl⟩ : ∃ n : Nat, i = (n : Int) := ⟨i.toNat, by omega⟩
   rw [Xt h]
   simp only [ab]
   have hany := h.any n (by omega)
   have hpos : 0 < (brs b.Ad 3 n).length := List.length_pos_iff.2 hany
   rw [Xs (by decide), A7 (by omega)]
   refine c3 (λ hc => ?_) (λ _ => c4 ⟨by omega, by omega⟩)
   simp only [cZ] at hc; omega
 ·have hjl := (aa.1 hj).1
  obtain ⟨⟨a0, a1⟩, hk⟩ := h.br x (ae hj)
  rw [aJ]
  have hcnt : cnt 0 j = (j : Int) := C1 (by omega)
  have e1 : w64 (b.Ao - 1) = b.Ao - 1 := A7 (by omega)
  have e2 : w64 (x.A + 1) = x.A + 1 := A7 (by omega)
  have e3 : w64 ((b.Ac.length : Int) - 1) = (b.Ac.length : Int) - 1 := A7 (by omega)
  have e4 : w64 ((b.Ai.length : Int) - 1) = (b.Ai.length : Int) - 1 := A7 (by omega)
  unfold Ac5 As2 As1 As0
  rw [e1, e2, e3, e4, hcnt, bet (x := x.A) (by omega)]
  simp only [aZ, cond_false]
  rcases hk with ⟨hk, h1, h2⟩ | ⟨hk, h1, h2⟩ | ⟨hk, h1, h2⟩
  ·rw [hk, bet (x := x.B) (lo := x.A + 1) (by omega)]; rfl
  ·rw [hk, bet (x := x.B) (lo := 0) (hi := (b.Ac.length : Int) - 1) (by omega)]; rfl
  ·rw [hk, bet (x := x.B) (lo := 0) (hi := (b.Ai.length : Int) - 1) (by omega)]
   have hcut : cutI b.Ad 0 (j : Int) = some (b.Ad.take j) := by
    refine cC ((Ok.cutI (by omega) (by omega) (by omega)).mono λ y hy => ?_)
    rw [hy]; simp
   show ((cutI b.Ad 0 (j : Int)).bind λ y9 => andThen (foldI (Wn x) y9 0 ()) (λ v => some (Ctl.ret v)) λ z1 => some (Ctl.next ())) = some (Ctl.next ())
   rw [hcut]
   simp only [ab]
   rw [Ec _ 0 λ m y hy => ?_]
   ·rfl
   ·have hml : m < j := by
     have := (aa.1 hy).1
     simp only [aL] at this; omega
    have hyb : b.Ad[m]? = some y := by
     rw [am, if_pos hml] at hy; exact hy
    unfold Wn
    have hne : Aim x y = false := by
     unfold Aim
     rw [cj]
     intro e
     simp only [bp, ac, db] at e
     obtain ⟨e1, e2, e3⟩ := e
     have hn := h.nodup x.B.toNat
     have hsplit : b.Ad = b.Ad.take j ++ (x :: b.Ad.drop (j + 1)) := by
      conv => lhs; rw [← bU j b.Ad]
      rw [cv hjl]
      have : b.Ad[j] = x := by
       rw [af hjl] at hj; cases hj; rfl
      rw [this]
     rw [hsplit, Fd, bB] at hn
     have hBn : x.B = (x.B.toNat : Int) := by omega
     have hmem1 : y.A ∈ (brs (b.Ad.take j) 3 x.B.toNat).map (·.A) := by
      refine ao.2 ⟨y, ?_, rfl⟩
      unfold brs
      refine aw.2 ⟨ae hy, ?_⟩
      rw [e1, hk, e3, ← hBn]; simp
     have hmem2 : x.A ∈ (brs (x :: b.Ad.drop (j + 1)) 3 x.B.toNat).map (·.A) := by
      refine ao.2 ⟨x, ?_, rfl⟩
      unfold brs
      refine aw.2 ⟨ak, ?_⟩
      rw [hk, ← hBn]; simp
     exact (List.nodup_append.1 hn).2.2 _ hmem1 _ hmem2 e2
    rw [hne]; rfl
theorem Aep {b : Aa} (h : Aw b) : F96 b = some true := by
 unfold F96
 rw [Ec b.Ac 0 λ j x hj => ?_]
 ·rfl
 ·obtain ⟨h1, h2, h3⟩ := h.so x (ae hj)
  unfold Ac2 Asz
  rw [bet h1, bet h2, bet h3]; rfl
theorem qT {b : Aa} (h : Aw b) : F97 b = some true := by
 have hcl := h.col
 unfold F97
 rw [Ec b.Ai 0 λ j x hj => ?_]
 ·rfl
 ·obtain ⟨h1, h2, h3, h4, h5, h6, h7⟩ := h.co j x hj
  have hjl := (aa.1 hj).1
  rw [aJ]
  have hcnt : cnt 0 j = (j : Int) := C1 (by omega)
  unfold Ac1 Asy
  rw [bet h1, bet h2, bet h3, bet h4]
  have hd : decide ((x.Needs.length : Int) > 4) = false := by simp; omega
  rw [hd]
  simp only [aZ, Bool.or_false, cond_false]
  rw [Ec x.Needs 0 λ m n hm => ?_]
  ·rfl
  ·have hml := (aa.1 hm).1
   rw [aJ]
   have hcm : cnt 0 m = (m : Int) := C1 (by omega)
   have hn := h6 n (ae hm)
   unfold Ac0 Asx
   rw [hcnt, hcm, A7 (n := (j : Int) - 1) (by omega), bet (x := n) (by omega)]
   cases m with
   | zero => rfl
   | succ m =>
    obtain ⟨a, ha⟩ : ∃ a, x.Needs[m]? = some a := ⟨_, af (by omega)⟩
    have hlt := h7 m a n ha hm
    have e : w64 (((m + 1 : Nat) : Int) - 1) = (m : Int) := by rw [A7 (by omega)]; omega
    have hp : decide (((m + 1 : Nat) : Int) > 0) = true := dg (by omega)
    have hq : decide (a >= n) = false := by simp; omega
    rw [e, Ba ha, hp]
    simp [Ax, B1, hq]
theorem Sy {b : Aa} (h : Aw b) : F45 b = some 0 := by
 have h1 := h.buses
 have h2 := h.brl
 have h3 := h.sol
 have h4 := h.col
 have h5 := h.phase
 have h6 := h.freq
 unfold F45
 rw [zQ h, Aep h, qT h]
 have e : Aio b = false := by
  rw [cj]; intro e
  simp [Aio] at e; omega
 have e2 : Ain b true true true = false := by
  rw [cj]; intro e
  simp [Ain] at e; omega
 rw [e]
 simp only [cond_false, ab]
 have g1 : (Ax [(!true, false)] (some true) default : Option Bool) = some true := rfl
 have g2 : (Ax [(!true || !true, false)] (some true) default : Option Bool) = some true := rfl
 rw [g1, ab, g2, ab, e2]; rfl
theorem Zf (i : Nat) (C : List Bool) : ∀ (l : List Af) (c : List Bool) (k : Nat), C.drop k = c -> l.length = c.length ->
  (((l.zipIdx k).filter λ z => z.1.Kind == 3 && z.1.B == (i : Int)).filter λ z => C.getD z.2 false).length = (Bz l c i).length
 | [], _, _, _, _ => by simp [Bz]
 | x :: l, [], _, _, h => by simp at h
 | x :: l, v :: c, k, hd, h => by
  have hv : C[k]? = some v := by
   have := congrArg (·[0]?) hd
   simpa [List.getElem?_drop] using this
  have hd' : C.drop (k + 1) = c := by rw [← bV, hd]; rfl
  have ih := Zf i C l c (k + 1) hd' (by simpa using h)
  have hg : C.getD k false = v := by simp [List.getD, hv]
  simp only [List.zipIdx_cons, ba, Bz, bn] at ih ⊢
  cases hq : (x.Kind == 3 && x.B == (i : Int)) with
  | false => simpa only [Bool.false_and, bJ, if_false] using ih
  | true =>
   simp only [if_true, ba, hg]
   cases v with
   | false => simpa only [Bool.and_false, bJ, if_false] using ih
   | true => simpa only [Bool.and_self, if_true, aY, Nat.add_right_cancel_iff] using ih
theorem G1 {b : Aa} (h : Aw b) {p : Ab} (hp : Ay b p) : F11 b p = some 0 := by
 have h3 := h.sol
 have h4 := h.col
 have hbl := h.brl
 have hncl := hp.ncl
 have hnso := hp.nso
 have hnli := hp.nli
 refine cC ?_
 unfold F11
 rw [Sy h]
 simp only [ab]
 refine c3 (λ hc => by simp at hc) (λ _ => c3 (λ hc => ?_) (λ _ => ?_))
 ·simp [Ath, hncl, hnso, hnli] at hc
 rw [Ec p.Ac 0 λ j x hj => ?_]
 ·rw [show ∀ (f : Unit -> Option Int), andThen (some (Ctl.next ()) : Option (Ctl Unit Int)) some f = f () from λ _ => rfl]
  rw [Ec p.As 0 λ j x hj => ?_]
  ·rw [show ∀ (f : Unit -> Option Int), andThen (some (Ctl.next ()) : Option (Ctl Unit Int)) some f = f () from λ _ => rfl]
   have hlen := hp.brk.len
   refine c3 (λ hc => ?_) (λ _ => ?_)
   ·simp only [cZ] at hc; omega
   rw [Ec p.Ak 0 λ j x hj => ?_]
   ·rw [show ∀ (f : Unit -> Option Int), andThen (some (Ctl.next ()) : Option (Ctl Unit Int)) some f = f () from λ _ => rfl]
    refine Ok.andThen (A := λ _ => True) (B := λ (_ : Int) => False) ?_ (λ _ _ => Ok.pure rfl) (λ _ h => h.elim)
    refine c8 (λ s => 0 <= s /\ s <= (b.Ai.length : Int)) (λ s => ((b.Ai.length : Int) - s).toNat) _ (0 : Int) (by omega) (by omega) ?_
    rintro i ⟨g1, g2⟩
    unfold Aeg Ate
    refine c3 (λ hq => ?_) (λ _ => cA trivial)
    simp only [cZ] at hq
    obtain ⟨n, rfl⟩ : ∃ n : Nat, i = (n : Int) := ⟨i.toNat, by omega⟩
    rw [Xt h]
    simp only [ab]
    have hone := hp.one n (by omega)
    have hz : ofL b (λ x => Hr 3 (n : Int) x) = ((b.Ad.zipIdx.filter λ z => z.1.Kind == 3 && z.1.B == (n : Int)).map λ z => (z.2 : Int)) := by
     unfold ofL
     congr 1
     exact ck λ z _ => Aqr 3 (by decide) n z.1
    have hzf := Zf n p.Ah b.Ad p.Ah 0 rfl (by omega)
    rw [hz]
    have hin : ∀ z, z ∈ (b.Ad.zipIdx.filter λ z => z.1.Kind == 3 && z.1.B == (n : Int)) -> z.2 < p.Ah.length := by
     rintro ⟨x, j⟩ hm
     have := (aw.1 hm).1
     rw [bz] at this
     have := (aa.1 this).1
     dsimp only; omega
    have hsz : (b.Ad.zipIdx.filter λ z => z.1.Kind == 3 && z.1.B == (n : Int)).length <= 24 := ay (bi _ _) (by simpa using hbl)
    generalize hm : (b.Ad.zipIdx.filter λ z => z.1.Kind == 3 && z.1.B == (n : Int)) = m at hin hsz hzf
    refine (c5 (xs := m.map λ z => (z.2 : Int)) (I := λ j s => s = (((m.take j).filter λ z => p.Ah.getD z.2 false).length : Int)) (A := λ s => s = ((m.filter λ z => p.Ah.getD z.2 false).length : Int)) (B := λ (_ : Unit) => False) rfl (λ j x s hx hs => ?_) λ s hs => ?_).inner (λ s hs => ?_) (λ _ h => h.elim)
    ·rw [az, Option.map_eq_some_iff] at hx
     obtain ⟨z, hz, rfl⟩ := hx
     have hzl := hin z (ae hz)
     obtain ⟨v, hv⟩ : ∃ v, p.Ah[z.2]? = some v := ⟨_, af hzl⟩
     have hg : p.Ah.getD z.2 false = v := by simp [List.getD, hv]
     have hle : ((m.take j).filter λ z => p.Ah.getD z.2 false).length <= 24 := ay (bi _ _) (by simp; omega)
     unfold Aef
     rw [Ba hv, Bj hz, bv]
     simp only [ab]
     refine c3 (λ hq => c4 ?_) (λ hq => c4 ?_)
     ·rw [hs, A7 (by omega), ba, hg, if_pos hq]
      simp
     ·rw [hs, ba, hg, if_neg (ff hq)]
      simp
    ·rw [au, aH] at hs; exact hs
    ·rw [hs, hzf, A7 (by omega)]
     refine c3 (λ hc => ?_) (λ _ => c4 ⟨by omega, by omega⟩)
     simp only [cZ] at hc; omega
   ·have hjl := (aa.1 hj).1
    rw [aJ]
    have hcnt : cnt 0 j = (j : Int) := C1 (by omega)
    unfold Aeh Atf
    rw [(Vs h x).2 (hp.brk.mem x (ae hj)), hcnt]
    cases j with
    | zero => rfl
    | succ j =>
     obtain ⟨a, ha⟩ : ∃ a, p.Ak[j]? = some a := ⟨_, af (by omega)⟩
     have hlt := hp.brk.asc j a x ha hj
     have e : w64 (((j + 1 : Nat) : Int) - 1) = (j : Int) := by rw [A7 (by omega)]; omega
     have hpz : decide (((j + 1 : Nat) : Int) > 0) = true := dg (by omega)
     have hb : F48 a x = true := by
      unfold F48
      unfold Ml at hlt
      simp only [aD, ac, cZ, db]
      exact hlt
     rw [e, Ba ha, hpz]
     simp [Ax, B1, hb]
  ·have hjl := (aa.1 hj).1
   rw [aJ]
   have hcnt : cnt 0 j = (j : Int) := C1 (by omega)
   obtain ⟨c, hc⟩ : ∃ c, b.Ai[j]? = some c := ⟨_, af (by omega)⟩
   unfold Aei
   rw [hcnt, Ba hc]
   simp only [ab]
   rw [bet (hp.lim j x c hj hc)]; rfl
 ·have hr := hp.run x (ae hj)
  unfold Aej Atg
  rw [bet hr.1, bet hr.2.1, bet hr.2.2.1, bet hr.2.2.2]; rfl
theorem Ang {l : List Al} {n : Nat} {x : Al} (h : l[n]? = some x) : Dd (l.take n ++ l.drop (n + 1)) n x = l := by
 have hn := (aa.1 h).1
 have ht : (l.take n).length = n := by simp; omega
 unfold Dd
 rw [ch (by omega), List.take_take, Nat.min_self, List.drop_append_of_le_length (by omega), List.drop_of_length_le (by omega), List.nil_append]
 conv => rhs; rw [← bU n l]
 rw [cv hn]
 have : l[n] = x := by rw [af hn] at h; cases h; rfl
 rw [this]
theorem I8 {l : List Al} {n j : Nat} (hn : n < l.length) {y : Al} (h : (l.take n ++ l.drop (n + 1))[j]? = some y) : (j < n /\ l[j]? = some y) \/ (n <= j /\ l[j + 1]? = some y) := by
 have ht : (l.take n).length = n := by simp; omega
 rw [bH] at h
 split at h
 ·rename_i h1
  rw [ht] at h1
  rw [am, if_pos h1] at h
  exact .inl ⟨h1, h⟩
 ·rename_i h1
  rw [ht] at h1 h
  rw [an] at h
  refine .inr ⟨by omega, ?_⟩
  rw [← h]; congr 1; omega
theorem Aro {b : Aa} (h : Aw b) {l : List Al} (hl : De b l) {n : Nat} (hn : n < l.length) : De b (l.take n ++ l.drop (n + 1)) := by
 have hs := Fz h hl
 have hsm : ∀ y, y ∈ l -> B3 y := λ y hy => (hl.mem y hy).small h
 have hlen := hl.len
 refine ⟨by simp; omega, λ y hy => ?_, λ j y z hy hz => ?_⟩
 ·rcases ax.1 hy with hy | hy
  ·exact hl.mem y (bf hy)
  ·exact hl.mem y (bW hy)
 ·rcases I8 hn hy with ⟨a1, a2⟩ | ⟨a1, a2⟩ <;> rcases I8 hn hz with ⟨b1, b2⟩ | ⟨b1, b2⟩
  ·exact hl.asc j y z a2 b2
  ·exact (uD (hsm y (ae a2)) (hsm z (ae b2))).2 (hs j (j + 1 + 1) y z (by omega) a2 b2)
  ·omega
  ·exact hl.asc (j + 1) y z a2 b2
theorem Arp {b : Aa} (h : Aw b) {l : List Al} (hl : De b l) {n : Nat} {x : Al} (hx : l[n]? = some x) : At (l.take n ++ l.drop (n + 1)) x n /\ (l.take n ++ l.drop (n + 1))[n]? ≠ some x := by
 have hs := Fz h hl
 have hn := (aa.1 hx).1
 refine ⟨⟨by simp; omega, λ j y hj hy => ?_, λ j y hj hy => ?_⟩, λ e => ?_⟩
 ·rcases I8 hn hy with ⟨_, a2⟩ | ⟨a1, _⟩
  ·exact hs j n y x hj a2 hx
  ·omega
 ·rcases I8 hn hy with ⟨a1, _⟩ | ⟨_, a2⟩
  ·omega
  ·have := hs n (j + 1) x y (by omega) hx a2; omega
 ·rcases I8 hn e with ⟨a1, _⟩ | ⟨_, a2⟩
  ·omega
  ·have := hs n (n + 1) x x (by omega) hx a2; omega
theorem Aum {b : Aa} (h : Aw b) {p : Ab} (hp : Ay b p) (t : Int) {x : Al} (hx : Bv b x) (v : Bool) : Ok (Gh ⟨b, p, t⟩ x v) (Rx b) := by
 obtain ⟨n, hat⟩ := Azf h hp.brk hx
 have hlen := hp.brk.len
 have hsearch := K0 (Fz h hp.brk) (λ y hy => (hp.brk.mem y hy).small h) (hx.small h) (by omega)
 have hbad : ∀ (hv : (p.Ak[n]? = some x) ↔ v = true), Ok (Gh ⟨b, p, t⟩ x v) (Rx b) := by
  intro hv
  unfold Gh
  refine hsearch.bind λ y hy => ?_
  obtain ⟨m, e1, hat2, hf⟩ := hy
  have e2 := hat.uniq hat2
  subst e2
  have : y.2 = v := by
   rw [bj]; exact hf.trans hv
  rw [this]
  exact c3 (λ _ => Ok.pure (.inl (by simp))) (λ hc => by simp at hc)
 by_cases hin : p.Ak[n]? = some x
 ·cases v with
  | true => exact hbad ⟨λ _ => rfl, λ _ => hin⟩
  | false =>
   have hn := (aa.1 hin).1
   have he := Arp h hp.brk hin
   have hq : Ay b ⟨p.Ah, p.Ac, p.As, p.Ak.take n ++ p.Ak.drop (n + 1)⟩ := { ncl := hp.ncl, nso := hp.nso, nli := hp.nli, run := hp.run, lim := hp.lim, one := hp.one, brk := Aro h hp.brk hn }
   have := At9 h (p := ⟨p.Ah, p.Ac, p.As, p.Ak.take n ++ p.Ak.drop (n + 1)⟩) hq.brk (q := p) hx t he.1 he.2 (by simp; omega) (Ang hin).symm hp.nso
   rw [this]
   refine Ok.pure (.inr ?_)
   exact Ij hq (Py _ _ _) (Aa4 hp.run (λ hk => by have := hp.nso; unfold Bv at hx; omega) (by omega))
 ·cases v with
  | false => exact hbad ⟨λ e => absurd e hin, λ e => by cases e⟩
  | true =>
   by_cases hl : p.Ak.length < 32
   ·rw [Aun h hp hx t hat hin hl]
    exact Ok.pure (.inr (Ah9 h hp hx hat hin hl))
   ·unfold Gh
    refine hsearch.bind λ y _ => c3 (λ _ => Ok.pure (.inl (by simp))) (λ _ => c3 (λ _ => Ok.pure (.inl (by simp))) (λ hc => ?_))
    simp [Nt] at hc; omega
def Awi : Ab := ⟨[], [], [], []⟩
theorem Ara {b : Aa} (a : An) : Ok (F62 b a) λ y => y = true -> ((a.Kind = 1 \/ a.Kind = 2) -> Bv b ⟨2, a.Unit⟩) /\ ((a.Kind = 3 \/ a.Kind = 4) -> Bv b ⟨1, a.Unit⟩) /\ (a.Kind = 5 -> Bv b ⟨4, a.Unit⟩) /\ ((a.Kind = 8 \/ a.Kind = 9) -> Bv b ⟨a.Value, a.Unit⟩) := by
 unfold F62
 refine Ok.andThen (A := λ z => z = true ↔ (a.Kind = 1 \/ a.Kind = 2)) (B := λ (_ : Unit) => False) ?_ (λ z hz => ?_) (λ _ h => h.elim)
 ·unfold Adf
  refine c3 (λ hk => cF ?_) (λ hk => cF ?_)
  ·simp only [db] at hk ⊢; omega
  ·simp only [de, ne_eq] at hk
   simp only [db]; omega
 refine c3 (λ hq => Ok.pure λ hk => ?_) (λ hq => ?_)
 ·have := hz.1 hq
  have hk := (Kc b _ _).1 hk
  exact ⟨λ _ => hk, λ e => by omega, λ e => by omega, λ e => by omega⟩
 have hn12 : ¬ (a.Kind = 1 \/ a.Kind = 2) := λ e => by rw [hz.2 e] at hq; cases hq
 refine Ok.andThen (A := λ z => z = true ↔ (a.Kind = 3 \/ a.Kind = 4)) (B := λ (_ : Unit) => False) ?_ (λ z hz => ?_) (λ _ h => h.elim)
 ·unfold Ade
  refine c3 (λ hk => cF ?_) (λ hk => cF ?_)
  ·simp only [db] at hk ⊢; omega
  ·simp only [de, ne_eq] at hk
   simp only [db]; omega
 refine c3 (λ hq => Ok.pure λ hk => ?_) (λ hq => ?_)
 ·have := hz.1 hq
  have hk := (Kc b _ _).1 hk
  exact ⟨λ e => by omega, λ _ => hk, λ e => by omega, λ e => by omega⟩
 have hn34 : ¬ (a.Kind = 3 \/ a.Kind = 4) := λ e => by rw [hz.2 e] at hq; cases hq
 refine c3 (λ hq => Ok.pure λ hk => ?_) (λ hq5 => c3 (λ hq => Ok.pure λ _ => ?_) (λ hq6 => c3 (λ hq => Ok.pure λ hk => ?_) (λ hq8 => c3 (λ hq => Ok.pure λ hk => ?_) (λ hq9 => Ok.pure λ _ => ?_))))
 ·simp only [db] at hq
  have hk := (Kc b _ _).1 hk
  exact ⟨λ e => by omega, λ e => by omega, λ _ => hk, λ e => by omega⟩
 ·simp only [db] at hq
  exact ⟨λ e => by omega, λ e => by omega, λ e => by omega, λ e => by omega⟩
 ·have hk := (Kc b _ _).1 hk
  simp only [db] at hq
  exact ⟨λ e => by omega, λ e => by omega, λ e => by omega, λ _ => hk⟩
 ·have hk := (Kc b _ _).1 hk
  simp only [db] at hq
  exact ⟨λ e => by omega, λ e => by omega, λ e => by omega, λ _ => hk⟩
 ·simp only [de, ne_eq] at hq5 hq8 hq9
  exact ⟨λ e => by omega, λ e => by omega, λ e => by omega, λ e => by omega⟩
theorem Ay7 {b : Aa} (h : Aw b) {p : Ab} (hp : Ay b p) {t : Int} (ht : 0 <= t /\ t <= 2147483648) {a : An} (hk : 1 <= a.Kind /\ a.Kind <= 9)
  (hw : ((a.Kind = 1 \/ a.Kind = 2) -> Bv b ⟨2, a.Unit⟩) /\ ((a.Kind = 3 \/ a.Kind = 4) -> Bv b ⟨1, a.Unit⟩) /\ (a.Kind = 5 -> Bv b ⟨4, a.Unit⟩) /\ ((a.Kind = 8 \/ a.Kind = 9) -> Bv b ⟨a.Value, a.Unit⟩)) : Ok (N2 ⟨b, p, t⟩ a) (Rx b) := by
 obtain ⟨w1, w2, w3, w4⟩ := hw
 unfold Bv at w2 w3
 dsimp only at w2 w3
 unfold N2
 refine c3 (λ _ => (Aru h hp _).bind λ y hy => Ok.pure hy) (λ q1 => ?_)
 refine c3 (λ _ => (At5 h hp _).bind λ y hy => Ok.pure hy) (λ q2 => ?_)
 refine c3 (λ _ => (Aq2 h hp _ _).bind λ y hy => Ok.pure hy) (λ q6 => ?_)
 refine c3 (λ q => ?_) (λ q3 => ?_)
 ·simp only [db] at q
  exact (Aql h hp ht (by omega) (by omega)).bind λ y hy => Ok.pure hy
 refine c3 (λ q => ?_) (λ q4 => ?_)
 ·simp only [db] at q
  exact (At0 h hp (by omega) (by omega)).bind λ y hy => Ok.pure hy
 refine c3 (λ q => ?_) (λ q5 => ?_)
 ·simp only [db] at q
  exact (Aq7 hp (by omega) (by omega)).bind λ y hy => Ok.pure hy
 refine c3 (λ _ => (Att h hp t).bind λ y hy => Ok.pure (.inr hy)) (λ q7 => ?_)
 simp only [de, ne_eq] at q1 q2 q3 q4 q5 q6 q7
 exact (Aum h hp t (w4 (by omega)) _).bind λ y hy => Ok.pure hy
theorem Axs {b : Aa} (h : Aw b) {p : Ab} (hp : Ay b p) (t : Int) (a : An) : Ok (F27 b p t a) λ y => (y.2 ≠ 0 /\ y.1 = Awi) \/ (y.2 = 0 /\ Ay b y.1) := by
 unfold F27
 rw [B6 h hp, Ea h hp]
 simp only [ab]
 refine c3 (λ hc => by simp at hc) (λ _ => c3 (λ _ => Ok.pure (.inl ⟨by simp, rfl⟩)) (λ hr => ?_))
 simp only [uH, aQ, da] at hr
 refine (Ara a).bind λ y hy => c3 (λ _ => Ok.pure (.inl ⟨by simp, rfl⟩)) (λ hk => ?_)
 simp only [bY] at hk
 refine (Ay7 h hp (by omega) (by omega) (hy hk)).bind λ z hz => c3 (λ hc => Ok.pure (.inl ⟨by simpa using hc, rfl⟩)) (λ hc => ?_)
 simp only [dh] at hc
 rcases hz with hz | hz
 ·exact absurd hc hz
 ·exact Ok.pure (.inr ⟨rfl, hz⟩)
theorem Ax3 {b : Aa} (h : Aw b) {s : Ag} (hs : Bh s) : Ok (Wp s b) λ y => Bh y.2 := by
 have hbu := h.buses
 have hbl := h.brl
 have hso := h.sol
 have hco := h.col
 unfold Wp
 refine (Kq hs 1 9 (by omega) (by omega) (by omega)).bind λ y hy => ?_
 refine Ok.andThen (A := λ _ => True) (B := λ (_ : Unit) => False) ?_ (λ z _ => ?_) (λ _ h => h.elim)
 ·unfold T0
  exact c3 (λ _ => cF trivial) (λ _ => cF trivial)
 refine c3 (λ _ => ?_) (λ _ => ?_)
 ·exact (Qb hy.1 _ (by rw [A7 (by omega)]; omega)).bind λ u hu => Ok.pure hu.1
 refine Ok.andThen (A := λ _ => True) (B := λ (_ : Unit) => False) ?_ (λ z _ => ?_) (λ _ h => h.elim)
 ·unfold Tz
  exact c3 (λ _ => cF trivial) (λ _ => cF trivial)
 refine c3 (λ _ => ?_) (λ _ => c3 (λ _ => ?_) (λ _ => c3 (λ _ => ?_) (λ _ => c3 (λ _ => ?_) (λ _ => c3 (λ _ => ?_) (λ _ => Ok.pure hy.1)))))
 ·exact (Qb hy.1 _ (by rw [A7 (by omega)]; omega)).bind λ u hu => Ok.pure hu.1
 ·exact (Qb hy.1 _ (by rw [A7 (by omega)]; omega)).bind λ u hu => (Ep hu.1 _ (by simp) (by simp)).bind λ v hv => Ok.pure hv.1
 ·exact (Qb hy.1 _ (by rw [A7 (by omega)]; omega)).bind λ u hu => (Qb hu.1 _ (by rw [A7 (by omega)]; omega)).bind λ v hv => Ok.pure hv.1
 ·exact (Kq hy.1 1 4 (by omega) (by omega) (by omega)).bind λ u hu => (Qb hu.1 _ (by omega)).bind λ v hv => Ok.pure hv.1
 ·exact (Kq hy.1 1 4 (by omega) (by omega) (by omega)).bind λ u hu => (Qb hu.1 _ (by omega)).bind λ v hv => Ok.pure hv.1
abbrev Cq := List (Af × Bool)
def Tie (L : Cq) (i j : Nat) : Prop := ∃ z, z ∈ L /\ z.1.Kind = 1 /\ z.2 = true /\ ((z.1.A.toNat = i /\ z.1.B.toNat = j) \/ (z.1.A.toNat = j /\ z.1.B.toNat = i))
theorem Tie.symm {L : Cq} {i j : Nat} (h : Tie L i j) : Tie L j i := by
 obtain ⟨z, h1, h2, h3, h4⟩ := h
 exact ⟨z, h1, h2, h3, h4.symm⟩
inductive Ce (L : Cq) (i : Nat) : Nat -> Nat -> Prop
 | refl : Ce L i 0 i
 | stay {r j : Nat} : Ce L i r j -> Ce L i (r + 1) j
 | step {r j k : Nat} : Ce L i r j -> Tie L j k -> Ce L i (r + 1) k
def D2 (L : Cq) (i j : Nat) : Prop := ∃ r, Ce L i r j
theorem D2.refl (L : Cq) (i : Nat) : D2 L i i := ⟨0, .refl⟩
theorem D2.tie {L : Cq} {i j k : Nat} (h : D2 L i j) (t : Tie L j k) : D2 L i k := by
 obtain ⟨r, h⟩ := h; exact ⟨r + 1, h.step t⟩
theorem D2.trans {L : Cq} {i j k : Nat} (h : D2 L i j) (h2 : D2 L j k) : D2 L i k := by
 obtain ⟨r, h2⟩ := h2
 induction h2 with
 | refl => exact h
 | stay _ ih => exact ih
 | step _ t ih => exact ih.tie t
theorem D2.symm {L : Cq} {i j : Nat} (h : D2 L i j) : D2 L j i := by
 obtain ⟨r, h⟩ := h
 induction h with
 | refl => exact .refl L i
 | stay _ ih => exact ih
 | step _ t ih => exact (D2.tie (.refl L _) t.symm).trans ih
theorem Ce.le {L : Cq} {i j r s : Nat} (h : Ce L i r j) (hs : r <= s) : Ce L i s j := by
 induction s with
 | zero =>
  have : r = 0 := by omega
  subst this; exact h
 | succ s ih =>
  by_cases e : r = s + 1
  ·subst e; exact h
  ·exact (ih (by omega)).stay
open Classical in
noncomputable def cn (p : Nat -> Prop) : Nat -> Nat
 | 0 => 0
 | n + 1 => cn p n + if p n then 1 else 0
theorem Asv (p : Nat -> Prop) : ∀ n, cn p n <= n
 | 0 => aq _
 | n + 1 => by have := Asv p n; unfold cn; split <;> omega
theorem Yg {p q : Nat -> Prop} : ∀ n, (∀ k, k < n -> p k -> q k) -> cn p n <= cn q n
 | 0, _ => aq _
 | n + 1, h => by
  have := Yg n λ k hk => h k (by omega)
  have h1 := h n (by omega)
  unfold cn
  by_cases hp : p n
  ·rw [if_pos hp, if_pos (h1 hp)]; omega
  ·rw [if_neg hp]; split <;> omega
theorem Aih {p q : Nat -> Prop} : ∀ n, (∀ k, k < n -> p k -> q k) -> cn p n = cn q n -> ∀ k, k < n -> q k -> p k
 | 0, _, _, k, hk, _ => by omega
 | n + 1, h, e, k, hk, hq => by
  have hm := Yg n λ k hk => h k (by omega)
  have h1 := h n (by omega)
  unfold cn at e
  by_cases hp : p n
  ·rw [if_pos hp, if_pos (h1 hp)] at e
   by_cases ek : k = n
   ·subst ek; exact hp
   ·exact Aih n (λ k hk => h k (by omega)) (by omega) k (by omega) hq
  ·rw [if_neg hp] at e
   by_cases hqn : q n
   ·rw [if_pos hqn] at e; omega
   ·rw [if_neg hqn] at e
    by_cases ek : k = n
    ·subst ek; exact absurd hq hqn
    ·exact Aih n (λ k hk => h k (by omega)) (by omega) k (by omega) hq
def Wd (L : Cq) (n : Nat) : Prop := ∀ i j, Tie L i j -> i < n /\ j < n
theorem Ns {L : Cq} {n i j : Nat} (hL : Wd L n) (_ : i < n) (h : D2 L i j) : Ce L i n j := by
 have hst : ∃ r, r <= n /\ ∀ k, k < n -> Ce L i (r + 1) k -> Ce L i r k := by
  by_cases hex : ∃ r, r <= n /\ ∀ k, k < n -> Ce L i (r + 1) k -> Ce L i r k
  ·exact hex
  exfalso
  have hgrow : ∀ r, r <= n -> cn (Ce L i r) n < cn (Ce L i (r + 1)) n := by
   intro r hr
   have hm := Yg (p := Ce L i r) (q := Ce L i (r + 1)) n λ k _ h => h.stay
   rcases Nat.lt_or_eq_of_le hm with h | h
   ·exact h
   ·exact absurd ⟨r, hr, Aih n (λ k _ h => h.stay) h⟩ hex
  have hge : ∀ r, r <= n + 1 -> r <= cn (Ce L i r) n := by
   intro r
   induction r with
   | zero => intro _; omega
   | succ r ih => intro hr; have := ih (by omega); have := hgrow r (by omega); omega
  have h1 := hge (n + 1) (aq _)
  have h2 := Asv (Ce L i (n + 1)) n
  omega
 obtain ⟨r, hr, hs⟩ := hst
 obtain ⟨s, h⟩ := h
 have key : ∀ s k, Ce L i s k -> Ce L i r k := by
  intro s k h
  induction h with
  | refl => exact Ce.refl.le (by omega)
  | stay _ ih => exact ih
  | step h0 t ih => exact hs _ (hL _ _ t).2 (ih.step t)
 exact (key s j h).le hr
def B9 (b : Aa) (p : Ab) : Cq := b.Ad.zip p.Ah
theorem Xb {b : Aa} (h : Aw b) (p : Ab) : Wd (B9 b p) b.Ao.toNat := by
 rintro i j ⟨z, hz, hk, _, he⟩
 have := h.br z.1 (bL hz).1
 unfold Fu at this
 omega
theorem Awf {s : List Int} {i : Nat} (h : i < s.length) : s[i]? = some (s.getD i 0) := by
 rw [af h]; simp [List.getD, List.getElem?_eq_getElem h]
theorem Pp {s : List Int} {z : Af × Bool} {i : Nat} (hi : i < s.length) : (Cx s z).getD i 0 = if (z.1.Kind = 1 /\ z.2 = true) /\ (i = z.1.A.toNat \/ i = z.1.B.toNat) then min (s.getD z.1.A.toNat 0) (s.getD z.1.B.toNat 0) else s.getD i 0 := by
 unfold Cx
 by_cases hk : z.1.Kind = 1 /\ z.2 = true
 ·rw [if_pos hk]
  by_cases hB : i = z.1.B.toNat
  ·rw [if_pos ⟨hk, .inr hB⟩]
   simp [List.getD, ← hB, hi]
  ·by_cases hA : i = z.1.A.toNat
   ·rw [if_pos ⟨hk, .inl hA⟩]
    have h1 : ¬ z.1.B.toNat = i := λ e => hB e.symm
    simp only [List.getD, aG h1]
    rw [← hA, bE hi]; rfl
   ·rw [if_neg (λ e => e.2.elim hA hB)]
    have h1 : ¬ z.1.B.toNat = i := λ e => hB e.symm
    have h2 : ¬ z.1.A.toNat = i := λ e => hA e.symm
    simp only [List.getD, aG h1, aG h2]
 ·rw [if_neg hk, if_neg (λ e => hk e.1)]
def Lab (L : Cq) (s : List Int) : Prop := ∀ i, i < s.length -> D2 L (s.getD i 0).toNat i
theorem Am3 {L : Cq} {s : List Int} (h : Lab L s) {z : Af × Bool} (hz : z ∈ L) (hr : z.1.Kind = 1 -> z.1.A.toNat < s.length /\ z.1.B.toNat < s.length) : Lab L (Cx s z) := by
 intro i hi
 rw [Dj] at hi
 rw [Pp hi]
 split
 ·rename_i hc
  obtain ⟨⟨hk, hv⟩, hab⟩ := hc
  obtain ⟨ha, hb⟩ := hr hk
  have tAB : Tie L z.1.A.toNat z.1.B.toNat := ⟨z, hz, hk, hv, .inl ⟨rfl, rfl⟩⟩
  have c1 := h _ ha
  have c2 := h _ hb
  rcases Int.le_total (s.getD z.1.A.toNat 0) (s.getD z.1.B.toNat 0) with e | e
  ·rw [Int.min_eq_left e]
   rcases hab with rfl | rfl
   ·exact c1
   ·exact c1.tie tAB
  ·rw [Int.min_eq_right e]
   rcases hab with rfl | rfl
   ·exact c2.tie tAB.symm
   ·exact c2
 ·exact h i hi
theorem Nk {L : Cq} {n : Nat} : ∀ (l : Cq) (s : List Int), s.length = n -> (∀ z, z ∈ l -> z ∈ L /\ (z.1.Kind = 1 -> z.1.A.toNat < n /\ z.1.B.toNat < n)) -> Lab L s -> Lab L (B4 l s)
 | [], _, _, _, h => h
 | z :: l, s, hs, hz, h => Nk l (Cx s z) (by rw [Dj]; exact hs) (λ y hy => hz y (ai _ hy)) (Am3 h (hz z ak).1 (by rw [hs]; exact (hz z ak).2))
theorem Pq {s : List Int} (z : Af × Bool) {i : Nat} (hi : i < s.length) : (Cx s z).getD i 0 <= s.getD i 0 := by
 rw [Pp hi]
 split
 ·rename_i hc
  rcases hc.2 with rfl | rfl
  ·exact Int.min_le_left _ _
  ·exact Int.min_le_right _ _
 ·exact Int.le_refl _
theorem Nl : ∀ (l : Cq) (s : List Int) {i : Nat}, i < s.length -> (B4 l s).getD i 0 <= s.getD i 0
 | [], _, _, _ => Int.le_refl _
 | z :: l, s, i, hi => Int.le_trans (Nl l (Cx s z) (by rw [Dj]; exact hi)) (Pq z hi)
theorem Vn : ∀ (l : Cq) (s : List Int) {z : Af × Bool}, z ∈ l -> z.1.Kind = 1 -> z.2 = true -> z.1.A.toNat < s.length -> z.1.B.toNat < s.length -> ∀ i, i = z.1.A.toNat \/ i = z.1.B.toNat -> (B4 l s).getD i 0 <= min (s.getD z.1.A.toNat 0) (s.getD z.1.B.toNat 0)
 | [], _, _, h, _, _, _, _, _, _ => by cases h
 | y :: l, s, z, hz, hk, hv, ha, hb, i, hi => by
  show (B4 l (Cx s y)).getD i 0 <= _
  have hil : i < s.length := by rcases hi with rfl | rfl <;> assumption
  by_cases e : z = y
  ·subst e
   refine Int.le_trans (Nl l _ (by rw [Dj]; exact hil)) ?_
   rw [Pp hil, if_pos ⟨⟨hk, hv⟩, hi⟩]
   exact Int.le_refl _
  ·have hz' : z ∈ l := by
    rcases ag.1 hz with h | h
    ·exact absurd h e
    ·exact h
   refine Int.le_trans (Vn l (Cx s y) hz' hk hv (by rw [Dj]; exact ha) (by rw [Dj]; exact hb) i hi) ?_
   have h1 := Pq y ha
   have h2 := Pq y hb
   omega
theorem Pb {n i : Nat} (h : i < n) : (Cp n).getD i 0 = (i : Int) := by
 simp [Cp, List.getD, List.getElem?_range h]
theorem Ah4 {L : Cq} {n : Nat} (hL : Wd L n) : ∀ r i j, i < n -> j < n -> Ce L j r i -> ((List.range r).foldl (λ s _ => B4 L s) (Cp n)).getD i 0 <= (j : Int) := by
 intro r
 have hlen : ∀ r, ((List.range r).foldl (λ s _ => B4 L s) (Cp n)).length = n := by
  intro r
  induction r with
  | zero => simp [Cp]
  | succ r ih => rw [bo, aP]; simp only [be, List.foldl_nil, Eo]; exact ih
 induction r with
 | zero =>
  intro i j hi hj h
  cases h
  show (Cp n).getD i 0 <= _
  rw [Pb hi]
  exact Int.le_refl _
 | succ r ih =>
  intro i j hi hj h
  have hrl := hlen r
  rw [bo, aP]
  simp only [be, List.foldl_nil]
  generalize (List.range r).foldl (λ s _ => B4 L s) (Cp n) = s at *
  cases h with
  | stay h => exact Int.le_trans (Nl L s (by omega)) (ih i j hi hj h)
  | step h t =>
   rename_i k
   have hk := hL _ _ t
   have h1 := ih k j hk.1 hj h
   obtain ⟨z, hz, hz1, hz2, he⟩ := t
   have hA : z.1.A.toNat < s.length := by omega
   have hB : z.1.B.toNat < s.length := by omega
   have h2 := Vn L s hz hz1 hz2 hA hB i (by omega)
   rcases he with ⟨e1, e2⟩ | ⟨e1, e2⟩
   ·rw [e1] at h2; omega
   ·rw [e2] at h2; omega
theorem Nj {b : Aa} (h : Aw b) (p : Ab) {i j : Nat} (hi : i < b.Ao.toNat) (hj : j < b.Ao.toNat) : (groups b p).getD i 0 = (groups b p).getD j 0 ↔ D2 (B9 b p) i j := by
 have hL := Xb h p
 have hlen := Gy b p
 have hlab : Lab (B9 b p) (groups b p) := by
  have hz : ∀ z, z ∈ B9 b p -> z ∈ B9 b p /\ (z.1.Kind = 1 -> z.1.A.toNat < b.Ao.toNat /\ z.1.B.toNat < b.Ao.toNat) := by
   intro z hz
   refine ⟨hz, λ hk => ?_⟩
   have := h.br z.1 (bL hz).1
   unfold Fu at this
   omega
  have key : ∀ (xs : List Nat) (s : List Int), s.length = b.Ao.toNat -> Lab (B9 b p) s -> Lab (B9 b p) (xs.foldl (λ s _ => B4 (b.Ad.zip p.Ah) s) s) := by
   intro xs
   induction xs with
   | nil => intro s _ h; exact h
   | cons x xs ih => intro s hl h; exact ih _ (by rw [Eo]; exact hl) (Nk _ s hl hz h)
  refine key _ _ (by simp [Cp]) ?_
  intro k hk
  have hk' : k < b.Ao.toNat := by simpa [Cp] using hk
  rw [Pb hk']
  exact .refl _ k
 have hlow : ∀ i j, i < b.Ao.toNat -> j < b.Ao.toNat -> D2 (B9 b p) j i -> (groups b p).getD i 0 <= (j : Int) := λ i j hi hj hc => Ah4 hL _ i j hi hj (Ns hL hj hc)
 have hlo := Pr h p
 have hrange : ∀ i, i < b.Ao.toNat -> 0 <= (groups b p).getD i 0 /\ ((groups b p).getD i 0).toNat < b.Ao.toNat := by
  intro i hi
  have := hlo i _ (Awf (by omega))
  omega
 constructor
 ·intro e
  have c1 := hlab i (by omega)
  have c2 := hlab j (by omega)
  rw [e] at c1
  exact c1.symm.trans c2
 ·intro hc
  have r1 := hrange i hi
  have r2 := hrange j hj
  have c1 := hlab i (by omega)
  have c2 := hlab j (by omega)
  have l1 := hlow j _ hj r1.2 (c1.trans hc)
  have l2 := hlow i _ hi r2.2 (c2.trans hc.symm)
  omega
def Ez (s : List Bool) (z : Af × Bool) : List Bool :=
 if (z.1.Kind = 1 /\ z.2 = true) /\ (s.getD z.1.A.toNat false || s.getD z.1.B.toNat false) = true then (s.set z.1.A.toNat true).set z.1.B.toNat true else s
theorem D9 (s : List Bool) (z : Af × Bool) : (Ez s z).length = s.length := by unfold Ez; split <;> simp
def Fe (L : Cq) (s : List Bool) : List Bool := L.foldl Ez s
theorem Ja : ∀ (l : Cq) (s : List Bool), (Fe l s).length = s.length
 | [], _ => rfl
 | z :: l, s => by show (Fe l (Ez s z)).length = _; rw [Ja l, D9]
theorem Aqn {s : List Bool} {m i : Nat} (hi : i < s.length) : (s.set m true).getD i false = (decide (m = i) || s.getD i false) := by
 by_cases e : m = i
 ·subst e; simp [List.getD, hi]
 ·simp [List.getD, List.getElem?_set_ne e, e]
theorem Iy {s : List Bool} {z : Af × Bool} {i : Nat} (hi : i < s.length) : (Ez s z).getD i false = true ↔ s.getD i false = true \/ (((z.1.Kind = 1 /\ z.2 = true) /\ (s.getD z.1.A.toNat false || s.getD z.1.B.toNat false) = true) /\ (i = z.1.A.toNat \/ i = z.1.B.toNat)) := by
 unfold Ez
 split
 ·rename_i hc
  rw [Aqn (by simpa using hi), Aqn hi, aD, aD, decide_eq_true_iff, decide_eq_true_iff]
  constructor
  ·rintro (e | e | e)
   ·exact .inr ⟨hc, .inr e.symm⟩
   ·exact .inr ⟨hc, .inl e.symm⟩
   ·exact .inl e
  ·rintro (e | ⟨_, e | e⟩)
   ·exact .inr (.inr e)
   ·exact .inr (.inl e.symm)
   ·exact .inl e.symm
 ·rename_i hc
  exact ⟨.inl, λ e => e.elim id λ e => absurd e.1 hc⟩
def Got (L : Cq) (n : Nat) (s : List Bool) : Prop := ∀ i, i < s.length -> s.getD i false = true -> D2 L n i
theorem Amp {L : Cq} {n : Nat} {s : List Bool} (h : Got L n s) {z : Af × Bool} (hz : z ∈ L) (hr : z.1.Kind = 1 -> z.1.A.toNat < s.length /\ z.1.B.toNat < s.length) : Got L n (Ez s z) := by
 intro i hi e
 rw [D9] at hi
 rcases (Iy hi).1 e with e | ⟨⟨⟨hk, hv⟩, ho⟩, hab⟩
 ·exact h i hi e
 ·obtain ⟨ha, hb⟩ := hr hk
  have t : Tie L z.1.A.toNat z.1.B.toNat := ⟨z, hz, hk, hv, .inl ⟨rfl, rfl⟩⟩
  simp only [aD] at ho
  rcases ho with ho | ho
  ·have c := h _ ha ho
   rcases hab with rfl | rfl
   ·exact c
   ·exact c.tie t
  ·have c := h _ hb ho
   rcases hab with rfl | rfl
   ·exact c.tie t.symm
   ·exact c
theorem U6 {L : Cq} {n m : Nat} : ∀ (l : Cq) (s : List Bool), s.length = m -> (∀ z, z ∈ l -> z ∈ L /\ (z.1.Kind = 1 -> z.1.A.toNat < m /\ z.1.B.toNat < m)) -> Got L n s -> Got L n (Fe l s)
 | [], _, _, _, h => h
 | z :: l, s, hs, hz, h => U6 l (Ez s z) (by rw [D9]; exact hs) (λ y hy => hz y (ai _ hy)) (Amp h (hz z ak).1 (by rw [hs]; exact (hz z ak).2))
theorem M2 : ∀ (l : Cq) (s : List Bool) {i : Nat}, i < s.length -> s.getD i false = true -> (Fe l s).getD i false = true
 | [], _, _, _, h => h
 | z :: l, s, _, hi, h => M2 l (Ez s z) (by rw [D9]; exact hi) ((Iy hi).2 (.inl h))
theorem U5 : ∀ (l : Cq) (s : List Bool) {z : Af × Bool}, z ∈ l -> z.1.Kind = 1 -> z.2 = true -> z.1.A.toNat < s.length -> z.1.B.toNat < s.length -> (s.getD z.1.A.toNat false || s.getD z.1.B.toNat false) = true -> ∀ i, i = z.1.A.toNat \/ i = z.1.B.toNat -> (Fe l s).getD i false = true
 | [], _, _, h, _, _, _, _, _, _, _ => by cases h
 | y :: l, s, z, hz, hk, hv, ha, hb, ho, i, hi => by
  show (Fe l (Ez s y)).getD i false = true
  have hil : i < s.length := by rcases hi with rfl | rfl <;> assumption
  by_cases e : z = y
  ·subst e
   exact M2 l _ (by rw [D9]; exact hil) ((Iy hil).2 (.inr ⟨⟨⟨hk, hv⟩, ho⟩, hi⟩))
  ·have hz' : z ∈ l := by
    rcases ag.1 hz with h | h
    ·exact absurd h e
    ·exact h
   refine U5 l (Ez s y) hz' hk hv (by rw [D9]; exact ha) (by rw [D9]; exact hb) ?_ i hi
   simp only [aD] at ho ⊢
   exact ho.imp (λ e => (Iy ha).2 (.inl e)) (λ e => (Iy hb).2 (.inl e))
def Iz (L : Cq) (r : Nat) (s : List Bool) : List Bool := (List.range r).foldl (λ s _ => Fe L s) s
theorem Il (L : Cq) (r : Nat) (s : List Bool) : Iz L (r + 1) s = Fe L (Iz L r s) := by
 unfold Iz; rw [bo, aP]; rfl
theorem Gj (L : Cq) (s : List Bool) : ∀ r, (Iz L r s).length = s.length
 | 0 => rfl
 | r + 1 => by rw [Il, Ja, Gj L s r]
theorem Ag6 {L : Cq} {n m : Nat} (hL : Wd L m) {s : List Bool} (hs : s.length = m) (hn : s.getD n false = true) : ∀ r i, i < m -> Ce L n r i -> (Iz L r s).getD i false = true := by
 intro r
 induction r with
 | zero => intro i _ h; cases h; exact hn
 | succ r ih =>
  intro i hi h
  rw [Il]
  have hl := Gj L s r
  cases h with
  | stay h => exact M2 L _ (by omega) (ih i hi h)
  | step h t =>
   rename_i k
   have hk := hL _ _ t
   have h1 := ih k hk.1 h
   obtain ⟨z, hz, hz1, hz2, he⟩ := t
   refine U5 L _ hz hz1 hz2 (by omega) (by omega) ?_ i (by omega)
   rcases he with ⟨e1, _⟩ | ⟨_, e2⟩
   ·rw [e1, h1]; rfl
   ·rw [e2, h1]; simp
def Hd (b : Aa) (p : Ab) (n : Nat) : List Int := ((List.range b.Ao.toNat).filter λ i => (groups b p).getD i 0 == (groups b p).getD n 0).map λ (i : Nat) => (i : Int)
theorem Aqq {b : Aa} (h : Aw b) {p : Ab} (hp : Ay b p) {n : Nat} (hn : n < b.Ao.toNat) : F98 b p (n : Int) = some (Hd b p n) := by
 have hbu := h.buses
 have hbl := h.brl
 have hncl := hp.ncl
 have hL := Xb h p
 refine cC ?_
 unfold F98
 refine (Ok.mkI (by omega) (by omega)).bind λ y hy => ?_
 have hyl : y.length = b.Ao.toNat := by rw [hy]; simp
 refine (cD (by omega) (by omega)).bind λ _ _ => (c9 (by omega) (by omega)).bind λ z hz => ?_
 rw [ar] at hz
 have hzl : z.length = b.Ao.toNat := by rw [hz]; simpa using hyl
 have hzn : z.getD n false = true := by rw [hz]; simp [List.getD, hyl, hn]
 have hzg : Got (B9 b p) n z := by
  intro i hi e
  have hiy : i < y.length := by omega
  rw [hz, Aqn hiy] at e
  simp only [aD, cZ] at e
  rcases e with e | e
  ·subst e; exact .refl _ _
  ·rw [hy] at e; simp [List.getD, show i < b.Ao.toNat by omega] at e
 clear hz
 refine Ok.andThen (A := λ s => s = Iz (B9 b p) b.Ao.toNat z) (B := λ (_ : Unit) => False) ?_ (λ s hs => ?_) (λ _ h => h.elim)
 ·refine c5 (I := λ j s => s = Iz (B9 b p) j z) rfl (λ j x s hx hs => ?_) λ s hs => by rw [hs, hzl]
  unfold Acz
  have hsl : s.length = b.Ao.toNat := by rw [hs, Gj, hzl]
  refine (c5 (I := λ k r => r = Fe ((B9 b p).take k) s) (A := λ r => r = Fe (B9 b p) s) (B := λ (_ : Unit) => False) rfl (λ k u r hu hr => ?_) λ r hr => ?_).inner (λ r hr => c4 (by rw [hr, hs, Il])) (λ _ h => h.elim)
  ·have hk := (aa.1 hu).1
   have hcnt : cnt 0 k = (k : Int) := C1 (by omega)
   have hrl : r.length = b.Ao.toNat := by rw [hr, Ja, hsl]
   obtain ⟨⟨a0, a1⟩, hkind⟩ := h.br u (ae hu)
   obtain ⟨v, hv⟩ : ∃ v, p.Ah[k]? = some v := ⟨_, af (by omega)⟩
   have hzk : (B9 b p)[k]? = some (u, v) := by unfold B9; rw [List.getElem?_zip_eq_some]; exact ⟨hu, hv⟩
   have hnext : Fe ((B9 b p).take (k + 1)) s = Ez r (u, v) := by
    rw [Bj hzk, Fe, aP, hr]; rfl
   rw [hnext]
   have hB : u.Kind = 1 -> 0 <= u.B /\ u.B < b.Ao := λ e => by omega
   unfold Acy
   rw [hcnt, Ba hv]
   by_cases k1 : u.Kind = 1
   ·have h2 := hB k1
    obtain ⟨ga, hga⟩ : ∃ ga, r[u.A.toNat]? = some ga := ⟨_, af (by omega)⟩
    obtain ⟨gb, hgb⟩ : ∃ gb, r[u.B.toNat]? = some gb := ⟨_, af (by omega)⟩
    have hda : r.getD u.A.toNat false = ga := by simp [List.getD, hga]
    have hdb : r.getD u.B.toNat false = gb := by simp [List.getD, hgb]
    have ea : getI r u.A = some ga := by have := Ba hga; rwa [aU a0] at this
    have eb : getI r u.B = some gb := by have := Ba hgb; rwa [aU h2.1] at this
    rw [db.2 k1]
    refine Ok.bind (P := λ w => w = v) (c6 (λ _ => Ok.pure rfl) λ hn => (hn ⟨rfl, trivial⟩).elim) λ w hw => ?_
    subst hw
    cases w with
    | false =>
     refine Ok.bind (P := λ _ => True) (cE (λ _ => cD a0 (by omega)) λ _ => trivial) λ _ _ => ?_
     refine Ok.bind (P := λ _ => True) (cE (λ _ => cD h2.1 (by omega)) λ _ => trivial) λ _ _ => ?_
     refine c3 (λ hq => by simp [V7] at hq) (λ _ => c4 ?_)
     unfold Ez
     rw [if_neg (by simp)]
    | true =>
     rw [ea, eb]
     refine Ok.bind (P := λ w => w = ga) (c6 (λ _ => Ok.pure rfl) λ hn => (hn ⟨rfl, trivial⟩).elim) λ w hw => ?_
     subst hw
     refine Ok.bind (P := λ x => (w || x) = (w || gb)) (c6 (λ _ => Ok.pure rfl) λ hn => ?_) λ x hx => ?_
     ·cases w with
      | true => rfl
      | false => exact (hn ⟨rfl, rfl, trivial⟩).elim
     have hc8 : V7 u true w x = (w || gb) := by
      unfold V7
      rw [hx, db.2 k1]; rfl
     rw [hc8]
     refine c3 (λ hq => ?_) (λ hq => c4 ?_)
     ·refine Ok.bind (P := λ _ => True) (cL rfl) λ _ _ => (c9 a0 (by omega)).bind λ r1 e1 => ?_
      refine (cD h2.1 (by rw [e1]; simp; omega)).bind λ _ _ => (c9 h2.1 (by rw [e1]; simp; omega)).bind λ r2 e2 => c4 ?_
      rw [e2, e1]
      unfold Ez
      rw [if_pos ⟨⟨k1, rfl⟩, by rw [hda, hdb]; exact hq⟩]
     ·unfold Ez
      rw [if_neg (λ e => by have := e.2; rw [hda, hdb, hq] at this; cases this)]
   ·have k0 : (u.Kind == 1) = false := de.2 k1
    rw [k0]
    refine Ok.bind (P := λ _ => True) (c6 (λ hg => absurd hg.1 (by simp)) λ _ => trivial) λ y7 _ => ?_
    refine Ok.bind (P := λ _ => True) (c6 (λ hg => absurd hg.1 (by simp)) λ _ => trivial) λ y9 _ => ?_
    refine Ok.bind (P := λ _ => True) (c6 (λ hg => absurd hg.1 (by simp)) λ _ => trivial) λ y11 _ => ?_
    refine c3 (λ hq => by simp [V7, k0] at hq) (λ _ => c4 ?_)
    unfold Ez
    rw [if_neg (λ e => k1 e.1.1)]
  ·have : b.Ad.length = (B9 b p).length := by unfold B9; rw [List.length_zip]; omega
   rw [hr, this, aH]
 ·have hsl : s.length = b.Ao.toNat := by rw [hs, Gj, hzl]
  have hval : ∀ i, i < b.Ao.toNat -> s.getD i false = ((groups b p).getD i 0 == (groups b p).getD n 0) := by
   intro i hi
   rw [bj, db, Nj h p hi hn]
   have hg : ∀ r, Got (B9 b p) n (Iz (B9 b p) r z) := by
    intro r
    induction r with
    | zero => exact hzg
    | succ r ih =>
     rw [Il]
     refine U6 (m := b.Ao.toNat) _ _ (by rw [Gj, hzl]) (λ y hy => ⟨hy, λ hk => ?_⟩) ih
     have := h.br y.1 (bL hy).1
     unfold Fu at this
     omega
   constructor
   ·intro e
    rw [hs] at e
    exact (hg _ i (by rw [Gj, hzl]; exact hi) e).symm
   ·intro c
    rw [hs]
    exact Ag6 hL hzl hzn _ i hi (Ns hL hn c.symm)
  refine Ok.andThen (A := λ y => y = Hd b p n) (B := λ (_ : Unit) => False) ?_ (λ y hy => Ok.pure hy) (λ _ h => h.elim)
  refine c5 (I := λ j y => y = ((List.range j).filter λ i => (groups b p).getD i 0 == (groups b p).getD n 0).map λ (i : Nat) => (i : Int)) rfl (λ j x y hx hy => ?_) λ y hy => ?_
  ·have hj := (aa.1 hx).1
   have hcnt : cnt 0 j = (j : Int) := C1 (by omega)
   have hv := hval j (by omega)
   have hxd : s.getD j false = x := by simp [List.getD, hx]
   rw [hxd] at hv
   have hyl2 : y.length <= j := by rw [hy]; exact C6 _ j
   rw [D4, ← hy]
   unfold Acx
   refine c3 (λ hq => ?_) (λ hq => c4 ?_)
   ·refine (cw (by simp; omega)).bind λ w hw => c4 ?_
    rw [hw, hcnt, if_pos (by rw [← hv]; exact hq)]
   ·rw [if_neg (by rw [← hv, hq]; simp), aF]
  ·rw [hy, hsl]; rfl
def ofZ (b : Aa) (k i : Int) : List (Af × Nat) := b.Ad.zipIdx.filter λ z => z.1.Kind == k && z.1.B == i
theorem Ahi {b : Aa} {k : Int} (hk : k ≠ 1) (i : Int) : (ofL b λ x => Hr k i x) = (ofZ b k i).map λ z => (z.2 : Int) := by
 unfold ofL ofZ
 congr 1
 exact ck λ z _ => Aqr k hk i z.1
theorem Qy {b : Aa} {k i : Int} {z : Af × Nat} (h : z ∈ ofZ b k i) : b.Ad[z.2]? = some z.1 := by
 have := (aw.1 h).1
 rwa [bz] at this
theorem vE (q : Af -> Bool) (C : List Bool) : ∀ (l : List Af) (c : List Bool) (k : Nat), C.drop k = c -> l.length = c.length ->
  (((l.zipIdx k).filter λ z => q z.1).find? λ z => C.getD z.2 false).map (·.1) = ((l.zip c).find? λ z => q z.1 && z.2).map (·.1)
 | [], _, _, _, _ => by simp
 | x :: l, [], _, _, h => by simp at h
 | x :: l, v :: c, k, hd, h => by
  have hv : C[k]? = some v := by
   have := congrArg (·[0]?) hd
   simpa [List.getElem?_drop] using this
  have hd' : C.drop (k + 1) = c := by rw [← bV, hd]; rfl
  have ih := vE q C l c (k + 1) hd' (by simpa using h)
  have hg : C.getD k false = v := by simp [List.getD, hv]
  simp only [List.zipIdx_cons, ba, bn, cg]
  cases hq : q x with
  | false => simpa only [Bool.false_and, bJ, if_false] using ih
  | true =>
   simp only [if_true, cg, hg, aO]
   cases v with
   | false => exact ih
   | true => rfl
theorem Aao {b : Aa} {p : Ab} (hc : p.Ah.length = b.Ad.length) (k i : Int) : Dr b p k i = ((ofZ b k i).find? λ z => p.Ah.getD z.2 false).map (·.1.A) := by
 have := vE (λ x => x.Kind == k && x.B == i) p.Ah b.Ad p.Ah 0 rfl (by omega)
 unfold Dr ofZ
 have h2 := congrArg (Option.map (·.A)) this
 simp only [Option.map_map] at h2
 exact h2.symm
theorem V1 {b : Aa} {p : Ab} (hc : p.Ah.length = b.Ad.length) {k i : Int} {z : Af × Nat} (h : z ∈ ofZ b k i) : p.Ah[z.2]? = some (p.Ah.getD z.2 false) := by
 have := (aa.1 (Qy h)).1
 rw [af (by omega)]
 simp [List.getD, List.getElem?_eq_getElem (show z.2 < p.Ah.length by omega)]
theorem Yf {b : Aa} (h : Aw b) {p : Ab} (hp : Ay b p) (i : Int) : F52 b p i = some (Ew (Ey b p i)) := by
 have hn := hp.nso
 have hc := hp.ncl
 refine cC ?_
 unfold F52
 rw [G1 h hp]
 simp only [ab]
 by_cases hi : 0 <= i /\ i < b.Ac.length
 ·obtain ⟨x, hx⟩ : ∃ x, p.Ac[i.toNat]? = some x := ⟨_, af (by omega)⟩
  have hg : getI p.Ac i = some x := by have := Ba hx; rwa [aU hi.1] at this
  have hd : p.Ac.getD i.toNat default = x := by simp [List.getD, hx]
  have hcond : ((((0 : Int) != 0) || (decide (i < 0))) || (decide (i >= (b.Ac.length : Int)))) = false := by
   rw [cj]; intro e; simp at e; omega
  rw [hcond, hg]
  refine Ok.bind (P := λ y => y = x) (c6 (λ _ => Ok.pure rfl) λ hn => (hn ⟨rfl, trivial⟩).elim) λ y hy => ?_
  subst hy
  refine c3 (λ hq => Ok.pure ?_) (λ hq => ?_)
  ·simp only [uG, hcond, aM, bne_iff_ne, ne_eq] at hq
   unfold Ey
   rw [if_neg (λ e => by rw [hd] at e; exact hq e.2.2)]; rfl
  ·simp only [uG, hcond, aM, dh] at hq
   have hcon : Ey b p i = Dr b p 2 i := by
    unfold Ey
    rw [if_pos ⟨hi.1, by omega, by rw [hd]; exact hq⟩]
   rw [Xt h, Ahi (by decide), hcon, Aao hc]
   simp only [ab]
   obtain ⟨n, rfl⟩ : ∃ n : Nat, i = (n : Int) := ⟨i.toNat, by omega⟩
   have hlen := Xs (b := b) (k := 2) (by decide) n
   rw [Ahi (by decide), h.one n (by omega), au] at hlen
   obtain ⟨z, hz⟩ := List.length_eq_one_iff.1 hlen
   have hzm : z ∈ ofZ b 2 (n : Int) := by rw [hz]; exact ak
   have hcz := V1 hc hzm
   have hbz := Qy hzm
   rw [hz]
   show Ok ((getI [(z.2 : Int)] 0).bind _) _
   rw [show getI [(z.2 : Int)] 0 = some (z.2 : Int) from rfl]
   simp only [ab, Ba hcz, cg, List.find?_nil]
   cases hv : p.Ah.getD z.2 false with
   | false => exact Ok.pure rfl
   | true =>
    simp only [aZ, cond_false, Ba hbz, ab]
    exact Ok.pure rfl
 ·refine Ok.bind (P := λ _ => True) (c6 (λ hg => ?_) λ _ => trivial) λ y _ => ?_
  ·have := hg.1
   simp at this; omega
  refine c3 (λ hq => Ok.pure ?_) (λ hq => ?_)
  ·unfold Ey
   rw [if_neg (λ e => hi (by omega))]; rfl
  ·simp [uG] at hq; omega
theorem Arn {b : Aa} (h : Aw b) {p : Ab} (hp : Ay b p) {i : Int} (h0 : 0 <= i) (h1 : i < b.Ai.length) : F13 b p i = some (Ew (Dr b p 3 i)) := by
 have hc := hp.ncl
 refine cC ?_
 unfold F13
 rw [G1 h hp]
 simp only [ab]
 refine c3 (λ hq => ?_) (λ _ => ?_)
 ·simp [Atd] at hq; omega
 rw [Xt h, Ahi (by decide), Aao hc]
 simp only [ab]
 have key : ∀ (m : List (Af × Nat)) (k : Nat), (∀ z, z ∈ m -> b.Ad[z.2]? = some z.1 /\ p.Ah[z.2]? = some (p.Ah.getD z.2 false)) ->
   foldI (W7 b p) (m.map λ z => (z.2 : Int)) k () = match m.find? λ z => p.Ah.getD z.2 false with
    | some z => some (.ret (z.1.A, true))
    | none => some (.next ()) := by
  intro m
  induction m with
  | nil => intro k _; rfl
  | cons z m ih =>
   intro k hm
   obtain ⟨e1, e2⟩ := hm z ak
   simp only [bI, foldI, W7, Ba e1, Ba e2, ab, cg]
   cases p.Ah.getD z.2 false with
   | true => rfl
   | false => exact ih (k + 1) λ y hy => hm y (ai _ hy)
 rw [key _ 0 λ z hz => ⟨Qy hz, V1 hc hz⟩]
 cases (ofZ b 3 i).find? λ z => p.Ah.getD z.2 false with
 | none => exact Ok.pure rfl
 | some z => exact Ok.pure rfl
theorem Vm (l : List Int) (x : Int) : F53 l x = some (l.any (· == x)) := by
 unfold F53
 have : ∀ (l : List Int) (k : Nat), foldI (Wq x) l k () = bif l.any (· == x) then some (.ret true) else some (.next ()) := by
  intro l
  induction l with
  | nil => intro k; rfl
  | cons y l ih =>
   intro k
   simp only [foldI, Wq, List.any_cons]
   cases hy : (y == x) with
   | true => rfl
   | false => simp only [cond_false, aM]; exact ih (k + 1)
 rw [this]
 cases l.any (· == x) <;> rfl
theorem yR {b : Aa} {p : Ab} {n : Nat} {a : Int} (h0 : 0 <= a) (h1 : a < b.Ao) : (Hd b p n).any (· == a) = ((groups b p).getD a.toNat 0 == (groups b p).getD n 0) := by
 rw [bj, cm]
 constructor
 ·rintro ⟨x, hx, e⟩
  rw [db] at e; subst e
  obtain ⟨i, hi, rfl⟩ := ao.1 hx
  rw [ar]
  exact (aw.1 hi).2
 ·intro e
  refine ⟨a, ao.2 ⟨a.toNat, aw.2 ⟨aK.2 (by omega), e⟩, by omega⟩, by simp⟩
theorem Gd {b : Aa} (h : Aw b) (p : Ab) {n : Nat} (hn : n < b.Ao.toNat) : 0 <= (groups b p).getD n 0 /\ ((groups b p).getD n 0).toNat <= n /\ (((groups b p).getD n 0).toNat : Int) = (groups b p).getD n 0 := by
 have := Pr h p n _ (Awf (by rw [Gy]; exact hn))
 omega
theorem Qz {b : Aa} (h : Aw b) {p : Ab} (hp : Ay b p) {n : Nat} (hn : n < b.Ao.toNat) : F50 b p (n : Int) = some (isl b p ((groups b p).getD n 0).toNat, true) := by
 have hso := h.sol
 have hco := h.col
 have hg := Gd h p hn
 refine cC ?_
 unfold F50
 rw [G1 h hp]
 simp only [ab]
 refine c3 (λ hc => ?_) (λ _ => ?_)
 ·simp [As9] at hc; omega
 rw [Aqq h hp hn]
 simp only [ab]
 refine Ok.andThen (A := λ s => s.2 = Dt b p b.Ac.length ((groups b p).getD n 0).toNat) (B := λ (_ : Unit) => False) ?_ (λ s hs => ?_) (λ _ h => h.elim)
 ·refine c8 (λ s => (0 <= s.1 /\ s.1 <= (b.Ac.length : Int)) /\ s.2 = Dt b p s.1.toNat ((groups b p).getD n 0).toNat) (λ s => ((b.Ac.length : Int) - s.1).toNat) _ _ ?_ ?_ ?_
  ·exact ⟨by dsimp only; omega, rfl⟩
  ·dsimp only; omega
  ·rintro ⟨i, s⟩ ⟨⟨g1, g2⟩, g3⟩
   dsimp only at g1 g2 g3
   unfold Adi As8
   dsimp only
   have hsl : s.length <= i.toNat := by rw [g3]; exact C6 _ _
   refine c3 (λ hq => ?_) (λ hq => cA ?_)
   ·simp only [cZ] at hq
    have e1 : w64 (i + 1) = i + 1 := A7 (by omega)
    have e2 : (i + 1).toNat = i.toNat + 1 := by omega
    have e3 : ((i.toNat : Nat) : Int) = i := by omega
    rw [e1, Yf h hp]
    simp only [ab, Vm]
    have hnext : Dt b p (i.toNat + 1) ((groups b p).getD n 0).toNat = s ++ if (E0 b p (Ey b p i) == some (((groups b p).getD n 0).toNat : Int)) = true then [i] else [] := by
     unfold Dt at g3 ⊢
     rw [D4, ← g3, e3]
    have hskip : (E0 b p (Ey b p i) == some (((groups b p).getD n 0).toNat : Int)) = false -> Ok (some (.next (i + 1, s)) : Option (Ctl (Int × List Int) Unit)) (Gn (λ s' => ((0 <= s'.1 /\ s'.1 <= (b.Ac.length : Int)) /\ s'.2 = Dt b p s'.1.toNat ((groups b p).getD n 0).toNat) /\ ((b.Ac.length : Int) - s'.1).toNat < ((b.Ac.length : Int) - i).toNat) (λ s => s.2 = Dt b p b.Ac.length ((groups b p).getD n 0).toNat) (λ _ => False)) := by
     intro hf
     refine c4 ⟨⟨by dsimp only; omega, ?_⟩, by dsimp only; omega⟩
     dsimp only
     rw [e2, hnext, hf]; simp
    cases hco : Ey b p i with
    | none =>
     refine Ok.bind (P := λ _ => True) (c6 (λ hg => absurd hg.1 (by simp [Ew])) λ _ => trivial) λ y _ => ?_
     refine c3 (λ hq => by simp [Ew] at hq) (λ _ => hskip (by rw [hco]; rfl))
    | some a =>
     have ha := Th h hco
     refine Ok.bind (P := λ y => y = (Hd b p n).any (· == a)) (c6 (λ _ => Ok.pure rfl) λ hn => (hn ⟨rfl, trivial⟩).elim) λ y hy => ?_
     rw [yR ha.1 ha.2] at hy
     have hgr : (E0 b p (Ey b p i) == some (((groups b p).getD n 0).toNat : Int)) = ((groups b p).getD a.toNat 0 == (groups b p).getD n 0) := by
      rw [hco, hg.2.2]; rfl
     refine c3 (λ hq => ?_) (λ hq => ?_)
     ·simp only [Ew, aO] at hq
      refine (cw (by simp; omega)).bind λ w hw => c4 ⟨⟨by dsimp only; omega, ?_⟩, by dsimp only; omega⟩
      dsimp only
      rw [e2, hnext, hgr, ← hy, hq, hw]; rfl
     ·simp only [Ew, aO] at hq
      exact hskip (by rw [hgr, ← hy, hq])
   ·simp only [da] at hq
    dsimp only
    rw [g3]
    have : i.toNat = b.Ac.length := by omega
    rw [this]
 ·refine Ok.andThen (A := λ s => s.2 = Gf b p b.Ai.length ((groups b p).getD n 0).toNat) (B := λ (_ : Unit) => False) ?_ (λ t ht => Ok.pure ?_) (λ _ h => h.elim)
  ·refine c8 (λ s => (0 <= s.1 /\ s.1 <= (b.Ai.length : Int)) /\ s.2 = Gf b p s.1.toNat ((groups b p).getD n 0).toNat) (λ s => ((b.Ai.length : Int) - s.1).toNat) _ _ ?_ ?_ ?_
   ·exact ⟨by dsimp only; omega, rfl⟩
   ·dsimp only; omega
   ·rintro ⟨i, s⟩ ⟨⟨g1, g2⟩, g3⟩
    dsimp only at g1 g2 g3
    unfold Adh As7
    dsimp only
    have hsl : s.length <= i.toNat := by rw [g3]; exact C6 _ _
    refine c3 (λ hq => ?_) (λ hq => cA ?_)
    ·simp only [cZ] at hq
     have e1 : w64 (i + 1) = i + 1 := A7 (by omega)
     have e2 : (i + 1).toNat = i.toNat + 1 := by omega
     have e3 : ((i.toNat : Nat) : Int) = i := by omega
     rw [e1, Arn h hp g1 hq]
     simp only [ab, Vm]
     have hnext : Gf b p (i.toNat + 1) ((groups b p).getD n 0).toNat = s ++ if (E0 b p (Dr b p 3 i) == some (((groups b p).getD n 0).toNat : Int)) = true then [i] else [] := by
      unfold Gf at g3 ⊢
      rw [D4, ← g3, e3]
     have hskip : (E0 b p (Dr b p 3 i) == some (((groups b p).getD n 0).toNat : Int)) = false -> Ok (some (.next (i + 1, s)) : Option (Ctl (Int × List Int) Unit)) (Gn (λ s' => ((0 <= s'.1 /\ s'.1 <= (b.Ai.length : Int)) /\ s'.2 = Gf b p s'.1.toNat ((groups b p).getD n 0).toNat) /\ ((b.Ai.length : Int) - s'.1).toNat < ((b.Ai.length : Int) - i).toNat) (λ s => s.2 = Gf b p b.Ai.length ((groups b p).getD n 0).toNat) (λ _ => False)) := by
      intro hf
      refine c4 ⟨⟨by dsimp only; omega, ?_⟩, by dsimp only; omega⟩
      dsimp only
      rw [e2, hnext, hf]; simp
     cases hco : Dr b p 3 i with
     | none =>
      refine Ok.bind (P := λ _ => True) (c6 (λ hg => absurd hg.1 (by simp [Ew])) λ _ => trivial) λ y _ => ?_
      refine c3 (λ hq => by simp [Ew] at hq) (λ _ => hskip (by rw [hco]; rfl))
     | some a =>
      have ha := S7 h hco
      refine Ok.bind (P := λ y => y = (Hd b p n).any (· == a)) (c6 (λ _ => Ok.pure rfl) λ hn => (hn ⟨rfl, trivial⟩).elim) λ y hy => ?_
      rw [yR ha.1 ha.2] at hy
      have hgr : (E0 b p (Dr b p 3 i) == some (((groups b p).getD n 0).toNat : Int)) = ((groups b p).getD a.toNat 0 == (groups b p).getD n 0) := by
       rw [hco, hg.2.2]; rfl
      refine c3 (λ hq => ?_) (λ hq => ?_)
      ·simp only [Ew, aO] at hq
       refine (cw (by simp; omega)).bind λ w hw => c4 ⟨⟨by dsimp only; omega, ?_⟩, by dsimp only; omega⟩
       dsimp only
       rw [e2, hnext, hgr, ← hy, hq, hw]; rfl
      ·simp only [Ew, aO] at hq
       exact hskip (by rw [hgr, ← hy, hq])
    ·simp only [da] at hq
     dsimp only
     rw [g3]
     have : i.toNat = b.Ai.length := by omega
     rw [this]
  ·rw [hs, ht]
   unfold isl Dm Hd
   rw [hg.2.2]
def Gb (b : Aa) (p : Ab) (f : Nat) : Bool := (groups b p).getD f 0 == (f : Int)
theorem Ib {b : Aa} (h : Aw b) (p : Ab) {n : Nat} (hn : n < b.Ao.toNat) : Gb b p ((groups b p).getD n 0).toNat = true := by
 have hg := Gd h p hn
 unfold Gb
 rw [db, hg.2.2]
 have hm : ((groups b p).getD n 0).toNat < b.Ao.toNat := by omega
 have hL := Xb h p
 have hself : D2 (B9 b p) ((groups b p).getD n 0).toNat n := by
  have hlab : ∀ (xs : List Nat) (s : List Int), s.length = b.Ao.toNat -> Lab (B9 b p) s -> Lab (B9 b p) (xs.foldl (λ s _ => B4 (b.Ad.zip p.Ah) s) s) := by
   intro xs
   induction xs with
   | nil => intro s _ h; exact h
   | cons x xs ih =>
    intro s hl h2
    refine ih _ (by rw [Eo]; exact hl) (Nk _ s hl (λ z hz => ⟨hz, λ hk => ?_⟩) h2)
    have := h.br z.1 (bL hz).1
    unfold Fu at this
    omega
  refine hlab (List.range b.Ao.toNat) (Cp b.Ao.toNat) (by simp [Cp]) ?_ n ?_
  ·intro k hk
   rw [Pb (by simpa [Cp] using hk)]
   exact .refl _ k
  ·have := Gy b p
   unfold groups at this
   rw [this]; exact hn
 exact (Nj h p hm hn).2 hself
theorem Arl {b : Aa} (h : Aw b) (p : Ab) {f : Nat} (hf : f < b.Ao.toNat) : G4 (isl b p f) = Gb b p f := by
 rw [bj]
 unfold G4 isl Dm
 simp only [aV, de, ne_eq, au]
 constructor
 ·intro e
  have hne : (List.range b.Ao.toNat).filter (λ i => (groups b p).getD i 0 == (f : Int)) ≠ [] := λ e2 => e (by rw [e2]; rfl)
  obtain ⟨i, hi⟩ := List.exists_mem_of_ne_nil _ hne
  obtain ⟨h1, h2⟩ := aw.1 hi
  rw [db] at h2
  have := Ib h p (aK.1 h1)
  rw [h2, ar] at this
  exact this
 ·intro e e2
  have hm : f ∈ (List.range b.Ao.toNat).filter (λ i => (groups b p).getD i 0 == (f : Int)) := aw.2 ⟨aK.2 hf, e⟩
  have := List.length_pos_iff.2 (List.ne_nil_of_mem hm)
  omega
def K9 (b : Aa) (p : Ab) (n : Nat) : List Nat := (List.range n).filter (Gb b p)
theorem Ob {b : Aa} (h : Aw b) (p : Ab) : Cb b p = (K9 b p b.Ao.toNat).map (isl b p) := by
 unfold Cb K9
 rw [List.filter_map]
 congr 1
 exact ck λ f hf => Arl h p (aK.1 hf)
theorem Akz {b : Aa} (h : Aw b) (p : Ab) {n : Nat} (hn : n < b.Ao.toNat) : ∃ m : Nat, (Hd b p n)[0]? = some (m : Int) /\ (m = n ↔ Gb b p n = true) := by
 have hg := Gd h p hn
 have hm : ((groups b p).getD n 0).toNat < b.Ao.toNat := by omega
 have hgg := Ib h p hn
 unfold Gb at hgg
 rw [db, hg.2.2] at hgg
 have hfind : (List.range b.Ao.toNat).find? (λ i => (groups b p).getD i 0 == (groups b p).getD n 0) = some ((groups b p).getD n 0).toNat := by
  rw [List.find?_range_eq_some]
  refine ⟨by rw [db]; exact hgg, aK.2 hm, λ j hj => ?_⟩
  simp only [aV, de, ne_eq]
  intro e
  have := Gd h p (n := j) (by omega)
  omega
 refine ⟨((groups b p).getD n 0).toNat, ?_, ?_⟩
 ·unfold Hd
  rw [az, ← List.head?_eq_getElem?, List.head?_filter, hfind]; rfl
 ·unfold Gb
  rw [db]; omega
theorem Pm {b : Aa} (h : Aw b) {p : Ab} (hp : Ay b p) : F21 b p = some (Cb b p) := by
 have hbu := h.buses
 rw [Ob h]
 refine cC ?_
 unfold F21
 rw [G1 h hp]
 simp only [ab]
 refine c3 (λ hc => by simp at hc) (λ _ => ?_)
 refine Ok.andThen (A := λ s => s.2 = (K9 b p b.Ao.toNat).map (isl b p)) (B := λ (_ : Unit) => False) ?_ (λ s hs => Ok.pure hs) (λ _ h => h.elim)
 refine c8 (λ s => (0 <= s.1 /\ s.1 <= b.Ao) /\ s.2 = (K9 b p s.1.toNat).map (isl b p)) (λ s => (b.Ao - s.1).toNat) _ _ ?_ ?_ ?_
 ·exact ⟨by dsimp only; omega, rfl⟩
 ·dsimp only; omega
 ·rintro ⟨i, s⟩ ⟨⟨g1, g2⟩, g3⟩
  dsimp only at g1 g2 g3
  unfold Adx
  dsimp only
  refine c3 (λ hq => ?_) (λ hq => cA ?_)
  ·simp only [cZ] at hq
   obtain ⟨n, rfl⟩ : ∃ n : Nat, i = (n : Int) := ⟨i.toNat, by omega⟩
   have hn : n < b.Ao.toNat := by omega
   have e1 : w64 ((n : Int) + 1) = (n : Int) + 1 := A7 (by omega)
   have e2 : ((n : Int) + 1).toNat = n + 1 := by omega
   have hg := Gd h p hn
   obtain ⟨m, hm, hmn⟩ := Akz h p hn
   have hbuses : (isl b p ((groups b p).getD n 0).toNat).Ao = Hd b p n := by
    unfold isl Dm Hd
    rw [hg.2.2]
   rw [ar] at g3
   have hsl : s.length <= n := by
    rw [g3, au]
    exact ay (bi _ _) (by simp)
   have hnext : K9 b p (n + 1) = K9 b p n ++ if Gb b p n = true then [n] else [] := by
    unfold K9
    rw [bo, bv]
    congr 1
    cases hq : Gb b p n <;> simp [hq]
   rw [e1, Qz h hp hn]
   simp only [ab, hbuses]
   have hg0 : getI (Hd b p n) 0 = some (m : Int) := Ba (j := 0) hm
   rw [hg0]
   simp only [ab]
   refine c3 (λ hq => ?_) (λ hq => c4 ⟨⟨by dsimp only; omega, ?_⟩, by dsimp only; omega⟩)
   ·simp only [db] at hq
    have hle := hmn.1 (by omega)
    refine (cw (by simp; omega)).bind λ w hw => c4 ⟨⟨by dsimp only; omega, ?_⟩, by dsimp only; omega⟩
    dsimp only
    have hgn : ((groups b p).getD n 0).toNat = n := by
     unfold Gb at hle
     rw [db] at hle; omega
    rw [e2, hnext, if_pos hle, hw, g3, bB, hgn]; rfl
   ·simp only [de, ne_eq] at hq
    have hle : ¬ Gb b p n = true := λ e => hq (by rw [hmn.2 e])
    dsimp only
    rw [e2, hnext, if_neg hle, aF, g3]
  ·simp only [da] at hq
   dsimp only
   have : i.toNat = b.Ao.toNat := by omega
   rw [g3, this]
theorem Aev {b : Aa} (h : Aw b) {p : Ab} (hp : Ay b p) : Zb b p = some (⟨p.Ah, E9 b p, p.As, p.Ak⟩, 0) := by
 have hn := hp.nso
 refine cC ?_
 unfold Zb
 rw [G1 h hp]
 simp only [ab]
 refine c3 (λ hc => by simp at hc) (λ _ => ?_)
 refine Ok.bind (P := λ y => y = ⟨p.Ah, E9 b p, p.As, p.Ak⟩) ?_ λ y hy => Ok.pure (by rw [hy])
 unfold Akg
 rw [Ye h hp, Pm h hp]
 simp only [ab]
 refine Ok.andThen (A := λ s => s = E9 b p) (B := λ (_ : Unit) => False) ?_ (λ s hs => Ok.pure (by rw [hs])) (λ _ h => h.elim)
 refine c5 (I := λ j s => s = ((Cb b p).take j).foldl (Dl p) p.Ac) rfl (λ j x s hx hs => ?_) λ s hs => ?_
 ·have hi := Q9 (ae hx)
  have hl : s.length = p.Ac.length := by rw [hs, Iq]
  have hnext : ((Cb b p).take (j + 1)).foldl (Dl p) p.Ac = Dl p s x := by rw [Bj hx, aP, ← hs]; rfl
  rw [hnext]
  unfold Y4
  cases hsrc : x.Ac with
  | nil => exact c4 (by unfold Dl; rw [hsrc])
  | cons m l =>
   have hm := hi m (by rw [hsrc]; exact ak)
   obtain ⟨u, hu⟩ : ∃ u, p.Ac[m.toNat]? = some u := ⟨_, af (by omega)⟩
   have hgu : getI p.Ac m = some u := by have := Ba hu; rwa [aU hm.1] at this
   have hd : p.Ac.getD m.toNat default = u := by simp [List.getD, hu]
   have hf : Dl p s x = F1 u (m :: l) s := by unfold Dl; rw [hsrc]; simp only [hd]
   rw [hf]
   have hin : ∀ k, k ∈ m :: l -> 0 <= k /\ k < p.Ac.length := λ k hk => by
    have := hi k (by rw [hsrc]; exact hk)
    omega
   refine (c5 (I := λ k r => r = F1 u ((m :: l).take k) s) (A := λ r => r = F1 u (m :: l) s) (B := λ (_ : Unit) => False) rfl (λ k n r hk hr => ?_) λ r hr => by rw [hr, aH]).inner (λ r hr => c4 hr) (λ _ h => h.elim)
   have hnk := hin n (ae hk)
   have hrl : r.length = p.Ac.length := by rw [hr, Fo, hl]
   unfold Y3
   rw [hsrc, show getI (m :: l) 0 = some m from rfl]
   simp only [ab, hgu]
   refine (c7 hnk.1 (by omega)).bind λ v hv => (c9 hnk.1 (by omega)).bind λ r1 e1 => ?_
   have hvg : r1[n.toNat]? = some (⟨v.State, v.Since, u.Ar, v.Phase⟩ : Ae) := by rw [e1, bE (by omega)]
   refine Ok.bind (P := λ w => w = (⟨v.State, v.Since, u.Ar, v.Phase⟩ : Ae)) ((c7 hnk.1 (by rw [e1]; simp; omega)).mono λ w hw => by rw [hvg] at hw; cases hw; rfl) λ w hw => ?_
   refine (c9 hnk.1 (by rw [e1]; simp; omega)).bind λ r2 e2 => c4 ?_
   have hdv : r.getD n.toNat default = v := by simp [List.getD, hv]
   rw [Zp hk, ← hr, hdv, e2, e1, hw, List.set_set]; rfl
 ·rw [aH] at hs; exact hs
theorem Aaw {ss : List Ae} {m n : Nat} {y : Ae} : (ss.set m y).getD n default = if m = n /\ m < ss.length then y else ss.getD n default := by
 unfold List.getD
 rw [al]
 by_cases e : m = n
 ·subst e
  by_cases hl : m < ss.length
  ·simp [hl]
  ·simp [hl]
 ·simp [e]
theorem Jl (Cr : Ae) : ∀ (idx : List Int) (ss : List Ae) (n : Nat), ((F1 Cr idx ss).getD n default).State = (ss.getD n default).State
 | [], _, _ => rfl
 | i :: idx, ss, n => by
  show ((F1 Cr idx _).getD n default).State = _
  rw [Jl Cr idx, Aaw]
  split
  ·rename_i e; rw [← e.1]; rfl
  ·rfl
theorem Aeu (p : Ab) (s : List Ae) (x : Aj) (n : Nat) : ((Dl p s x).getD n default).State = (s.getD n default).State := by
 unfold Dl
 split
 ·rfl
 ·exact Jl _ _ _ _
theorem qV (b : Aa) (p : Ab) (n : Nat) : ((E9 b p).getD n default).State = (p.Ac.getD n default).State := by
 have key : ∀ (l : List Aj) (s : List Ae), ((l.foldl (Dl p) s).getD n default).State = (s.getD n default).State := by
  intro l
  induction l with
  | nil => intro s; rfl
  | cons x l ih => intro s; rw [be, ih, Aeu]
 exact key _ _
theorem At1 {b : Aa} {p : Ab} {f : Nat} {i : Int} : i ∈ (isl b p f).Ac ↔ ∃ k : Nat, i = (k : Int) /\ k < b.Ac.length /\ E0 b p (Ey b p (k : Int)) = some (f : Int) := by
 constructor
 ·intro h
  obtain ⟨k, hk, e⟩ := ao.1 h
  obtain ⟨h1, h2⟩ := aw.1 hk
  exact ⟨k, e.symm, aK.1 h1, by rwa [db] at h2⟩
 ·rintro ⟨k, e, h1, h2⟩
  exact ao.2 ⟨k, aw.2 ⟨aK.2 h1, by rw [db]; exact h2⟩, e.symm⟩
def Gx (b : Aa) (p : Ab) (n : Nat) : Bool := decide (((isl b p ((groups b p).getD n 0).toNat).Ac.length : Int) > 0)
theorem jA {b : Aa} (h : Aw b) {p : Ab} (hp : Ay b p) {n : Nat} (hn : n < b.Ao.toNat) : F14 b p (n : Int) = some (Gx b p n) := by
 unfold F14
 rw [Qz h hp hn]
 simp [Gx]
theorem An4 {b : Aa} {p : Ab} {n f : Nat} (hn : n < b.Ao.toNat) : (isl b p f).Ao.any ((n : Int) == ·) = ((groups b p).getD n 0 == (f : Int)) := by
 rw [bj, cm]
 constructor
 ·rintro ⟨x, hx, e⟩
  rw [db] at e; subst e
  obtain ⟨i, hi, e⟩ := ao.1 hx
  have : i = n := by omega
  subst this
  exact (aw.1 hi).2
 ·intro e
  exact ⟨n, ao.2 ⟨n, aw.2 ⟨aK.2 hn, e⟩, rfl⟩, by simp⟩
theorem of_eq {b : Aa} (h : Aw b) {p : Ab} (hp : Ay b p) {n : Nat} (hn : n < b.Ao.toNat) : Hv b p (n : Int) = some (isl b p ((groups b p).getD n 0).toNat, true) := by
 have hg := Gd h p hn
 have hbu := h.buses
 unfold Hv
 rw [Jo h hp, Ob h]
 simp only [ab]
 have key : ∀ (fs : List Nat) (k : Nat), foldI (J4 (n : Int)) (fs.map (isl b p)) k () = if ((groups b p).getD n 0).toNat ∈ fs then some (.ret (isl b p ((groups b p).getD n 0).toNat, true)) else some (.next ()) := by
  intro fs
  induction fs with
  | nil => intro k; rfl
  | cons f fs ih =>
   intro k
   have hbl : (isl b p f).Ao.length <= 9223372036854775807 := by
    have := C6 (λ i => (groups b p).getD i 0 == (f : Int)) b.Ao.toNat
    simp only [isl, Dm]
    omega
   simp only [bI, foldI, J4, Cf _ _ hbl, ab, An4 hn]
   by_cases e : (groups b p).getD n 0 = (f : Int)
   ·have e2 : ((groups b p).getD n 0).toNat = f := by omega
    rw [db.2 e, e2, if_pos ak]; rfl
   ·have e2 : ((groups b p).getD n 0).toNat ≠ f := by omega
    rw [de.2 e]
    simp only [cond_false]
    rw [ih]
    by_cases hm : ((groups b p).getD n 0).toNat ∈ fs
    ·rw [if_pos hm, if_pos (ai _ hm)]
    ·rw [if_neg hm, if_neg (λ hh => (ag.1 hh).elim e2 hm)]
 have hm : ((groups b p).getD n 0).toNat ∈ K9 b p b.Ao.toNat := aw.2 ⟨aK.2 (by omega), Ib h p hn⟩
 rw [key, if_pos hm]
 rfl
theorem Ls {p : Ab} (k n : Int) : F15 p k n = some (brk p.Ak k n) := by
 unfold F15 brk
 have : ∀ (l : List Al) (i : Nat), foldI (W5 k n) l i () = bif l.any (λ x => k == x.Kind && n == x.Number) then some (.ret true) else some (.next ()) := by
  intro l
  induction l with
  | nil => intro i; rfl
  | cons x l ih =>
   intro i
   simp only [foldI, W5, Atc, List.any_cons]
   have e : (x.Kind == k && x.Number == n) = (k == x.Kind && n == x.Number) := by
    rw [bj]; simp only [ac, db]; omega
   rw [e]
   cases (k == x.Kind && n == x.Number) with
   | true => rfl
   | false => simp only [cond_false, aM]; exact ih (i + 1)
 rw [this]
 cases p.Ak.any λ x => k == x.Kind && n == x.Number <;> rfl
theorem Tf {b : Aa} {i : Nat} (h : i < b.Ai.length) : b.Ai[i]? = some (b.Ai.getD i default) := by
 rw [af h]; simp [List.getD, List.getElem?_eq_getElem h]
theorem Afw {p : Ab} {i : Nat} (h : i < p.As.length) : p.As[i]? = some (p.As.getD i 0) := by
 rw [af h]; simp [List.getD, List.getElem?_eq_getElem h]

theorem jM {b : Aa} {p : Ab} (hp : Ay b p) {j : Nat} (hj : j < b.Ad.length) : p.Ah[j]? = some (p.Ah.getD j false) := by
 have := hp.ncl
 rw [af (by omega)]; simp [List.getD, List.getElem?_eq_getElem (show j < p.Ah.length by omega)]
theorem Gt {b : Aa} {j : Nat} {x : Af} (hx : b.Ad[j]? = some x) : b.Ad.getD j default = x := by simp [List.getD, hx]
def Dw (p : Ab) (x : Af) : Bool :=
 brk p.Ak 3 x.A || (if x.Kind = 1 then brk p.Ak 3 x.B else if x.Kind = 2 then brk p.Ak 1 x.B || ((p.Ac.getD x.B.toNat default).State != 2) else brk p.Ak 4 x.B)
def Cj (b : Aa) (C : List Bool) (q : Af -> Bool) (n : Nat) : List Int := ((List.range n).filter λ i => C.getD i false && q (b.Ad.getD i default)).map λ (i : Nat) => (i : Int)
theorem Jp {b : Aa} {C : List Bool} {q : Af -> Bool} {n : Nat} {i : Int} : i ∈ Cj b C q n ↔ ∃ k : Nat, i = (k : Int) /\ k < n /\ C.getD k false = true /\ q (b.Ad.getD k default) = true := by
 unfold Cj
 simp only [ao, aw, aK, ac]
 constructor
 ·rintro ⟨k, ⟨h1, h2, h3⟩, rfl⟩; exact ⟨k, rfl, h1, h2, h3⟩
 ·rintro ⟨k, rfl, h1, h2, h3⟩; exact ⟨k, ⟨h1, h2, h3⟩, rfl⟩
def C5 (C : List Bool) (l : List Int) : List Bool := l.foldl (λ c i => c.set i.toNat false) C
def Ayc (l : List Int) : List An := l.map λ i => ⟨2, i, 0⟩
theorem K4 : ∀ (l : List Int) (C : List Bool), (C5 C l).length = C.length
 | [], _ => rfl
 | i :: l, C => by
  show (C5 (C.set i.toNat false) l).length = _
  rw [K4 l]; simp
theorem U9 (C : List Bool) (l : List Int) (i : Int) : C5 C (l ++ [i]) = (C5 C l).set i.toNat false := by
 unfold C5; rw [aP]; rfl
theorem K5 : ∀ (l : List Int) (C : List Bool) (k : Nat), (C5 C l).getD k false = (C.getD k false && !l.any λ i => i.toNat == k)
 | [], _, _ => by simp [C5]
 | i :: l, C, k => by
  show (C5 (C.set i.toNat false) l).getD k false = _
  rw [K5 l]
  simp only [List.any_cons]
  by_cases e : i.toNat = k
  ·subst e
   have : (C.set i.toNat false).getD i.toNat false = false := by
    simp only [List.getD, al]
    by_cases hl : i.toNat < C.length
    ·simp [hl]
    ·simp [hl]
   rw [this]; simp
  ·have : (C.set i.toNat false).getD k false = C.getD k false := by
    simp only [List.getD, al, if_neg e]
   rw [this]
   have e2 : (i.toNat == k) = false := by simpa using e
   rw [e2, aM]
theorem Sz {b : Aa} : ∀ (l : List Int) {p : Ab}, Ay b p -> Ay b ⟨C5 p.Ah l, p.Ac, p.As, p.Ak⟩
 | [], _, hp => hp
 | i :: l, p, hp => Sz l (p := ⟨p.Ah.set i.toNat false, p.Ac, p.As, p.Ak⟩) (Ahg hp i.toNat)
def acA (b : Aa) (C : List Bool) (q : Af -> Bool) : List An := Ayc (Cj b C q b.Ad.length)
def acC (b : Aa) (C : List Bool) (q : Af -> Bool) : List Bool := C5 C (Cj b C q b.Ad.length)
theorem An8 {b : Aa} {p : Ab} (hp : Ay b p) (q : Af -> Bool) : Ay b ⟨acC b p.Ah q, p.Ac, p.As, p.Ak⟩ := Sz _ hp
theorem Aga (b : Aa) (C : List Bool) (q : Af -> Bool) {k : Nat} (hk : k < b.Ad.length) : (acC b C q).getD k false = (C.getD k false && !q (b.Ad.getD k default)) := by
 unfold acC
 rw [K5]
 cases hc : C.getD k false with
 | false => rfl
 | true =>
  rw [aO, aO]
  congr 1
  rw [bj, cm]
  constructor
  ·rintro ⟨i, hi, e⟩
   obtain ⟨m, rfl, _, _, hq⟩ := Jp.1 hi
   have : m = k := by simpa using e
   subst this; exact hq
  ·intro hq
   exact ⟨(k : Int), Jp.2 ⟨k, rfl, hk, hc, hq⟩, by simp⟩
theorem Vp {b : Aa} {C : List Bool} {q : Af -> Bool} {j : Nat} {x : Af} (hx : b.Ad[j]? = some x) : Cj b C q (j + 1) = Cj b C q j ++ if (C.getD j false && q x) = true then [(j : Int)] else [] := by
 unfold Cj
 rw [D4, Gt hx]
def E2 (b : Aa) (p : Ab) (x : Af) : Bool := x.Kind == 3 && !Gx b p x.A.toNat
def B2 (b : Aa) (p : Ab) : Ab := ⟨acC b p.Ah (Dw p), p.Ac, p.As, p.Ak⟩
def Yi (b : Aa) (p : Ab) : Ab := ⟨acC b (B2 b p).Ah (E2 b (B2 b p)), p.Ac, p.As, p.Ak⟩
def Ti (b : Aa) (p : Ab) : Ab := ⟨(Yi b p).Ah, E9 b (Yi b p), p.As, p.Ak⟩
def A08 (b : Aa) (p : Ab) : List An := acA b p.Ah (Dw p) ++ acA b (B2 b p).Ah (E2 b (B2 b p))
theorem Yj {b : Aa} {p : Ab} (hp : Ay b p) : Ay b (B2 b p) := An8 hp _
theorem Yh {b : Aa} {p : Ab} (hp : Ay b p) : Ay b (Yi b p) := An8 (Yj hp) _
theorem Aup {b : Aa} {p : Ab} (hp : Ay b p) : Ay b (Ti b p) := Ij (Yh hp) (Mb b _) (Vq (Yh hp))
def key (b : Aa) (c : Int) : Int := (b.Ai.getD c.toNat default).Bn * 100 + c
structure Srt (b : Aa) (n i : Nat) (d : List Int) : Prop where
 len : d.length = n
 low : ∀ k, k < i -> k < n -> 0 <= d.getD k 0 /\ d.getD k 0 < (i : Int)
 asc : ∀ k m, k < m -> m < i -> m < n -> key b (d.getD k 0) < key b (d.getD m 0)
 rest : ∀ k, i <= k -> k < n -> d.getD k 0 = (k : Int)
 mem : ∀ v, v < n -> ∃ k, k < n /\ d.getD k 0 = (v : Int)
structure Ins (b : Aa) (n i j : Nat) (d : List Int) : Prop where
 len : d.length = n
 here : d.getD j 0 = (i : Int)
 low : ∀ k, k <= i -> k ≠ j -> 0 <= d.getD k 0 /\ d.getD k 0 < (i : Int)
 asc : ∀ k m, k < m -> m <= i -> k ≠ j -> m ≠ j -> key b (d.getD k 0) < key b (d.getD m 0)
 big : ∀ k, j < k -> k <= i -> key b (i : Int) < key b (d.getD k 0)
 rest : ∀ k, i < k -> k < n -> d.getD k 0 = (k : Int)
 mem : ∀ v, v < n -> ∃ k, k < n /\ d.getD k 0 = (v : Int)
def Azo (b : Aa) : List Int := (F85 b).getD []
def Sf (L : List Int) (l : List Int) : Int := l.foldl (λ s c => s + L.getD c.toNat 0) 0
theorem Zj (L : List Int) (l : List Int) (c : Int) : Sf L (l ++ [c]) = Sf L l + L.getD c.toNat 0 := by
 unfold Sf; rw [aP]; rfl
def G3 (b : Aa) (p : Ab) (n : Nat) : Nat := ((groups b p).getD n 0).toNat
def Q6 (b : Aa) (p : Ab) (n : Nat) : Int := if 0 < (isl b p (G3 b p n)).Ac.length then Sf p.As (isl b p (G3 b p n)).Ai else 0
def uA (b : Aa) : List Int := b.Ac.map (·.Rating)
def Ahb (b : Aa) (p : Ab) (n : Nat) : Int := Sf (uA b) (isl b p (G3 b p n)).Ac
theorem Auc {b : Aa} {p : Ab} {f : Nat} {i : Int} (hi : i ∈ (isl b p f).Ai) : 0 <= i /\ i < b.Ai.length := by
 obtain ⟨k, hk, rfl⟩ := ao.1 hi
 have := aK.1 (aw.1 hk).1
 omega
theorem Aub {b : Aa} {p : Ab} {f : Nat} {i : Int} (hi : i ∈ (isl b p f).Ac) : 0 <= i /\ i < b.Ac.length := by
 obtain ⟨k, hk, rfl⟩ := ao.1 hi
 have := aK.1 (aw.1 hk).1
 omega
theorem Azt {b : Aa} (h : Aw b) {p : Ab} (hp : Ay b p) {c : Int} (h0 : 0 <= c) (h1 : c < b.Ai.length) : getI p.As c = some (p.As.getD c.toNat 0) /\ 0 <= p.As.getD c.toNat 0 /\ p.As.getD c.toNat 0 <= (b.Ai.getD c.toNat default).Load /\ p.As.getD c.toNat 0 <= 50000 := by
 have hn := hp.nli
 obtain ⟨k, rfl⟩ : ∃ k : Nat, c = (k : Int) := ⟨c.toNat, by omega⟩
 rw [ar]
 have hg := Tf (b := b) (i := k) (by omega)
 have hl := hp.lim k _ _ (Afw (p := p) (by omega)) hg
 have hc := (h.co k _ hg).1
 exact ⟨Ba (Afw (by omega)), hl.1, hl.2, by omega⟩
theorem A07 {b : Aa} {c : Int} (h0 : 0 <= c) (h1 : c < b.Ai.length) : getI b.Ai c = some (b.Ai.getD c.toNat default) := by
 obtain ⟨k, rfl⟩ : ∃ k : Nat, c = (k : Int) := ⟨c.toNat, by omega⟩
 rw [ar]
 exact Ba (Tf (by omega))
def X9 (b : Aa) (p : Ab) (n : Nat) : Int := max 0 (Q6 b p n - Ahb b p n)
def Mp (p : Ab) (L : List Int) : Ab := ⟨p.Ah, p.Ac, L, p.Ak⟩
def Gu (p : Ab) (C : List Bool) : Ab := ⟨C, p.Ac, p.As, p.Ak⟩
def Ah0 (b : Aa) (p : Ab) (n : Nat) (c : Int) : Int := min (X9 b p n) (p.As.getD c.toNat 0 - (b.Ai.getD c.toNat default).Least)
def Azr (b : Aa) (p : Ab) (n : Nat) (z : List Int × List An) (c : Int) : List Int × List An :=
 if 0 < Ah0 b (Mp p z.1) n c then (z.1.set c.toNat (z.1.getD c.toNat 0 - Ah0 b (Mp p z.1) n c), z.2 ++ [⟨5, c, z.1.getD c.toNat 0 - Ah0 b (Mp p z.1) n c⟩]) else z
def Azs (b : Aa) (p : Ab) (n : Nat) (l : List Int) (z : List Int × List An) : List Int × List An := l.foldl (Azr b p n) z
def isC (c : Int) (x : Af) : Bool := x.Kind == 3 && x.B == c
def Ax7 (b : Aa) (p : Ab) (n : Nat) (z : List Bool × List An) (c : Int) : List Bool × List An :=
 if 0 < p.As.getD c.toNat 0 /\ 0 < X9 b (Gu p z.1) n then (acC b z.1 (isC c), z.2 ++ acA b z.1 (isC c)) else z
def Ax8 (b : Aa) (p : Ab) (n : Nat) (l : List Int) (z : List Bool × List An) : List Bool × List An := l.foldl (Ax7 b p n) z
def Ass (x : Aj) (c : Int) : Bool := x.Ai.any (c == ·)
def Ahe (b : Aa) (x : Aj) : List Int := (Azo b).filter (Ass x)
def Yk (x : Aj) : Nat := (x.Ao.headD 0).toNat
def Aqp (b : Aa) (x : Aj) (z : Ab × List An) : List Int × List An := Azs b z.1 (Yk x) (Ahe b x) (z.1.As, z.2)
def Ava (b : Aa) (x : Aj) (z : Ab × List An) : List Bool × List An := Ax8 b (Mp z.1 (Aqp b x z).1) (Yk x) (Ahe b x) (z.1.Ah, (Aqp b x z).2)
def Azk (b : Aa) (z : Ab × List An) (x : Aj) : Ab × List An :=
 if 0 < x.Ac.length then (Gu (Mp z.1 (Aqp b x z).1) (Ava b x z).1, (Ava b x z).2) else z
def Azl (b : Aa) (l : List Aj) (z : Ab × List An) : Ab × List An := l.foldl (Azk b) z
structure Atr (b : Aa) (x : Aj) : Prop where
 cons : x.Ai.length <= 16
 ne : x.Ao ≠ []
 bus : ∀ n, n ∈ x.Ao -> 0 <= n /\ n < b.Ao
theorem Awc {b : Aa} (h : Aw b) {p : Ab} {x : Aj} (hx : x ∈ Cb b p) : Atr b x := by
 have hcl := h.col
 unfold Cb at hx
 obtain ⟨h1, h2⟩ := aw.1 hx
 obtain ⟨f, hf, rfl⟩ := ao.1 h1
 have hc : (isl b p f).Ai.length <= b.Ai.length := C6 _ _
 refine ⟨by omega, λ e => ?_, λ n hn => ?_⟩
 ·unfold G4 at h2
  rw [e] at h2; simp at h2
 ·obtain ⟨k, hk, rfl⟩ := ao.1 hn
  have := aK.1 (aw.1 hk).1
  omega
theorem Arx {b : Aa} {x : Aj} (hx : Atr b x) : getI x.Ao 0 = some ((Yk x : Nat) : Int) /\ Yk x < b.Ao.toNat := by
 unfold Yk
 cases hb : x.Ao with
 | nil => exact absurd hb hx.ne
 | cons n l =>
  have := hx.bus n (by rw [hb]; exact ak)
  simp only [List.headD_cons]
  refine ⟨?_, by omega⟩
  have e : (n.toNat : Int) = n := by omega
  rw [e]; rfl
def Azm (b : Aa) (p : Ab) : Ab × List An := Azl b (Cb b (Ti b p)) (Ti b p, A08 b p)
def Azn (b : Aa) (p : Ab) : Ab := (Azm b p).1
def Ig (b : Aa) (p : Ab) (t : Int) (a : An) : Ab × Int := (F27 b p t a).getD default
theorem Af9 {b : Aa} (h : Aw b) {p : Ab} (hp : Ay b p) (t : Int) (a : An) : F27 b p t a = some (Ig b p t a) /\ ((Ig b p t a).2 ≠ 0 \/ Ay b (Ig b p t a).1) := by
 obtain ⟨r, e, hr⟩ := Axs h hp t a
 have : Ig b p t a = r := by unfold Ig; rw [e]; rfl
 rw [this]
 exact ⟨e, hr.imp (·.1) (·.2)⟩
def A0j (b : Aa) (p : Ab) (t : Int) (a : An) : Int := if a.Kind = 7 then 1 else (Ig b p t a).2
def Azp (b : Aa) (p : Ab) (t : Int) (a : An) : Ab := (Ig b p t a).1
def doP (b : Aa) (p : Ab) (t : Int) (a : An) : Ab := if A0j b p t a = 0 then Azn b (Azp b p t a) else p

def Dq (b : Aa) (T : Int) (p : Ab) (l : List An) : Ab := l.foldl (λ q a => doP b q T a) p
theorem Ax2 {b : Aa} (h : Aw b) {s : Ag} (hs : Bh s) {k : Int} (hk : 0 <= k /\ k <= 100) : Ok (Wv s b k) λ y => (y.1.length : Int) <= k /\ Bh y.2 := by
 unfold Wv
 have e : w64 (k + 1) = k + 1 := A7 (by omega)
 rw [e]
 refine (Ei hs (k + 1) (by omega) (by omega)).bind λ y hy => ?_
 refine Ok.andThen (A := λ s => (s.2.2.2.length : Int) <= k /\ Bh ⟨s.2.1, s.2.2.1⟩) (B := λ (_ : Unit) => False) ?_ (λ s hs => Ok.pure hs) (λ _ h => h.elim)
 refine c8 (λ s => (0 <= s.1 /\ s.1 <= 200 /\ s.1 + (s.2.2.2.length : Int) <= k) /\ Bh ⟨s.2.1, s.2.2.1⟩) (λ s => s.1.toNat) _ _ ?_ ?_ ?_
 ·exact ⟨⟨by dsimp only; omega, by dsimp only; omega, by simp; omega⟩, hy.1⟩
 ·dsimp only; omega
 ·rintro ⟨i, L, a, l⟩ ⟨⟨g1, g2, g3⟩, g4⟩
  dsimp only at g1 g2 g3 g4
  unfold T2
  dsimp only
  refine c3 (λ hq => ?_) (λ _ => cA ⟨by dsimp only; omega, g4⟩)
  simp only [cZ] at hq
  have e1 : w64 (i - 1) = i - 1 := A7 (by omega)
  rw [e1]
  refine (Ax3 h g4).bind λ u hu => (cw (by simp; omega)).bind λ w hw => c4 ⟨⟨⟨by dsimp only; omega, by dsimp only; omega, by rw [hw]; simp; omega⟩, hu⟩, by dsimp only; omega⟩
theorem yQ {α : Type} {l : List α} {x : α} {j : Nat} (h : l[j]? = some x) : l.set j x = l := by
 obtain ⟨hj, e⟩ := aa.1 h
 rw [← e]; exact List.set_getElem_self hj
def Ed (x : Ae) : Ae := if x.State = 2 then ⟨x.State, x.Since, x.Ar, Ft (w64 (x.Phase + w64 (36 * w64 (x.Ar - 5000))))⟩ else x
theorem Afa {α : Type} {l m : List α} {x : α} {v : α} {j : Nat} (h : m[j]? = some x) (hl : l.length = m.length) : (l.take j ++ m.drop j).set j v = l.take j ++ v :: m.drop (j + 1) := by
 have hj := (aa.1 h).1
 rw [List.set_append_right _ _ (by simp; omega), cv hj]
 have : j - (l.take j).length = 0 := by simp; omega
 rw [this]; rfl
theorem Avd {α : Type} (f : α -> α) {l : List α} {x : α} {j : Nat} (h : l[j]? = some x) : (((l.map f).take j ++ l.drop j)[j]? = some x) /\ (l.map f).take (j + 1) ++ l.drop (j + 1) = ((l.map f).take j ++ l.drop j).set j (f x) := by
 have hj := (aa.1 h).1
 constructor
 ·rw [aA (by simp; omega)]
  have : j - ((l.map f).take j).length = 0 := by simp; omega
  rw [this, an]; exact h
 ·rw [Afa h (by simp), Bj (x := f x) (by simp [h]), bc]; rfl
theorem Atx {b : Aa} (h : Aw b) {p : Ab} (hp : Ay b p) : T5 b p = some (⟨p.Ah, p.Ac.map Ed, p.As, p.Ak⟩, 0) := by
 have hs := h.sol
 have hn := hp.nso
 refine cC ?_
 unfold T5
 rw [B6 h hp, Ea h hp]
 simp only [ab]
 refine c3 (λ hc => by simp at hc) (λ _ => ?_)
 refine Ok.andThen (A := λ s => s = p.Ac.map Ed) (B := λ (_ : Unit) => False) ?_ (λ s hs => Ok.pure (by rw [hs])) (λ _ h => h.elim)
 refine c5 (I := λ j s => s = (p.Ac.map Ed).take j ++ p.Ac.drop j) rfl (λ j x s hx hs => ?_) λ s hs => ?_
 ·obtain ⟨m1, m2⟩ := Avd Ed hx
  have hj := (aa.1 hx).1
  subst hs
  unfold Rt
  rw [C1 (by omega), m2]
  refine c3 (λ hc => ?_) (λ hc => c4 ?_)
  ·rw [Ba m1]
   simp only [ab]
   rw [Su (by simp; omega)]
   refine c4 ?_
   unfold Ed
   rw [if_pos (by simpa using hc)]
  ·unfold Ed
   rw [if_neg (by simpa using hc)]
   exact (yQ m1).symm
 ·rw [hs, List.drop_length, aF, bK (by simp)]
def Aar (b : Aa) (C : List Bool) (i : Nat) : Bool := !C.getD (Eh b (i : Int)).toNat false
def F3 (b : Aa) (C : List Bool) (t : Int) (x : Ae) (i : Nat) : Ae :=
 if (x.State = 1 /\ Aar b C i = true) /\ w64 (x.Since + (b.Ac.getD i default).Start) <= w64 (t + 1) then ⟨2, x.Since, x.Ar, x.Phase⟩ else x
def Im (b : Aa) (C : List Bool) (t : Int) (l : List Ae) (j : Nat) : List Ae := ((l.zipIdx.map λ z => F3 b C t z.1 z.2).take j) ++ l.drop j
theorem Ag7 {b : Aa} {C : List Bool} {t : Int} {l : List Ae} {j : Nat} {x : Ae} (h : l[j]? = some x) : (Im b C t l j)[j]? = some x /\ Im b C t l (j + 1) = (Im b C t l j).set j (F3 b C t x j) /\ (Im b C t l j).length = l.length := by
 have hj := (aa.1 h).1
 unfold Im
 refine ⟨?_, ?_, by simp; omega⟩
 ·rw [aA (by simp; omega)]
  have : j - ((l.zipIdx.map λ z => F3 b C t z.1 z.2).take j).length = 0 := by simp; omega
  rw [this, an]; exact h
 ·rw [Afa h (by simp), Bj (x := F3 b C t x j) (by simp [h]), bc]; rfl
def wtS (b : Aa) (p : Ab) (t : Int) : Ab := ⟨p.Ah, Im b p.Ah t (p.Ac.map Ed) (p.Ac.map Ed).length, p.As, p.Ak⟩
theorem Azh {b : Aa} {i : Nat} (h : i < b.Ac.length) : b.Ac[i]? = some (b.Ac.getD i default) := by
 rw [af h]; simp [List.getD, List.getElem?_eq_getElem h]
theorem At6 {b : Aa} (h : Aw b) {p : Ab} (hc : p.Ah.length = b.Ad.length) (t : Int) {i : Nat} (hi : i < b.Ac.length) : Hu ⟨b, p, t⟩ (i : Int) = some (Aar b p.Ah i) := by
 obtain ⟨j, x, e, hx, _⟩ := Hs h (i := (i : Int)) (by omega) (by omega)
 have hj := (aa.1 hx).1
 unfold Hu Aar
 rw [Js h, e, ar]
 simp only [ab]
 have hg : p.Ah[j]? = some (p.Ah.getD j false) := by
  rw [af (by omega)]; simp [List.getD, List.getElem?_eq_getElem (show j < p.Ah.length by omega)]
 rw [Ba hg]; rfl
theorem Atu {b : Aa} (h : Aw b) {p : Ab} (hp : Ay b p) (t : Int) : I9 ⟨b, p, t⟩ = some ⟨b, wtS b p t, t⟩ := by
 have hs := h.sol
 have hn := hp.nso
 refine cC ?_
 unfold I9
 rw [Atx h hp]
 simp only [ab]
 refine Ok.andThen (A := λ s => s.2 = Im b p.Ah t (p.Ac.map Ed) (p.Ac.map Ed).length) (B := λ (_ : Unit) => False) ?_ (λ s hs => Ok.pure (by rw [hs]; rfl)) (λ _ h => h.elim)
 refine c8 (λ s => ∃ j : Nat, s.1 = (j : Int) /\ j <= p.Ac.length /\ s.2 = Im b p.Ah t (p.Ac.map Ed) j) (λ s => (100 - s.1).toNat) _ _ ⟨0, rfl, by omega, rfl⟩ (by dsimp only; omega) ?_
 rintro ⟨z, s⟩ ⟨j, hz, hj, hsr⟩
 dsimp only at hz hsr
 subst hz
 unfold Lh Tj
 dsimp only
 refine c3 (λ hq => ?_) (λ hq => cA ?_)
 ·simp only [cZ, au] at hq
  have hlt : j < p.Ac.length := by omega
  obtain ⟨x, hx⟩ : ∃ x, (p.Ac.map Ed)[j]? = some x := ⟨_, af (by simp; omega)⟩
  obtain ⟨r1, r2, r3⟩ := Ag7 (b := b) (C := p.Ah) (t := t) hx
  rw [← hsr] at r1 r2 r3
  simp only [au] at r3
  rw [Ba r1]
  simp only [ab]
  have ho := At6 h (p := ⟨p.Ah, s, p.As, p.Ak⟩) hp.ncl t (i := j) (by omega)
  have e1 : w64 ((j : Int) + 1) = ((j + 1 : Nat) : Int) := by rw [A7 (by omega)]; omega
  rw [e1]
  have nxt : ∀ v, v = F3 b p.Ah t x j -> (∃ k : Nat, ((j + 1 : Nat) : Int) = (k : Int) /\ k <= p.Ac.length /\ s.set j v = Im b p.Ah t (p.Ac.map Ed) k) := λ v hv => ⟨j + 1, rfl, by omega, by rw [hv, r2]⟩
  have stay : x = F3 b p.Ah t x j -> s = s.set j (F3 b p.Ah t x j) := λ hv => by
   rw [← hv]; exact (yQ r1).symm
  cases hs1 : (x.State == 1) with
  | false =>
   have hno : x = F3 b p.Ah t x j := by
    unfold F3; rw [if_neg (λ hh => by simp [hh.1.1] at hs1)]
   refine Ok.bind (P := λ _ => True) (cE (λ hg => absurd hg.1 (by simp)) λ _ => trivial) λ _ _ => ?_
   refine Ok.bind (P := λ _ => True) (cE (λ hg => absurd hg.1 (by simp)) λ _ => trivial) λ _ _ => ?_
   refine c3 (λ hc => by simp [Kn, hs1] at hc) (λ _ => c4 ⟨?_, by dsimp only; omega⟩)
   dsimp only
   rw [stay hno]
   exact nxt _ rfl
  | true =>
   refine Ok.bind (P := λ v => v = Aar b p.Ah j) (cI ho rfl) λ v hv => ?_
   subst hv
   cases ho1 : Aar b p.Ah j with
   | false =>
    have hno : x = F3 b p.Ah t x j := by
     unfold F3; rw [if_neg (λ hh => by simp [hh.1.2] at ho1)]
    refine Ok.bind (P := λ _ => True) (cE (λ hg => absurd hg.1 (by simp)) λ _ => trivial) λ _ _ => ?_
    refine c3 (λ hc => by simp [Kn] at hc) (λ _ => c4 ⟨?_, by dsimp only; omega⟩)
    dsimp only
    rw [stay hno]
    exact nxt _ rfl
   | true =>
    refine Ok.bind (P := λ v => v = b.Ac.getD j default) (cI (Ba (Azh (by omega))) rfl) λ v hv => ?_
    subst hv
    refine c3 (λ hc => ?_) (λ hc => c4 ⟨?_, by dsimp only; omega⟩)
    ·simp only [Kn, hs1, bp, aO, cZ] at hc
     rw [Su (by omega)]
     refine c4 ⟨?_, by dsimp only; omega⟩
     exact nxt _ (by unfold F3; rw [if_pos ⟨⟨by simpa using hs1, ho1⟩, hc⟩])
    ·simp only [Kn, hs1, bp, aO, da] at hc
     have hno : x = F3 b p.Ah t x j := by
      unfold F3; rw [if_neg (λ hh => hc hh.2)]
     dsimp only
     rw [stay hno]
     exact nxt _ rfl
 ·simp only [da, au] at hq
  have : j = (p.Ac.map Ed).length := by simp; omega
  dsimp only
  rw [hsr, this]
def brN (b : Aa) (i : Nat) : Nat := (Eh b (i : Int)).toNat
theorem G5 {b : Aa} (h : Aw b) {i : Nat} (hi : i < b.Ac.length) : Eh b (i : Int) = (brN b i : Int) /\ brN b i < b.Ad.length /\ (b.Ad.getD (brN b i) default).Kind = 2 /\ (b.Ad.getD (brN b i) default).B = (i : Int) /\ b.Ad[brN b i]? = some (b.Ad.getD (brN b i) default) := by
 obtain ⟨j, x, e, hx, hk, hB, _⟩ := Hs h (i := (i : Int)) (by omega) (by omega)
 have hj := (aa.1 hx).1
 have : brN b i = j := by unfold brN; omega
 rw [this, Gt hx]
 exact ⟨e, hj, hk, hB, hx⟩
theorem Abs {b : Aa} (h : Aw b) {i j : Nat} (hi : i < b.Ac.length) {x : Af} (hx : b.Ad[j]? = some x) (hk : x.Kind = 2) (hB : x.B = (i : Int)) : j = brN b i := by
 obtain ⟨e, hlt, k2, kB, hg⟩ := G5 h hi
 have hm : ∀ {m : Nat} {y : Af}, b.Ad[m]? = some y -> y.Kind = 2 -> y.B = (i : Int) -> (y, m) ∈ ofZ b 2 (i : Int) := fun {m y} hy h1 h2 => aw.2 ⟨by rw [bz]; exact hy, by simp [h1, h2]⟩
 have hlen : (ofZ b 2 (i : Int)).length = 1 := by
  have := vF (λ x : Af => x.Kind == 2 && x.B == (i : Int)) b.Ad 0
  rw [← h.one i hi]
  exact this
 have m1 := hm hx hk hB
 have m2 := hm hg k2 kB
 match hz : ofZ b 2 (i : Int), hlen, m1, m2 with
 | [v], _, m1, m2 =>
  rw [bq] at m1 m2
  rw [← m2] at m1
  exact (Prod.mk.inj m1).2
theorem Abk {b : Aa} (h : Aw b) {p : Ab} (hp : Ay b p) {i : Nat} (hi : i < b.Ac.length) : Ey b p (i : Int) = if (p.Ac.getD i default).State = 2 /\ p.Ah.getD (brN b i) false = true then some (b.Ad.getD (brN b i) default).A else none := by
 obtain ⟨e, hlt, k2, kB, hg⟩ := G5 h hi
 have hn := hp.nso
 have hz : ∀ z, z ∈ ofZ b 2 (i : Int) -> z.2 = brN b i /\ z.1 = b.Ad.getD (brN b i) default := λ z hz => by
  have h1 := Qy hz
  have h2 := (aw.1 hz).2
  simp only [ac, db] at h2
  have := Abs h hi h1 h2.1 h2.2
  rw [this] at h1
  rw [hg] at h1
  exact ⟨this, (cq h1).symm⟩
 have hin : (b.Ad.getD (brN b i) default, brN b i) ∈ ofZ b 2 (i : Int) := aw.2 ⟨by rw [bz]; exact hg, by
  rw [ac, db, db]; exact ⟨k2, kB⟩⟩
 have hled : Dr b p 2 (i : Int) = if p.Ah.getD (brN b i) false = true then some (b.Ad.getD (brN b i) default).A else none := by
  rw [Aao hp.ncl]
  by_cases hc : p.Ah.getD (brN b i) false = true
  ·rw [if_pos hc]
   cases hf : (ofZ b 2 (i : Int)).find? λ z => p.Ah.getD z.2 false with
   | none =>
    rw [List.find?_eq_none] at hf
    exact absurd hc (hf _ hin)
   | some z =>
    rw [(hz z (List.mem_of_find?_eq_some hf)).2.symm]; rfl
  ·rw [if_neg hc]
   cases hf : (ofZ b 2 (i : Int)).find? λ z => p.Ah.getD z.2 false with
   | none => rfl
   | some z =>
    have h1 := List.find?_some hf
    rw [(hz z (List.mem_of_find?_eq_some hf)).1] at h1
    exact absurd h1 hc
 unfold Ey
 rw [ar, hled]
 by_cases hs : (p.Ac.getD i default).State = 2
 ·rw [if_pos ⟨by omega, by omega, hs⟩]
  simp only [hs, true_and]
 ·rw [if_neg (λ hh => hs hh.2.2), if_neg (λ hh => hs hh.1)]
def Cr (x y : Ae) : Prop := x.Ar = y.Ar /\ x.Phase = y.Phase
structure Sub (b : Aa) (q p : Ab) : Prop where
 con : ∀ i, i < b.Ac.length -> (q.Ac.getD i default).State = 2 -> q.Ah.getD (brN b i) false = true -> (p.Ac.getD i default).State = 2 /\ p.Ah.getD (brN b i) false = true
 tie : ∀ (k : Nat) x, b.Ad[k]? = some x -> x.Kind = 1 -> q.Ah.getD k false = true -> p.Ah.getD k false = true
theorem Akm {α : Type} : ∀ {l : List α} {c : List Bool} {z : α × Bool}, z ∈ l.zip c -> ∃ k : Nat, l[k]? = some z.1 /\ c[k]? = some z.2
 | [], _, _, h => by simp at h
 | _ :: _, [], _, h => by simp at h
 | x :: l, v :: c, z, h => by
  rw [bn, ag] at h
  rcases h with rfl | h
  ·exact ⟨0, rfl, rfl⟩
  ·obtain ⟨k, h1, h2⟩ := Akm h
   exact ⟨k + 1, h1, h2⟩
theorem An6 {α : Type} : ∀ {l : List α} {c : List Bool} {k : Nat} {x : α} {v : Bool}, l[k]? = some x -> c[k]? = some v -> (x, v) ∈ l.zip c
 | [], _, _, _, _, h, _ => by simp at h
 | _ :: _, [], _, _, _, _, h => by simp at h
 | y :: l, w :: c, 0, x, v, h1, h2 => by
  simp at h1 h2
  rw [bn, ← h1, ← h2]; exact ak
 | y :: l, w :: c, k + 1, x, v, h1, h2 => by
  rw [bn]
  exact ai _ (An6 (k := k) (by simpa using h1) (by simpa using h2))
theorem Atz {b : Aa} {p : Ab} (hp : p.Ah.length = b.Ad.length) {i j : Nat} : Tie (B9 b p) i j ↔ ∃ (k : Nat) (x : Af), b.Ad[k]? = some x /\ x.Kind = 1 /\ p.Ah.getD k false = true /\ ((x.A.toNat = i /\ x.B.toNat = j) \/ (x.A.toNat = j /\ x.B.toNat = i)) := by
 constructor
 ·rintro ⟨z, hz, h1, h2, h3⟩
  obtain ⟨k, g1, g2⟩ := Akm hz
  exact ⟨k, z.1, g1, h1, by rw [List.getD, g2, h2]; rfl, h3⟩
 ·rintro ⟨k, x, h1, h2, h3, h4⟩
  have hk := (aa.1 h1).1
  refine ⟨(x, true), An6 h1 ?_, h2, rfl, h4⟩
  rw [af (by omega)]
  simp only [List.getD, af (show k < p.Ah.length by omega), cr] at h3
  rw [h3]
theorem Au1 (b : Aa) (C : List Bool) (q : Af -> Bool) (hC : C.length = b.Ad.length) (k : Nat) (h : (acC b C q).getD k false = true) : C.getD k false = true := by
 by_cases hk : k < b.Ad.length
 ·rw [Aga b C q hk, ac] at h; exact h.1
 ·have hl : (acC b C q).length = C.length := K4 _ _
  simp [List.getD, List.getElem?_eq_none (show (acC b C q).length <= k by omega)] at h
def Par {α : Type} (o : Option α) (P : α -> Prop) : Prop := ∀ r, o = some r -> P r
theorem Par.pure {α : Type} {x : α} {P : α -> Prop} (h : P x) : Par (some x) P := λ r e => by cases e; exact h
theorem cW {α : Type} {P : α -> Prop} : Par (none : Option α) P := λ _ e => by cases e
theorem Par.bind {α β : Type} {o : Option α} {f : α -> Option β} {P : β -> Prop} (h : ∀ x, o = some x -> Par (f x) P) : Par (o.bind f) P := by
 cases o with
 | none => exact cW
 | some x => exact h x rfl
theorem Par.cond {α : Type} {c : Bool} {x y : Option α} {P : α -> Prop} (h : Par x P) (k : Par y P) : Par (bif c then x else y) P := by
 cases c with
 | true => exact h
 | false => exact k
def cl (C : List Bool) : Nat := C.count true
theorem Kz {α : Type} {l y : List α} {i : Int} {x : α} (h : setI l i x = some y) : y = l.set i.toNat x /\ 0 <= i /\ i < l.length := by
 unfold setI at h
 cases hd : (decide (0 <= i) && decide (i < (l.length : Int))) with
 | false => rw [hd] at h; cases h
 | true =>
  rw [hd] at h
  simp only [ac, cZ] at hd
  cases h
  exact ⟨rfl, hd⟩
theorem Uf (x : Ae) : (Ed x).State = x.State := by unfold Ed; split <;> rfl
theorem Au6 {b : Aa} {p : Ab} (t : Int) {i : Nat} (hi : i < p.Ac.length) : (wtS b p t).Ac.getD i default = F3 b p.Ah t (Ed (p.Ac.getD i default)) i := by
 unfold wtS Im
 simp only [au]
 rw [List.drop_of_length_le (by simp), aF]
 have hl : ((p.Ac.map Ed).zipIdx.map λ z => F3 b p.Ah t z.1 z.2).length = p.Ac.length := by simp
 rw [bK (by omega)]
 simp [List.getD, List.getElem?_eq_getElem hi]
structure Lu (b : Aa) (c q : Ab) : Prop where
 src : q.Ac = c.Ac
 cl : ∀ (k : Nat) x, b.Ad[k]? = some x -> x.Kind ≠ 3 -> q.Ah.getD k false = c.Ah.getD k false
theorem Ps : ∀ (l : List Af) (c d : List Bool) (s : List Int), c.length = l.length -> d.length = l.length -> (∀ (k : Nat) x, l[k]? = some x -> x.Kind = 1 -> c.getD k false = d.getD k false) -> B4 (l.zip c) s = B4 (l.zip d) s
 | [], _, _, _, _, _, _ => rfl
 | _ :: _, [], _, _, h, _, _ => by simp at h
 | _ :: _, _ :: _, [], _, _, h, _ => by simp at h
 | x :: l, v :: c, w :: d, s, h1, h2, h3 => by
  show B4 (l.zip c) (Cx s (x, v)) = B4 (l.zip d) (Cx s (x, w))
  have e : Cx s (x, v) = Cx s (x, w) := by
   by_cases hk : x.Kind = 1
   ·have : v = w := h3 0 x rfl hk
    rw [this]
   ·unfold Cx
    rw [if_neg (λ hh => hk hh.1), if_neg (λ hh => hk hh.1)]
  rw [e]
  exact Ps l c d _ (by simpa using h1) (by simpa using h2) λ k y hy hk => h3 (k + 1) y hy hk
theorem Lu.groups {b : Aa} {c q : Ab} (hc : c.Ah.length = b.Ad.length) (hq : q.Ah.length = b.Ad.length) (s : Lu b c q) : groups b q = groups b c := by
 unfold Go.Proofs.YtcigbocngfaopaaGreat.groups
 have key : ∀ (xs : List Nat) (t : List Int), xs.foldl (λ s _ => B4 (b.Ad.zip q.Ah) s) t = xs.foldl (λ s _ => B4 (b.Ad.zip c.Ah) s) t := by
  intro xs
  induction xs with
  | nil => intro t; rfl
  | cons x xs ih =>
   intro t
   simp only [be]
   rw [Ps b.Ad q.Ah c.Ah t hq hc λ k x hx hk => s.cl k x hx (by omega)]
   exact ih _
 exact key _ _
theorem Lu.con {b : Aa} (h : Aw b) {c q : Ab} (hc : Ay b c) (hq : Ay b q) (s : Lu b c q) {i : Nat} (hi : i < b.Ac.length) : Ey b q (i : Int) = Ey b c (i : Int) := by
 obtain ⟨_, _, k2, _, hg⟩ := G5 h hi
 rw [Abk h hq hi, Abk h hc hi, s.src, s.cl _ _ hg (by omega)]
theorem Lu.sources {b : Aa} (h : Aw b) {c q : Ab} (hc : Ay b c) (hq : Ay b q) (s : Lu b c q) (f : Nat) : (isl b q f).Ac = (isl b c f).Ac := by
 show Dt b q b.Ac.length f = Dt b c b.Ac.length f
 unfold Dt
 congr 1
 refine ck λ i hi => ?_
 rw [s.con h hc hq (aK.1 hi)]
 unfold E0
 rw [s.groups hc.ncl hq.ncl]
def fg (b : Aa) (q : Ab) (m : Nat) : Option Int := E0 b q (Dr b q 3 (m : Int))
def Ah1 (b : Aa) (m : Int) : Int := (b.Ai.getD m.toNat default).Least
structure A1q (b : Aa) (q : Ab) (n : Nat) (l : List Int) (j : Nat) (L : List Int) : Prop where
 ok : Ay b (Mp q L)
 le : ∀ m : Nat, L.getD m 0 <= q.As.getD m 0
 out : ∀ m : Nat, (m : Int) ∉ l.take j -> L.getD m 0 = q.As.getD m 0
 low : 0 < X9 b (Mp q L) n -> ∀ m, m ∈ l.take j -> L.getD m.toNat 0 <= Ah1 b m
 ord : ∀ (i : Nat) k, i < j -> l[i]? = some k -> L.getD k.toNat 0 ≠ q.As.getD k.toNat 0 -> ∀ (i' : Nat) m, i' < i -> l[i']? = some m -> L.getD m.toNat 0 <= Ah1 b m
structure A1k (b : Aa) (q : Ab) (n : Nat) (l : List Int) (j : Nat) (C : List Bool) : Prop where
 ok : Ay b (Gu q C)
 skel : Lu b q (Gu q C)
 mono : ∀ k : Nat, C.getD k false = true -> q.Ah.getD k false = true
 fgs : ∀ k : Nat, fg b (Gu q C) k = fg b q k \/ fg b (Gu q C) k = none /\ (k : Int) ∈ l.take j
 pos : 0 < X9 b (Gu q C) n -> ∀ m, m ∈ l.take j -> 0 < q.As.getD m.toNat 0 -> fg b (Gu q C) m.toNat = none
 ord : ∀ (i : Nat) k, i < j -> l[i]? = some k -> fg b (Gu q C) k.toNat = none -> 0 < X9 b q n /\ ∀ (i' : Nat) m, i' < i -> l[i']? = some m -> fg b (Gu q C) m.toNat ≠ none -> q.As.getD m.toNat 0 <= 0
structure Don (b : Aa) (c q : Ab) (x : Aj) : Prop where
 exc : X9 b q (Yk x) = 0
 ord : ∀ (i : Nat) k, (Ahe b x)[i]? = some k -> (fg b q k.toNat = none \/ q.As.getD k.toNat 0 ≠ c.As.getD k.toNat 0) -> ∀ (i' : Nat) m, i' < i -> (Ahe b x)[i']? = some m -> fg b q m.toNat ≠ none -> q.As.getD m.toNat 0 <= Ah1 b m /\ (fg b q k.toNat = none -> q.As.getD m.toNat 0 <= 0)
structure Aft (b : Aa) (D : List Aj) (q r : Ab) : Prop where
 ok : Ay b r
 skel : Lu b q r
 brk : r.Ak = q.Ak
 mono : ∀ k : Nat, r.Ah.getD k false = true -> q.Ah.getD k false = true
 le : ∀ k : Nat, r.As.getD k 0 <= q.As.getD k 0
 fgs : ∀ k : Nat, fg b r k = fg b q k \/ fg b r k = none
 out : ∀ k : Nat, (∀ x, x ∈ D -> Ass x (k : Int) = false) -> fg b r k = fg b q k /\ r.As.getD k 0 = q.As.getD k 0
theorem Amu {b : Aa} (h : Aw b) {p : Ab} (hp : Ay b p) {n : Nat} (hn : n < b.Ao.toNat) : F17 b p (n : Int) = some (Q6 b p n) := by
 have hcl := h.col
 have hlen : (isl b p (G3 b p n)).Ai.length <= b.Ai.length := C6 _ _
 have hof : F50 b p (n : Int) = some (isl b p (G3 b p n), true) := Qz h hp hn
 unfold F17
 rw [hof]
 simp only [ab]
 by_cases hs : 0 < (isl b p (G3 b p n)).Ac.length
 ·have e0 : V9 (isl b p (G3 b p n), true) = false := by
   unfold V9
   simp only [aZ, aM, de]
   omega
  rw [e0, cond_false]
  have key : Ok (andThen (foldI (Wz p) (isl b p (G3 b p n)).Ai 0 0) (λ _ => none) λ z0 => some z0) λ y => y = Q6 b p n := by
   refine Ok.andThen (A := λ s => s = Q6 b p n) (B := λ (_ : Unit) => False) ?_ (λ s hs => Ok.pure hs) (λ _ h => h.elim)
   refine c5 (I := λ j s => s = Sf p.As ((isl b p (G3 b p n)).Ai.take j) /\ 0 <= s /\ s <= 50000 * (j : Int)) ⟨rfl, by omega, by omega⟩ (λ j c s hc hI => ?_) λ s hI => ?_
   ·obtain ⟨h1, h2, h3⟩ := hI
    have hj : j < (isl b p (G3 b p n)).Ai.length := (aa.1 hc).1
    have hcm := Auc (ae hc)
    obtain ⟨g1, g2, g3, g4⟩ := Azt h hp hcm.1 hcm.2
    unfold Wz
    rw [g1]
    simp only [ab]
    rw [A7 (by omega)]
    refine c4 ⟨?_, by omega, by omega⟩
    rw [Bj hc, Zj, h1]
   ·rw [aH] at hI
    unfold Q6
    rw [if_pos hs]
    exact hI.1
  obtain ⟨r, e, h1⟩ := key
  rw [h1] at e
  exact e
 ·have e0 : V9 (isl b p (G3 b p n), true) = true := by
   unfold V9
   simp only [aZ, aM, db]
   omega
  rw [e0, cond_true]
  unfold Q6
  rw [if_neg hs]
theorem Aeq {b : Aa} (h : Aw b) {p : Ab} (hp : Ay b p) {n : Nat} (hn : n < b.Ao.toNat) : F18 b p (n : Int) = some (Ahb b p n) := by
 have hcl := h.sol
 have hlen : (isl b p (G3 b p n)).Ac.length <= b.Ac.length := C6 _ _
 have key : Ok (F18 b p (n : Int)) λ y => y = Ahb b p n := by
  unfold F18
  have hof : F50 b p (n : Int) = some (isl b p (G3 b p n), true) := Qz h hp hn
  rw [hof]
  simp only [ab]
  refine Ok.andThen (A := λ s => s = Ahb b p n) (B := λ (_ : Unit) => False) ?_ (λ s hs => Ok.pure hs) (λ _ h => h.elim)
  refine c5 (I := λ j s => s = Sf (uA b) ((isl b p (G3 b p n)).Ac.take j) /\ 0 <= s /\ s <= 50000 * (j : Int)) ⟨rfl, by omega, by omega⟩ (λ j c s hc hI => ?_) λ s hI => ?_
  ·obtain ⟨h1, h2, h3⟩ := hI
   have hj : j < (isl b p (G3 b p n)).Ac.length := (aa.1 hc).1
   have hcm := Aub (ae hc)
   unfold Ady
   refine (c7 hcm.1 hcm.2).bind λ y hy => ?_
   have hr := (h.so y (ae hy)).1
   have e : (uA b).getD c.toNat 0 = y.Rating := by simp [uA, List.getD, hy]
   rw [A7 (by omega)]
   refine c4 ⟨?_, by omega, by omega⟩
   rw [Bj hc, Zj, h1, e]
  ·rw [aH] at hI
   exact hI.1
 obtain ⟨r, e, h1⟩ := key
 rw [h1] at e
 exact e

theorem Agw {b : Aa} (h : Aw b) {p : Ab} (hp : Ay b p) {j : Nat} {x : Af} (hx : b.Ad[j]? = some x) : Aek b p (j : Int) = some (Dw p x) := by
 have hbr := (h.br x (ae hx)).2
 have hns := hp.nso
 unfold Aek Dw
 rw [Ba hx]
 simp only [Ls, ab]
 cases brk p.Ak 3 x.A with
 | true => rfl
 | false =>
  simp only [cond_false, aM]
  rcases hbr with ⟨hk, _⟩ | ⟨hk, h0, h1⟩ | ⟨hk, _⟩
  ·rw [hk]; rfl
  ·rw [hk]
   have e : p.Ac[x.B.toNat]? = some (p.Ac.getD x.B.toNat default) := by
    rw [af (by omega)]; simp [List.getD, List.getElem?_eq_getElem (show x.B.toNat < p.Ac.length by omega)]
   have e2 : getI p.Ac x.B = some (p.Ac.getD x.B.toNat default) := by
    unfold getI; rw [dg h0]; exact e
   rw [e2]
   cases brk p.Ak 1 x.B <;> rfl
  ·rw [hk]; rfl
theorem Amv {b : Aa} (h : Aw b) {q r : Ab} (hq : Ay b q) (hr : Ay b r) (s : Lu b q r) (n : Nat) : Gx b r n = Gx b q n := by
 unfold Gx; rw [s.groups hq.ncl hr.ncl, s.sources h hq hr]
theorem Z9 {b : Aa} {C : List Bool} {q : Af -> Bool} {j : Nat} : (C5 C (Cj b C q j)).getD j false = C.getD j false := by
 rw [K5]
 have : ((Cj b C q j).any λ i => i.toNat == j) = false := by
  rw [bC]
  intro i hi
  obtain ⟨k, e, hk, _⟩ := Jp.1 hi
  simp only [db]
  omega
 rw [this]; simp
theorem Ano {b : Aa} {p : Ab} {j : Nat} : Lu b p ⟨C5 p.Ah (Cj b p.Ah (E2 b p) j), p.Ac, p.As, p.Ak⟩ := ⟨rfl, λ k x hx hk => by
 show (C5 p.Ah (Cj b p.Ah (E2 b p) j)).getD k false = _
 rw [K5]
 have : ((Cj b p.Ah (E2 b p) j).any λ i => i.toNat == k) = false := by
  rw [bC]
  intro i hi
  obtain ⟨m, e, _, _, hd⟩ := Jp.1 hi
  simp only [db]
  intro e2
  have : m = k := by omega
  subst this
  rw [Gt hx] at hd
  simp only [E2, ac, db] at hd
  exact hk hd.1
 rw [this]; simp⟩
theorem Aii {b : Aa} (h : Aw b) {p : Ab} (hp : Ay b p) : Ok (F66 b p) λ y => y.1 = Ti b p /\ y.2.2 = 0 /\ y.2.1.length <= 48 := by
 have hbl := h.brl
 have hcl := hp.ncl
 unfold F66
 rw [G1 h hp]
 simp only [ab]
 refine c3 (λ hc => by simp at hc) (λ _ => ?_)
 rw [Ye h hp]
 simp only [ab]
 refine Ok.andThen (A := λ (s : Int × List Bool × List An) => s.2.1 = (B2 b p).Ah /\ s.2.2.length <= 24) (B := λ (_ : Unit) => False) ?_ (λ s hs => ?_) (λ _ h => h.elim)
 ·refine c8 (λ (s : Int × List Bool × List An) => ∃ j : Nat, s.1 = (j : Int) /\ j <= b.Ad.length /\ s.2.1 = C5 p.Ah (Cj b p.Ah (Dw p) j) /\ s.2.2.length <= j) (λ s => (100 - s.1).toNat) _ _ ⟨0, rfl, by omega, rfl, by simp⟩ (by dsimp only; omega) ?_
  rintro ⟨z, C, as⟩ ⟨j, hz, h1, h2, h3⟩
  dsimp only at hz h2 h3
  subst hz
  subst h2
  unfold Add As5
  dsimp only
  have hlen : (C5 p.Ah (Cj b p.Ah (Dw p) j)).length = b.Ad.length := by rw [K4]; exact hcl
  refine c3 (λ hq => ?_) (λ hq => ?_)
  ·simp only [cZ] at hq
   have hj : j < b.Ad.length := by omega
   have hx : b.Ad[j]? = some (b.Ad.getD j default) := by
    rw [af hj]; simp [List.getD, List.getElem?_eq_getElem hj]
   have hg : getI (C5 p.Ah (Cj b p.Ah (Dw p) j)) (j : Int) = some (p.Ah.getD j false) := by
    rw [← Z9 (b := b) (C := p.Ah) (q := Dw p)]
    refine Ba ?_
    rw [af (by omega)]
    simp [List.getD, List.getElem?_eq_getElem (show j < (C5 p.Ah (Cj b p.Ah (Dw p) j)).length by omega)]
   rw [hg, Agw h hp hx]
   simp only [ab]
   have e2 : w64 ((j : Int) + 1) = ((j + 1 : Nat) : Int) := by rw [A7 (by omega)]; omega
   have hsu := Vp (C := p.Ah) (q := Dw p) hx
   rw [e2]
   have eg : (Ax [(p.Ah.getD j false, true)] (some (Dw p (b.Ad.getD j default))) default) = some (bif p.Ah.getD j false then Dw p (b.Ad.getD j default) else default) := by
    cases p.Ah.getD j false <;> rfl
   rw [eg]
   simp only [ab]
   have ec : (p.Ah.getD j false && bif p.Ah.getD j false then Dw p (b.Ad.getD j default) else default) = (p.Ah.getD j false && Dw p (b.Ad.getD j default)) := by
    cases p.Ah.getD j false <;> rfl
   rw [ec]
   refine c3 (λ hc => ?_) (λ hc => ?_)
   ·refine (c9 (by omega) (by omega)).bind λ y hy => ?_
    refine (cw (by simp; omega)).bind λ w hw => c4 ⟨⟨j + 1, rfl, by omega, ?_, by rw [hw]; simp; omega⟩, by dsimp only; omega⟩
    rw [hsu, if_pos hc, U9, hy]
   ·refine c4 ⟨⟨j + 1, rfl, by omega, ?_, by dsimp only; omega⟩, by dsimp only; omega⟩
    rw [hsu, if_neg (by rw [hc]; simp), aF]
  ·simp only [da] at hq
   have : j = b.Ad.length := by omega
   subst this
   exact cA ⟨rfl, by dsimp only; omega⟩
 ·obtain ⟨i, C, as⟩ := s
  dsimp only at hs
  obtain ⟨hC, ha⟩ := hs
  subst hC
  have hq1 : Ay b (B2 b p) := Yj hp
  have hlen1 : (B2 b p).Ah.length = b.Ad.length := hq1.ncl
  refine Ok.andThen (A := λ (s : List Bool × List An) => s.1 = (Yi b p).Ah /\ s.2.length <= 48) (B := λ (_ : Unit) => False) ?_ (λ s hs => ?_) (λ _ h => h.elim)
  ·refine c5 (I := λ j (s : List Bool × List An) => s.1 = C5 (B2 b p).Ah (Cj b (B2 b p).Ah (E2 b (B2 b p)) j) /\ s.2.length <= 24 + j) ⟨rfl, by dsimp only; omega⟩ (λ j x s hx hI => ?_) λ s hI => ⟨hI.1, by have := hI.2; omega⟩
   obtain ⟨D, as2⟩ := s
   obtain ⟨h1, h2⟩ := hI
   dsimp only at h1 h2
   subst h1
   have hj : j < b.Ad.length := (aa.1 hx).1
   have hlen : (C5 (B2 b p).Ah (Cj b (B2 b p).Ah (E2 b (B2 b p)) j)).length = b.Ad.length := by rw [K4]; exact hlen1
   have ec : cnt 0 j = (j : Int) := C1 (by omega)
   have hg : getI (C5 (B2 b p).Ah (Cj b (B2 b p).Ah (E2 b (B2 b p)) j)) (j : Int) = some ((B2 b p).Ah.getD j false) := by
    rw [← Z9 (b := b) (C := (B2 b p).Ah) (q := E2 b (B2 b p))]
    refine Ba ?_
    rw [af (by omega)]
    simp [List.getD, List.getElem?_eq_getElem (show j < (C5 (B2 b p).Ah (Cj b (B2 b p).Ah (E2 b (B2 b p)) j)).length by omega)]
   have hok : Ay b ⟨C5 (B2 b p).Ah (Cj b (B2 b p).Ah (E2 b (B2 b p)) j), p.Ac, p.As, p.Ak⟩ := Sz _ hq1
   have hA := (h.br x (ae hx)).1
   have hlive : F14 b ⟨C5 (B2 b p).Ah (Cj b (B2 b p).Ah (E2 b (B2 b p)) j), p.Ac, p.As, p.Ak⟩ x.A = some (Gx b (B2 b p) x.A.toNat) := by
    have e : x.A = ((x.A.toNat : Nat) : Int) := by omega
    have := jA h hok (n := x.A.toNat) (by omega)
    rw [← e] at this
    rw [this, ← Amv h hq1 hok Ano]
   have hsu := Vp (C := (B2 b p).Ah) (q := E2 b (B2 b p)) hx
   unfold Adc
   dsimp only
   rw [ec, hg, hlive]
   have e1 : (Ax [((x.Kind == 3), true)] (some ((B2 b p).Ah.getD j false)) default) = some (bif x.Kind == 3 then (B2 b p).Ah.getD j false else default) := by
    cases x.Kind == 3 <;> rfl
   rw [e1]
   simp only [ab]
   have e2 : ∀ g : Bool, (Ax [(g, true)] (some (Gx b (B2 b p) x.A.toNat)) default) = some (bif g then Gx b (B2 b p) x.A.toNat else default) := by
    intro g; cases g <;> rfl
   rw [e2]
   simp only [ab]
   have e3 : ((x.Kind == 3) && (bif x.Kind == 3 then (B2 b p).Ah.getD j false else default) && !(bif (x.Kind == 3) && (bif x.Kind == 3 then (B2 b p).Ah.getD j false else default) then Gx b (B2 b p) x.A.toNat else default)) = ((B2 b p).Ah.getD j false && E2 b (B2 b p) x) := by
    unfold E2
    cases x.Kind == 3 <;> cases (B2 b p).Ah.getD j false <;> rfl
   rw [e3]
   refine c3 (λ hc => ?_) (λ hc => ?_)
   ·refine (c9 (by omega) (by omega)).bind λ y hy => ?_
    refine (cw (by simp; omega)).bind λ w hw => c4 ⟨?_, by rw [hw]; simp; omega⟩
    rw [hsu, if_pos hc, U9, hy]
   ·refine c4 ⟨?_, by dsimp only; omega⟩
    rw [hsu, if_neg (by rw [hc]; simp), aF]
  ·rw [hs.1]
   have hf := Aev h (Yh hp)
   have hf2 : Zb b ⟨(Yi b p).Ah, p.Ac, p.As, p.Ak⟩ = some (Ti b p, 0) := hf
   rw [hf2]
   exact Ok.pure ⟨rfl, rfl, hs.2⟩
def Gi (b : Aa) (sd : Int -> Bool) : Cq := b.Ad.zipIdx.map λ z => (z.1, sd (z.2 : Int))
theorem F2 {b : Aa} {sd : Int -> Bool} {i j : Nat} : Tie (Gi b sd) i j ↔ ∃ (k : Nat) (x : Af), b.Ad[k]? = some x /\ x.Kind = 1 /\ sd (k : Int) = true /\ ((x.A.toNat = i /\ x.B.toNat = j) \/ (x.A.toNat = j /\ x.B.toNat = i)) := by
 constructor
 ·rintro ⟨z, hz, h1, h2, h3⟩
  obtain ⟨⟨x, k⟩, hm, rfl⟩ := ao.1 hz
  rw [bz] at hm
  exact ⟨k, x, hm, h1, h2, h3⟩
 ·rintro ⟨k, x, hx, h1, h2, h3⟩
  exact ⟨(x, sd (k : Int)), ao.2 ⟨(x, k), by rw [bz]; exact hx, rfl⟩, h1, h2, h3⟩
theorem zL {b : Aa} (h : Aw b) (sd : Int -> Bool) : Wd (Gi b sd) b.Ao.toNat := by
 intro i j t
 obtain ⟨k, x, hx, hk, _, he⟩ := F2.1 t
 have := h.br x (ae hx)
 unfold Fu at this
 omega
def lv (s : List Bool) (i : Nat) : Prop := s.getD i false = true
theorem Vb {s : List Bool} {i : Nat} (h : lv s i) : i < s.length := by
 unfold lv List.getD at h
 by_cases hl : i < s.length
 ·exact hl
 ·rw [bN (by omega)] at h; cases h
theorem Jk {sd : Int -> Bool} {s : List Bool} {z : Af × Nat} {i : Nat} (hi : i < s.length) : (Du sd s z).getD i false = if (z.1.Kind = 1 /\ sd (z.2 : Int) = true) /\ (i = z.1.A.toNat \/ i = z.1.B.toNat) then (s.getD z.1.A.toNat false || s.getD z.1.B.toNat false) else s.getD i false := by
 unfold Du
 by_cases hk : z.1.Kind = 1 /\ sd (z.2 : Int) = true
 ·rw [if_pos hk]
  by_cases hB : i = z.1.B.toNat
  ·rw [if_pos ⟨hk, .inr hB⟩]
   rw [aX, al, if_pos hB.symm, if_pos (by rw [bF]; omega)]; rfl
  ·by_cases hA : i = z.1.A.toNat
   ·rw [if_pos ⟨hk, .inl hA⟩]
    rw [aX, al, if_neg (λ e => hB e.symm), al, if_pos hA.symm, if_pos (by omega)]; rfl
   ·rw [if_neg (λ hh => hh.2.elim hA hB)]
    rw [aX, al, if_neg (λ e => hB e.symm), al, if_neg (λ e => hA e.symm)]; rfl
 ·rw [if_neg hk, if_neg (λ hh => hk hh.1)]
theorem O3 {sd : Int -> Bool} {s : List Bool} {z : Af × Nat} {i : Nat} (h : lv s i) : lv (Du sd s z) i := by
 have hi := Vb h
 unfold lv at h ⊢
 rw [Jk hi]
 split
 ·rename_i hh
  rcases hh.2 with e | e
  ·rw [← e, h]; rfl
  ·rw [← e, h]; simp
 ·exact h
theorem M3 {sd : Int -> Bool} : ∀ (l : List (Af × Nat)) {s : List Bool} {i : Nat}, lv s i -> lv (Co sd l s) i
 | [], _, _, h => h
 | z :: l, s, i, h => by
  show lv (Co sd l (Du sd s z)) i
  exact M3 l (O3 h)
theorem Z6 {sd : Int -> Bool} {z : Af × Nat} (hk : z.1.Kind = 1) (hs : sd (z.2 : Int) = true) : ∀ (l : List (Af × Nat)) {s : List Bool}, z ∈ l -> z.1.A.toNat < s.length -> z.1.B.toNat < s.length -> (lv s z.1.A.toNat \/ lv s z.1.B.toNat) -> lv (Co sd l s) z.1.A.toNat /\ lv (Co sd l s) z.1.B.toNat
 | [], _, h, _, _, _ => by cases h
 | y :: l, s, h, hA, hB, ho => by
  show lv (Co sd l (Du sd s y)) _ /\ lv (Co sd l (Du sd s y)) _
  rcases ag.1 h with rfl | h
  ·have he : (s.getD z.1.A.toNat false || s.getD z.1.B.toNat false) = true := by
    rw [aD]; exact ho
   have a1 : lv (Du sd s z) z.1.A.toNat := by
    unfold lv; rw [Jk hA, if_pos ⟨⟨hk, hs⟩, .inl rfl⟩]; exact he
   have a2 : lv (Du sd s z) z.1.B.toNat := by
    unfold lv; rw [Jk hB, if_pos ⟨⟨hk, hs⟩, .inr rfl⟩]; exact he
   exact ⟨M3 l a1, M3 l a2⟩
  ·exact Z6 hk hs l h (by rw [Gv]; exact hA) (by rw [Gv]; exact hB) (ho.imp O3 O3)
theorem zN {b : Aa} (h : Aw b) {sd : Int -> Bool} {s : List Bool} (hl : s.length = b.Ao.toNat) {j : Nat} (hj : lv s j) : ∀ (r i : Nat), Ce (Gi b sd) j r i -> lv ((List.range r).foldl (λ s _ => Co sd b.Ad.zipIdx s) s) i := by
 intro r
 induction r with
 | zero => intro i hc; cases hc; exact hj
 | succ r ih =>
  intro i hc
  rw [bo, aP]
  simp only [be, List.foldl_nil]
  cases hc with
  | stay hc => exact M3 _ (ih i hc)
  | step hc t =>
   rename_i k
   have hk := ih k hc
   have hlt := zL h sd _ _ t
   obtain ⟨m, x, hx, h1, h2, he⟩ := F2.1 t
   have hlen := Gw sd b.Ad.zipIdx (List.range r) s
   have hm : (x, m) ∈ b.Ad.zipIdx := by rw [bz]; exact hx
   have := Z6 (z := (x, m)) h1 h2 _ hm (by dsimp only; omega) (by dsimp only; omega) (s := (List.range r).foldl (λ s _ => Co sd b.Ad.zipIdx s) s) (by
    dsimp only
    rcases he with ⟨e1, _⟩ | ⟨_, e2⟩
    ·rw [e1]; exact .inl hk
    ·rw [e2]; exact .inr hk)
   dsimp only at this
   rcases he with ⟨_, e2⟩ | ⟨e1, _⟩
   ·rw [← e2]; exact this.2
   ·rw [← e1]; exact this.1
theorem Z7 {b : Aa} {sd : Int -> Bool} {Q : Nat -> Prop} (hQ : ∀ i j, Tie (Gi b sd) i j -> Q i -> Q j) : ∀ (l : List (Af × Nat)) {s : List Bool}, (∀ z, z ∈ l -> z ∈ b.Ad.zipIdx) -> (∀ i, lv s i -> Q i) -> ∀ i, lv (Co sd l s) i -> Q i
 | [], _, _, h => h
 | z :: l, s, hz, h => by
  show ∀ i, lv (Co sd l (Du sd s z)) i -> Q i
  refine Z7 hQ l (λ y hy => hz y (ai _ hy)) λ i hi => ?_
  have hlt := Vb hi
  rw [Gv] at hlt
  unfold lv at hi
  rw [Jk hlt] at hi
  split at hi
  ·rename_i hh
   obtain ⟨⟨hk, hs⟩, he⟩ := hh
   have hm := hz z ak
   have hx : b.Ad[z.2]? = some z.1 := by
    have : (z.1, z.2) ∈ b.Ad.zipIdx := hm
    rw [bz] at this
    exact this
   have t : Tie (Gi b sd) z.1.A.toNat z.1.B.toNat := F2.2 ⟨z.2, z.1, hx, hk, hs, .inl ⟨rfl, rfl⟩⟩
   rw [aD] at hi
   rcases hi with hi | hi
   ·have q := h _ hi
    rcases he with e | e
    ·rw [e]; exact q
    ·rw [e]; exact hQ _ _ t q
   ·have q := h _ hi
    rcases he with e | e
    ·rw [e]; exact hQ _ _ t.symm q
    ·rw [e]; exact q
  ·exact h i hi
theorem Nm {b : Aa} (h : Aw b) {u sd : Int -> Bool} {i : Nat} : lv (E1 b u sd) i ↔ ∃ j, lv (Na b u) j /\ D2 (Gi b sd) j i := by
 constructor
 ·intro hi
  have key : ∀ (xs : List Nat) (s : List Bool), (∀ i, lv s i -> ∃ j, lv (Na b u) j /\ D2 (Gi b sd) j i) -> ∀ i, lv (xs.foldl (λ s _ => Co sd b.Ad.zipIdx s) s) i -> ∃ j, lv (Na b u) j /\ D2 (Gi b sd) j i := by
   intro xs
   induction xs with
   | nil => intro s hs; exact hs
   | cons x xs ih => intro s hs; exact ih _ (Z7 (λ i j t => by rintro ⟨m, h1, h2⟩; exact ⟨m, h1, h2.tie t⟩) _ (λ _ hz => hz) hs)
  exact key _ _ (λ i hi => ⟨i, hi, D2.refl _ _⟩) i hi
 ·rintro ⟨j, hj, hc⟩
  have hlt := Vb hj
  rw [Io] at hlt
  exact zN h (Io b u) hj _ _ (Ns (zL h sd) hlt hc)
theorem S_ {b : Aa} (h : Aw b) {u sd : Int -> Bool} {i j : Nat} (t : Tie (Gi b sd) i j) : lv (E1 b u sd) i -> lv (E1 b u sd) j := by
 rw [Nm h, Nm h]
 rintro ⟨m, h1, h2⟩
 exact ⟨m, h1, h2.tie t⟩
theorem Ave {b : Aa} {u : Int -> Bool} {s : List Bool} {k i : Nat} (h : lv s i) : lv (lit b u s k) i := by
 unfold lit
 split
 ·have hi := Vb h
  unfold lv at h ⊢
  rw [aX, al]
  split
  ·rename_i e; rw [if_pos (by omega)]; rfl
  ·rw [← aX]; exact h
 ·exact h
theorem Aam {b : Aa} {u : Int -> Bool} {j : Nat} (hj : j < b.Ao.toNat) : lv (Na b u) j ↔ ∃ k, k < b.Ac.length /\ u (k : Int) = true /\ (b.Ad.getD (Eh b (k : Int)).toNat default).A.toNat = j := by
 have key : ∀ (n : Nat), (lv ((List.range n).foldl (lit b u) (List.replicate b.Ao.toNat false)) j ↔ ∃ k, k < n /\ u (k : Int) = true /\ (b.Ad.getD (Eh b (k : Int)).toNat default).A.toNat = j) /\ ((List.range n).foldl (lit b u) (List.replicate b.Ao.toNat false)).length = b.Ao.toNat := by
  intro n
  induction n with
  | zero =>
   refine ⟨⟨λ hh => ?_, λ ⟨k, hk, _⟩ => by omega⟩, by simp⟩
   unfold lv at hh
   simp [List.getD_eq_getElem?_getD, List.getElem?_replicate] at hh
   split at hh <;> simp at hh
  | succ n ih =>
   obtain ⟨ih, hl⟩ := ih
   rw [bo, aP]
   simp only [be, List.foldl_nil]
   generalize (List.range n).foldl (lit b u) (List.replicate b.Ao.toNat false) = s at ih hl ⊢
   refine ⟨⟨λ hh => ?_, λ hh => ?_⟩, by rw [Nb]; exact hl⟩
   ·unfold lit at hh
    split at hh
    ·rename_i hu
     by_cases e : (b.Ad.getD (Eh b (n : Int)).toNat default).A.toNat = j
     ·exact ⟨n, by omega, hu, e⟩
     ·unfold lv at hh
      rw [aX, al, if_neg e, ← aX] at hh
      obtain ⟨k, hk, h2⟩ := ih.1 hh
      exact ⟨k, by omega, h2⟩
    ·obtain ⟨k, hk, h2⟩ := ih.1 hh
     exact ⟨k, by omega, h2⟩
   ·obtain ⟨k, hk, hu, he⟩ := hh
    by_cases e : k = n
    ·subst e
     unfold lit
     rw [if_pos hu]
     unfold lv
     rw [aX, al, if_pos he, if_pos (by omega)]; rfl
    ·exact Ave (ih.2 ⟨k, by omega, hu, he⟩)
 exact (key b.Ac.length).1
theorem Aat {b : Aa} (h : Aw b) {u sd : Int -> Bool} {i : Nat} (hi : lv (E1 b u sd) i) : (∃ k, k < b.Ac.length /\ u (k : Int) = true /\ (b.Ad.getD (Eh b (k : Int)).toNat default).A.toNat = i) \/ ∃ j, Tie (Gi b sd) j i := by
 have hlt := Vb hi
 rw [Pt] at hlt
 obtain ⟨j, hj, r, hc⟩ := (Nm h).1 hi
 have key : ∀ (r i : Nat), Ce (Gi b sd) j r i -> i = j \/ ∃ k, Tie (Gi b sd) k i := by
  intro r i hc
  induction hc with
  | refl => exact .inl rfl
  | stay _ ih => exact ih
  | step _ t _ => exact .inr ⟨_, t⟩
 rcases key r i hc with e | t
 ·subst e
  exact .inl ((Aam hlt).1 hj)
 ·exact .inr t
theorem Aau {b : Aa} (h : Aw b) {u sd : Int -> Bool} {k : Nat} (hk : k < b.Ac.length) (hu : u (k : Int) = true) (hA : (b.Ad.getD (Eh b (k : Int)).toNat default).A.toNat < b.Ao.toNat) : lv (E1 b u sd) (b.Ad.getD (Eh b (k : Int)).toNat default).A.toNat :=
 (Nm h).2 ⟨_, (Aam hA).2 ⟨k, hk, hu, rfl⟩, D2.refl _ _⟩
theorem Awe {α : Type} (g : Bool) (v d : α) : Ax [(g, false)] (some v) d = some (bif g then d else v) := by cases g <;> rfl
theorem Ra {α : Type} (g : Bool) (v d : α) : Ax [(g, true)] (some v) d = some (bif g then v else d) := by cases g <;> rfl
def Iw (b : Aa) (p : Ab) (j : Int) : Bool :=
  ((!p.Ah.getD j.toNat false && !brk p.Ak 2 j) && !brk p.Ak 3 (b.Ad.getD j.toNat default).A) &&
  (if (b.Ad.getD j.toNat default).Kind = 1 then !brk p.Ak 3 (b.Ad.getD j.toNat default).B
   else if (b.Ad.getD j.toNat default).Kind = 2 then !brk p.Ak 1 (b.Ad.getD j.toNat default).B && ((p.Ac.getD (b.Ad.getD j.toNat default).B.toNat default).State == 2)
   else !brk p.Ak 4 (b.Ad.getD j.toNat default).B && !(Ew (Dr b p 3 (b.Ad.getD j.toNat default).B)).2)
theorem Akv {b : Aa} (h : Aw b) {p : Ab} (hp : Ay b p) {j : Int} (h0 : 0 <= j) (h1 : j < b.Ad.length) : T3 b p j = some (Iw b p j) := by
 have hbl : p.Ak.length <= 1000 := by have := hp.brk.len; omega
 have hn := hp.nso
 have hc := hp.ncl
 obtain ⟨x, hx⟩ : ∃ x, b.Ad[j.toNat]? = some x := ⟨_, af (by omega)⟩
 have hd := Gt hx
 have hb := h.br x (ae hx)
 unfold Fu at hb
 have g1 : getI b.Ad j = some x := by have := Ba hx; rwa [aU h0] at this
 have g2 : getI p.Ah j = some (p.Ah.getD j.toNat false) := by have := Ba (jM hp (j := j.toNat) (by omega)); rwa [aU h0] at this
 unfold T3 Iw
 rw [g1, g2, hd]
 simp only [ab, D6 hbl, Awe]
 generalize p.Ah.getD j.toNat false = v
 generalize brk p.Ak 2 j = b2
 generalize brk p.Ak 3 x.A = b3
 cases v with
 | true => simp
 | false =>
  cases b2 with
  | true => simp
  | false =>
   cases b3 with
   | true => simp
   | false =>
    simp only [Bool.or_false, cond_false, Bool.not_false, bp, aO, Bool.or_self]
    rcases hb.2 with ⟨hk, _⟩ | ⟨hk, k0, k1⟩ | ⟨hk, _⟩
    ·rw [hk]; rfl
    ·rw [hk]
     have g3 : getI p.Ac x.B = some (p.Ac.getD x.B.toNat default) := by
      have e : p.Ac[x.B.toNat]? = some (p.Ac.getD x.B.toNat default) := by
       rw [af (by omega)]; simp [List.getD, List.getElem?_eq_getElem (show x.B.toNat < p.Ac.length by omega)]
      have := Ba e; rwa [aU k0] at this
     rw [g3]
     simp only [Ra, ab]
     cases brk p.Ak 1 x.B <;> rfl
    ·rw [hk]
     unfold F86
     rw [B6 h hp, Aa3 h hc]
     rfl
theorem Azq {b : Aa} (h : Aw b) {p : Ab} (hp : Ay b p) (j : Int) : Ok (T7 b p j) λ y => y ≠ 0 \/ ((0 <= j /\ j < b.Ad.length) /\ Iw b p j = true) := by
 unfold T7
 rw [B6 h hp]
 simp only [ab]
 refine c3 (λ hc => by simp at hc) (λ _ => c3 (λ _ => Ok.pure (.inl (by simp))) (λ hr => ?_))
 simp only [Abp, aQ, da] at hr
 rw [Akv h hp (by omega) (by omega)]
 simp only [ab]
 refine c3 (λ _ => Ok.pure (.inl (by simp))) (λ h2 => ?_)
 simp only [bY] at h2
 refine (c7 (by omega) (by omega)).bind λ x hx => (Awd h hp x.A).bind λ z hz => ?_
 refine Ok.bind (P := λ _ => True) (cE (λ _ => cL (Cf _ _ hz)) λ _ => trivial) λ _ _ => ?_
 refine Ok.bind (P := λ _ => True) (cE (λ _ => Ae9 h hp hx) λ _ => trivial) λ _ _ => ?_
 exact c3 (λ _ => Ok.pure (.inl (by simp))) (λ _ => Ok.pure (.inr ⟨⟨by omega, by omega⟩, h2⟩))
theorem Aku {b : Aa} {p : Ab} {j : Int} {x : Af} (hx : b.Ad[j.toNat]? = some x) (hs : Iw b p j = true) (hk : x.Kind = 3) : Dr b p 3 x.B = none := by
 unfold Iw at hs
 rw [Gt hx, hk] at hs
 simp only [ac] at hs
 have := hs.2
 simp at this
 exact jC this.2
def Auq (b : Aa) (p : Ab) (j : Nat) : Ab := ⟨p.Ah.set j true, E9 b ⟨p.Ah.set j true, p.Ac, p.As, p.Ak⟩, p.As, p.Ak⟩
theorem Axf {b : Aa} (h : Aw b) {p : Ab} (hp : Ay b p) (j : Int) : Ok (Qm b p j) λ y => y.2 ≠ 0 \/ ((0 <= j /\ j < b.Ad.length) /\ Iw b p j = true /\ y.1 = Auq b p j.toNat) := by
 have hn := hp.ncl
 unfold Qm
 rw [Ea h hp]
 simp only [ab]
 refine (Azq h hp j).bind λ y hy => c3 (λ hc => Ok.pure (.inl (by simpa using hc))) (λ hc => ?_)
 simp only [dh] at hc
 rcases hy with hy | ⟨hr, hf⟩
 ·exact absurd hc hy
 ·refine (c7 hr.1 (by omega)).bind λ _ _ => (c9 hr.1 (by omega)).bind λ z hz => ?_
  obtain ⟨x, hx⟩ : ∃ x, b.Ad[j.toNat]? = some x := ⟨_, af (by omega)⟩
  have hq := Ant hp hx (Aku hx hf)
  rw [hz]
  rw [jE h hq]
  exact Ok.pure (.inr ⟨hr, hf, rfl⟩)
def mayC (b : Aa) (p : Ab) (k : Nat) (x : Af) : Prop := brk p.Ak 2 (k : Int) = false /\ brk p.Ak 3 x.A = false /\ (x.Kind = 1 -> brk p.Ak 3 x.B = false) /\ (x.Kind = 2 -> brk p.Ak 1 x.B = false /\ (p.Ac.getD x.B.toNat default).State = 2)
theorem Akt {b : Aa} {p : Ab} {k : Nat} {x : Af} (hx : b.Ad[k]? = some x) (hs : Iw b p (k : Int) = true) : mayC b p k x := by
 unfold Iw at hs
 rw [ar, Gt hx] at hs
 simp only [ac, aV] at hs
 obtain ⟨⟨⟨_, h2⟩, h3⟩, h4⟩ := hs
 refine ⟨h2, h3, λ hk => ?_, λ hk => ?_⟩
 ·rw [if_pos hk] at h4; simpa using h4
 ·rw [if_neg (by omega), if_pos hk] at h4
  simpa using h4
structure Le (b : Aa) (p q : Ab) : Prop where
 brk : q.Ak = p.Ak
 off : ∀ i : Nat, (p.Ac.getD i default).State = 3 -> (q.Ac.getD i default).State = 3
 cl : ∀ (k : Nat) x, b.Ad[k]? = some x -> q.Ah.getD k false = true -> p.Ah.getD k false = true \/ mayC b p k x
def Wm (b : Aa) (p : Ab) (y : Int × Az) : Prop := y.1 ≠ 0 \/ Le b p y.2.Ap
theorem H_ {b : Aa} {p : Ab} {S : List Ae} {L : List Int} (hs : ∀ i : Nat, (p.Ac.getD i default).State = 3 -> (S.getD i default).State = 3) : Le b p ⟨p.Ah, S, L, p.Ak⟩ := ⟨rfl, hs, λ _ _ _ h => .inl h⟩
theorem Ss {ss : List Ae} {n : Nat} {y : Ae} (hn : (ss.getD n default).State ≠ 3) (i : Nat) (h : (ss.getD i default).State = 3) : ((ss.set n y).getD i default).State = 3 := by
 rw [Aaw]
 split
 ·rename_i e
  rw [← e.1] at h
  exact absurd h hn
 ·exact h
theorem Axg {b : Aa} (h : Aw b) {p : Ab} (hp : Ay b p) (j : Int) : Ok (Qm b p j) λ y => y.2 ≠ 0 \/ Le b p y.1 :=
 (Axf h hp j).mono λ y hy => hy.imp id λ ⟨hr, hs, e⟩ => by
  rw [e]
  have ej : ((j.toNat : Nat) : Int) = j := by omega
  refine ⟨rfl, λ i hi => ?_, λ k x hx hk => ?_⟩
  ·show ((E9 b _).getD i default).State = 3
   rw [qV]; exact hi
  ·by_cases e2 : k = j.toNat
   ·rw [← ej, ← e2] at hs
    exact .inr (Akt hx hs)
   ·left
    have hk : (p.Ah.set j.toNat true).getD k false = true := hk
    rw [aX, al, if_neg (λ e => e2 e.symm), ← aX] at hk
    exact hk
theorem Ayb {b : Aa} (h : Aw b) {p : Ab} (hp : Ay b p) (i : Int) : Par (Ua b p i) λ y => y.2 ≠ 0 \/ Le b p y.1 := by
 unfold Ua
 rw [B6 h hp, Ea h hp]
 simp only [ab, di, cond_false]
 refine Par.cond (Par.pure (.inl (by simp))) (Par.bind λ _ _ => Par.bind λ _ _ => Par.cond (Par.pure (.inl (by simp))) (Par.bind λ _ _ => Par.bind λ y hy => Par.pure (.inr ?_)))
 have e := (Kz hy).1
 subst e
 refine ⟨rfl, λ _ hi => hi, λ k _ _ hk => .inl ?_⟩
 simp only [List.getD, al] at hk ⊢
 split at hk
 ·split at hk <;> simp at hk
 ·exact hk
theorem Avc {b : Aa} (h : Aw b) {p : Ab} (hp : Ay b p) (i n : Int) : Ok (T_ b p i n) λ y => y.2 ≠ 0 \/ Le b p y.1 := by
 have hn := hp.nso
 unfold T_
 rw [B6 h hp, Ea h hp]
 simp only [ab]
 refine c3 (λ hc => by simp at hc) (λ _ => c3 (λ _ => Ok.pure (.inl (by simp))) (λ hr => ?_))
 simp only [Abr, aQ, da] at hr
 refine (K_ h hp n).bind λ y hy => ?_
 refine Ok.bind (P := λ _ => True) (cE (λ _ => cD (by omega) (by omega)) λ _ => trivial) λ u _ => ?_
 refine c3 (λ _ => Ok.pure (.inl (by simp))) (λ hc => ?_)
 simp only [aQ, bY] at hc
 have hy := hy hc.1
 unfold Ad5
 rw [B6 h hp, Kl h hp]
 simp only [ab, di, cond_false]
 refine c3 (λ _ => ?_) (λ _ => ?_)
 ·refine (Ahh h hp _).bind λ z hz => (c7 hy.1 hy.2).bind λ w hw => ?_
  rw [O4 hz]
  exact Ok.pure (.inr (H_ λ j hj => by rw [Jl]; exact hj))
 ·refine (c7 hy.1 hy.2).bind λ w hw => ?_
  have hz : ∀ k, k ∈ [i] -> 0 <= k /\ k < p.Ac.length := λ k hk => by
   simp only [bq] at hk
   subst hk; omega
  rw [O4 hz]
  exact Ok.pure (.inr (H_ λ j hj => by rw [Jl]; exact hj))
theorem Afz {l : List Ae} {i : Int} {y : Ae} (h : getI l i = some y) : l.getD i.toNat default = y := by
 unfold getI at h
 cases hd : decide (0 <= i) with
 | false => rw [hd] at h; cases h
 | true =>
  rw [hd] at h
  have h : l[i.toNat]? = some y := h
  simp [List.getD, h]
theorem Au8 {b : Aa} (p : Ab) (t : Int) (i : Int) : Par (Ku ⟨b, p, t⟩ i) (Wm b p) := by
 unfold Ku
 refine Par.bind λ u hu => Par.bind λ v _ => ?_
 cases hq : ((u.State != 0) || v) with
 | true => exact Par.pure (.inl (by simp))
 | false =>
  simp only [aQ, dh] at hq
  have hn : (p.Ac.getD i.toNat default).State ≠ 3 := by rw [Afz hu, hq.1]; decide
  refine Par.bind λ _ _ => Par.bind λ _ _ => Par.cond (Par.bind λ y hy => Par.pure (.inr ?_)) (Par.bind λ y hy => Par.pure (.inr ?_))
  ·rw [(Kz hy).1]; exact H_ (Ss hn)
  ·rw [(Kz hy).1]; exact H_ (Ss hn)
theorem Ax9 {b : Aa} (p : Ab) (t : Int) (i : Int) : Par (Kt ⟨b, p, t⟩ i) (Wm b p) := by
 unfold Kt
 refine Par.bind λ u hu => Par.bind λ v _ => ?_
 cases hq : Tk u v with
 | true => exact Par.pure (.inl (by simp))
 | false =>
  have hn : (p.Ac.getD i.toNat default).State ≠ 3 := by
   rw [Afz hu]
   intro e
   simp [Tk, e] at hq
  refine Par.bind λ y hy => Par.pure (.inr ?_)
  rw [(Kz hy).1]; exact H_ (Ss hn)
theorem Avf {b : Aa} (p : Ab) (t : Int) (i v : Int) : Par (Ks ⟨b, p, t⟩ i v) (Wm b p) := by
 unfold Ks
 exact Par.bind λ _ _ => Par.cond (Par.pure (.inl (by simp))) (Par.bind λ _ _ => Par.bind λ _ _ => Par.pure (.inr (H_ λ _ h => h)))
theorem Agv {b : Aa} {p : Ab} (hp : Ay b p) (t : Int) (i : Nat) (h : (p.Ac.getD i default).State = 3) : ((wtS b p t).Ac.getD i default).State = 3 := by
 by_cases hi : i < p.Ac.length
 ·rw [Au6 t hi]
  unfold F3
  split
  ·rename_i hh
   have := hh.1.1
   rw [Uf, h] at this
   cases this
  ·rw [Uf]; exact h
 ·have e : p.Ac.getD i default = default := by simp [List.getD, List.getElem?_eq_none (show p.Ac.length <= i by omega)]
  rw [e] at h
  cases h
theorem doQ {b : Aa} (h : Aw b) {p : Ab} (hp : Ay b p) (t : Int) {a : An} (hk : 1 <= a.Kind /\ a.Kind <= 7) : Par (N2 ⟨b, p, t⟩ a) (Wm b p) := by
 have e : a.Kind = 1 \/ a.Kind = 2 \/ a.Kind = 3 \/ a.Kind = 4 \/ a.Kind = 5 \/ a.Kind = 6 \/ a.Kind = 7 := by omega
 unfold N2
 rcases e with e | e | e | e | e | e | e <;> rw [e]
 ·exact Par.bind λ y hy => Par.pure ((Axg h hp _).get hy)
 ·exact Par.bind λ y hy => Par.pure (Ayb h hp _ y hy)
 ·exact Par.bind λ y hy => Par.pure (Au8 p t _ y hy)
 ·exact Par.bind λ y hy => Par.pure (Ax9 p t _ y hy)
 ·exact Par.bind λ y hy => Par.pure (Avf p t _ _ y hy)
 ·exact Par.bind λ y hy => Par.pure ((Avc h hp _ _).get hy)
 ·refine Par.bind λ y hy => Par.pure (.inr ?_)
  have hy : I9 ⟨b, p, t⟩ = some y := hy
  rw [Atu h hp] at hy
  cases hy
  exact H_ (Agv hp t)
theorem A09 {b : Aa} (h : Aw b) {p : Ab} (hp : Ay b p) (t : Int) {a : An} (ha : a.Kind ≠ 8 /\ a.Kind ≠ 9) : (Ig b p t a).2 ≠ 0 \/ Le b p (Ig b p t a).1 := by
 have key : Par (F27 b p t a) λ y => y.2 ≠ 0 \/ Le b p y.1 := by
  unfold F27
  rw [B6 h hp, Ea h hp]
  simp only [ab, di, cond_false]
  cases hc : uH t a with
  | true => exact Par.pure (.inl (by simp))
  | false =>
   have hk : 1 <= a.Kind /\ a.Kind <= 7 := by
    simp only [uH, aQ, da] at hc
    omega
   refine Par.bind λ _ _ => Par.cond (Par.pure (.inl (by simp))) (Par.bind λ y hy => ?_)
   have hd := doQ h hp t hk y hy
   cases hq : (y.1 != 0) with
   | true => exact Par.pure (.inl (by simpa using hq))
   | false =>
    refine Par.pure ?_
    rcases hd with e | e
    ·simp at hq; exact absurd hq e
    ·exact .inr e
 exact key _ (Af9 h hp t a).1
structure Ty (b : Aa) (p q : Ab) : Prop where
 st : Ay b q
 brk : q.Ak = p.Ak
 off : ∀ i : Nat, (p.Ac.getD i default).State = 3 -> (q.Ac.getD i default).State = 3
 safe : ∀ (k : Nat) x, b.Ad[k]? = some x -> q.Ah.getD k false = true -> Go.Proofs.YtcigbocngfaopaaGreat.brk p.Ak 2 (k : Int) = false /\ Go.Proofs.YtcigbocngfaopaaGreat.brk p.Ak 3 x.A = false /\ (x.Kind = 1 -> Go.Proofs.YtcigbocngfaopaaGreat.brk p.Ak 3 x.B = false) /\ (x.Kind = 2 -> Go.Proofs.YtcigbocngfaopaaGreat.brk p.Ak 1 x.B = false)
theorem Ty.keeps {b : Aa} {p q r : Ab} (u : Ty b p q) (hr : Ay b r) (v : Le b q r) : Ty b p r where
 st := hr
 brk := v.brk.trans u.brk
 off i hi := v.off i (u.off i hi)
 safe k x hx hk := by
  rcases v.cl k x hx hk with h1 | ⟨h1, h2, h3, h4⟩
  ·exact u.safe k x hx h1
  ·rw [u.brk] at h1 h2 h3 h4
   exact ⟨h1, h2, h3, λ e => (h4 e).1⟩
theorem Anp {b : Aa} (h : Aw b) {p q : Ab} (u : Ty b p q) {n : Nat} (hn : n < b.Ao.toNat) (hg : ¬ lv (E1 b (Bm b p) (Bt b p.Ak)) n) : Gx b q n = false := by
 have hq := u.st
 unfold Gx
 rw [da]
 intro hp0
 obtain ⟨i, hi⟩ : ∃ i, i ∈ (isl b q ((groups b q).getD n 0).toNat).Ac := by
  cases hl : (isl b q ((groups b q).getD n 0).toNat).Ac with
  | nil => rw [hl] at hp0; simp at hp0
  | cons y l => exact ⟨y, ak⟩
 obtain ⟨k, rfl, hk2, e1⟩ := At1.1 hi
 unfold E0 at e1
 rw [Option.map_eq_some_iff] at e1
 obtain ⟨a, h1, h2⟩ := e1
 have ha := Th h h1
 have hgn := Gd h q (n := n) hn
 have heq : (groups b q).getD a.toNat 0 = (groups b q).getD n 0 := by rw [h2]; exact hgn.2.2
 obtain ⟨r, hcn⟩ := (Nj h q (by omega) hn).1 heq
 obtain ⟨eb, _, k2, kB, hgb⟩ := G5 h hk2
 rw [Abk h hq hk2] at h1
 split at h1
 ·rename_i hc
  obtain ⟨s1, s2, _, s4⟩ := u.safe _ _ hgb hc.2
  have s5 := s4 k2
  have hA := cq h1
  have hus : Bm b p (k : Int) = true := by
   unfold Bm Bt
   rw [eb, ar]
   rw [kB] at s5
   have : ((p.Ac.getD (k : Int).toNat default).State != 3) = true := by
    rw [ar, bne_iff_ne]
    intro e
    have := u.off k e
    rw [hc.1] at this
    cases this
   dsimp only
   rw [s1, s2, s5, k2, this]
   rfl
  have hl := Aau h (u := Bm b p) (sd := Bt b p.Ak) hk2 hus (by rw [eb, ar, hA]; omega)
  rw [eb, ar, hA] at hl
  have key : ∀ (r m : Nat), Ce (B9 b q) a.toNat r m -> lv (E1 b (Bm b p) (Bt b p.Ak)) m := by
   intro r m hc
   induction hc with
   | refl => exact hl
   | stay _ ih => exact ih
   | step _ t ih =>
    obtain ⟨m, x, hx, hk, hcl, he⟩ := (Atz hq.ncl).1 t
    obtain ⟨t1, t2, t3, _⟩ := u.safe _ _ hx hcl
    refine S_ h (F2.2 ⟨m, x, hx, hk, ?_, he⟩) ih
    unfold Bt
    rw [ar, Gt hx]
    simp [t1, t2, t3 hk]
  exact hg (key r n hcn)
 ·cases h1
end Go.Proofs.YtcigbocngfaopaaGreat
