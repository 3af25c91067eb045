import Derived.Test.YthgnbpdjncbkfaaGreatMo
import Derived.Test.YthgnbpdjncbkfaaGreatHo
namespace Go.Proofs.YthgnbpdjncbkfaaGreat
open Go.SL
theorem Lw {x n : Int} (h : 0 < n) : -n < Int.tmod x n /\ Int.tmod x n < n := by
 have h1 := Int.tmod_lt_of_pos x h
 have h2 := Int.lt_tmod_of_pos x h
 exact ⟨h2, h1⟩
theorem Amv {x n : Int} (h : 0 < n) (h0 : 0 <= x) : 0 <= Int.tmod x n /\ Int.tmod x n < n := ⟨Int.tmod_nonneg n h0, (Lw h).2⟩
structure Bu (s : Ah) : Prop where
 lo : 0 <= s.At
 hi : s.At <= s.L.length
 len : s.L.length <= 600
def InR (n r : Int) : Prop := (1 <= n -> 0 <= r /\ r < n) /\ (n < 1 -> r = 0)
theorem A8g (x n : Int) (h : n <= 4611686018427387904) : Ok (F80 x n) (InR n) := by
 unfold F80
 refine Ok.cond (λ h1 => ?_) λ h1 => ?_
 ·simp only [decide_eq_true_eq] at h1
  exact Ok.pure ⟨λ h2 => by omega, λ _ => rfl⟩
 ·simp only [decide_eq_false_iff_not] at h1
  refine (Ok.nzI (by omega)).bind λ _ _ => (Ok.nzI (by omega)).bind λ _ _ => Ok.pure ⟨λ _ => ?_, λ h2 => by omega⟩
  have h2 := Lw (x := x) (n := n) (by omega)
  rw [A8 (by omega)]
  exact Amv (by omega) (by omega)
theorem Uz {s : Ah} (hs : Bu s) (n : Int) (h : n <= 4611686018427387904) : Ok (F32 s n) λ y => Bu y.2 /\ InR n y.1 := by
 obtain ⟨h1, h2, h3⟩ := hs
 unfold F32
 refine Ok.cond (λ h4 => ?_) λ h4 => ?_
 ·exact Ok.pure ⟨⟨h1, h2, h3⟩, λ h5 => ⟨by simp, by show (0 : Int) < n; omega⟩, λ _ => rfl⟩
 ·simp only [decide_eq_false_iff_not] at h4
  have e : w64 (s.At + 1) = s.At + 1 := A8 (by omega)
  rw [e, A8 (n := s.At + 1 - 1) (by omega)]
  refine (Ok.getI (by omega) (by omega)).bind λ x _ => (A8g x n h).bind λ r hr => Ok.pure ⟨⟨?_, ?_, h3⟩, hr⟩
  ·show 0 <= s.At + 1; omega
  ·show s.At + 1 <= (s.L.length : Int); omega
theorem Fd {s : Ah} (hs : Bu s) (n : Int) (h0 : 1 <= n) (h : n <= 4611686018427387904) : Ok (F32 s n) λ y => Bu y.2 /\ 0 <= y.1 /\ y.1 < n :=
 (Uz hs n h).mono λ _ h => ⟨h.1, h.2.1 h0⟩
theorem Hq {s : Ah} (hs : Bu s) (lo hi : Int) (h : lo <= hi) (h0 : -1000000000000 <= lo) (h1 : hi <= 1000000000000) : Ok (F78 s lo hi) λ y => Bu y.2 /\ lo <= y.1 /\ y.1 <= hi := by
 unfold F78
 have e : w64 (w64 (hi - lo) + 1) = hi - lo + 1 := by rw [A8 (n := hi - lo) (by omega), A8 (by omega)]
 rw [e]
 refine (Fd hs _ (by omega) (by omega)).bind λ y hy => Ok.pure ⟨hy.1, ?_⟩
 have := hy.2
 show lo <= w64 (lo + y.1) /\ w64 (lo + y.1) <= hi
 rw [A8 (by omega)]
 omega
theorem D7 {s : Ah} (hs : Bu s) (l : List Int) (h : 1 <= l.length) (h1 : l.length <= 1000) : Ok (F40 s l) λ y => Bu y.2 /\ y.1 ∈ l := by
 unfold F40
 refine (Fd hs _ (by omega) (by omega)).bind λ y hy => ?_
 have := hy.2
 refine (Ok.getI (by omega) (by omega)).bind λ x hx => Ok.pure ⟨hy.1, af hx⟩
theorem A8f (l : List Int) : Ok (F8 l) Bu := by
 unfold F8
 refine (Ok.cutI (by omega) (by omega) (by omega)).bind λ y hy => Ok.pure ⟨by simp, by simp, ?_⟩
 subst hy
 simp only [bV, aO]
 omega
def R9 (nb : Int) (ns nc : Nat) (x : Aj) : Prop :=
 (0 <= x.A /\ x.A < nb) /\ ((x.Kind = 1 /\ x.A < x.B /\ x.B < nb) \/ (x.Kind = 2 /\ 0 <= x.B /\ x.B < ns) \/ (x.Kind = 3 /\ 0 <= x.B /\ x.B < nc))
def brs (l : List Aj) (k : Int) (i : Nat) : List Aj := l.filter λ x => x.Kind == k && x.B == (i : Int)
def Ary (x : Bh) : Prop := (1 <= x.Rating /\ x.Rating <= 50000) /\ (0 <= x.Least /\ x.Least <= x.Rating) /\ 0 <= x.Start /\ x.Start <= 600
def As8 (i : Nat) (x : A3) : Prop :=
 (0 <= x.Load /\ x.Load <= 50000) /\ (0 <= x.Least /\ x.Least <= x.Load) /\ (0 <= x.B4 /\ x.B4 <= 15) /\ (-1 <= x.Thruster /\ x.Thruster <= 7) /\ x.Needs.length <= 4 /\
 (∀ n, n ∈ x.Needs -> 0 <= n /\ n < (i : Int)) /\ ∀ (j : Nat) a b, x.Needs[j]? = some a -> x.Needs[j + 1]? = some b -> a < b
structure Au (b : Aa) : Prop where
 buses : 1 <= b.Al /\ b.Al <= 6
 brl : b.Ad.length <= 24
 sol : b.Ac.length <= 8
 col : b.Af.length <= 16
 phase : 0 <= b.Phase /\ b.Phase <= 1800
 freq : 0 <= b.An /\ b.An <= 6000
 br : ∀ x, x ∈ b.Ad -> R9 b.Al b.Ac.length b.Af.length x
 one : ∀ i, i < b.Ac.length -> (brs b.Ad 2 i).length = 1
 any : ∀ i, i < b.Af.length -> brs b.Ad 3 i ≠ []
 nodup : ∀ i, ((brs b.Ad 3 i).map (·.A)).Nodup
 so : ∀ x, x ∈ b.Ac -> Ary x
 co : ∀ (i : Nat) x, b.Af[i]? = some x -> As8 i x
theorem Gq (l m : List Aj) (k : Int) (i : Nat) : brs (l ++ m) k i = brs l k i ++ brs m k i := by unfold brs; rw [bj]
theorem Aoo (x : Aj) (k : Int) (i : Nat) : brs [x] k i = if x.Kind = k /\ x.B = (i : Int) then [x] else [] := by
 unfold brs
 simp only [bk, List.filter_nil, ac, beq_iff_eq]
theorem Kk {l : List Aj} {k : Int} {i : Nat} (h : ∀ x, x ∈ l -> x.Kind = k -> x.B ≠ (i : Int)) : brs l k i = [] := by
 unfold brs
 rw [List.filter_eq_nil_iff]
 intro x hx
 simp only [ac, beq_iff_eq, not_and]
 exact h x hx
def Nk (nb : Int) (l : List Aj) : Prop := ∀ x, x ∈ l -> x.Kind = 1 /\ 0 <= x.A /\ x.A < x.B /\ x.B < nb
structure Ry (nb : Int) (l : List Aj) (so : List Bh) : Prop where
 len : l.length <= 4 + so.length
 br : ∀ x, x ∈ l -> (0 <= x.A /\ x.A < nb) /\ ((x.Kind = 1 /\ x.A < x.B /\ x.B < nb) \/ (x.Kind = 2 /\ 0 <= x.B /\ x.B < so.length))
 one : ∀ i, i < so.length -> (brs l 2 i).length = 1
 so : ∀ x, x ∈ so -> Ary x
structure jD (nb : Int) (l : List Aj) (ns : Nat) (co : List A3) : Prop where
 len : l.length <= 4 + ns + 2 * co.length
 br : ∀ x, x ∈ l -> R9 nb ns co.length x
 one : ∀ i, i < ns -> (brs l 2 i).length = 1
 any : ∀ i, i < co.length -> brs l 3 i ≠ []
 nodup : ∀ i, ((brs l 3 i).map (·.A)).Nodup
 co : ∀ (i : Nat) x, co[i]? = some x -> As8 i x /\ x.Thruster <= 2
theorem Ry.cons {nb : Int} {l : List Aj} {so : List Bh} (h : Ry nb l so) : jD nb l so.length [] where
 len := by have := h.len; simp; omega
 br x hx := by
  obtain ⟨h1, h2⟩ := h.br x hx
  exact ⟨h1, h2.imp id .inl⟩
 one := h.one
 any i hi := by simp at hi
 nodup i := by
  rw [Kk]
  ·simp
  ·intro x hx h3
   obtain ⟨_, h2⟩ := h.br x hx
   omega
 co i x hx := by simp at hx
theorem Ry.add {nb : Int} {l : List Aj} {so : List Bh} (h : Ry nb l so) {x : Aj} {y : Bh} (hx : x.Kind = 2 /\ x.B = so.length /\ 0 <= x.A /\ x.A < nb) (hy : Ary y) : Ry nb (l ++ [x]) (so ++ [y]) where
 len := by have := h.len; simp; omega
 br z hz := by
  rcases au.1 hz with hz | hz
  ·obtain ⟨h1, h2⟩ := h.br z hz
   refine ⟨h1, ?_⟩
   rw [aJ]
   simp only [aU, bT]
   omega
  ·simp at hz; subst hz
   refine ⟨hx.2.2, .inr ⟨hx.1, ?_⟩⟩
   rw [aJ]
   simp only [aU, bT]
   omega
 one i hi := by
  rw [aJ] at hi
  simp only [aU, bT] at hi
  rw [Gq, Aoo, aJ]
  by_cases e : i = so.length
  ·rw [Kk, if_pos ⟨hx.1, by omega⟩]
   ·rfl
   ·intro z hz h2
    obtain ⟨_, h3⟩ := h.br z hz
    omega
  ·rw [h.one i (by omega), if_neg (by omega)]; rfl
 so z hz := by
  rcases au.1 hz with hz | hz
  ·exact h.so z hz
  ·simp at hz; subst hz; exact hy
theorem jD.add {nb : Int} {l m : List Aj} {ns : Nat} {co : List A3} (h : jD nb l ns co) {y : A3} (hm : ∀ x, x ∈ m -> x.Kind = 3 /\ x.B = co.length /\ 0 <= x.A /\ x.A < nb) (h1 : m ≠ []) (h2 : m.length <= 2) (h3 : (m.map (·.A)).Nodup)
  (hy : As8 co.length y /\ y.Thruster <= 2) : jD nb (l ++ m) ns (co ++ [y]) := by
 have e1 : brs m 3 co.length = m := by
  unfold brs
  rw [cA]
  intro x hx
  obtain ⟨g1, g2, _⟩ := hm x hx
  simp [g1, g2]
 have e2 : ∀ i, i ≠ co.length -> brs m 3 i = [] := λ i hi => Kk λ x hx _ e => by
  have := (hm x hx).2.1
  omega
 have e3 : brs l 3 co.length = [] := Kk λ x hx h3 e => by
  obtain ⟨_, g⟩ := h.br x hx
  omega
 have hlen : (co ++ [y]).length = co.length + 1 := by simp
 refine ⟨?_, λ z hz => ?_, λ i hi => ?_, λ i hi => ?_, λ i => ?_, λ i x hx => ?_⟩
 ·have := h.len
  rw [aJ, hlen]; omega
 ·rw [hlen]
  rcases au.1 hz with hz | hz
  ·obtain ⟨g1, g2⟩ := h.br z hz
   exact ⟨g1, by omega⟩
  ·obtain ⟨g1, g2, g3⟩ := hm z hz
   exact ⟨g3, by omega⟩
 ·have : brs m 2 i = [] := Kk λ x hx h2 => by have := (hm x hx).1; omega
  rw [Gq, this, aS]
  exact h.one i hi
 ·rw [Gq]
  rw [hlen] at hi
  by_cases e : i = co.length
  ·subst e; rw [e1]; simp [h1]
  ·have := h.any i (by omega)
   simp [this]
 ·rw [Gq]
  by_cases e : i = co.length
  ·subst e; rw [e1, e3]; simpa using h3
  ·rw [e2 i e, aS]; exact h.nodup i
 ·rw [bO] at hx
  split at hx
  ·exact h.co i x hx
  ·rename_i hi
   have : i = co.length := by
    have := (ab.1 hx).1
    simp at this; omega
   subst this
   simp at hx; subst hx; exact hy
theorem Nk.nil (nb : Int) : Nk nb [] := λ x hx => by cases hx
theorem Nk.add {nb : Int} {l : List Aj} (h : Nk nb l) {x : Aj} (hx : x.Kind = 1 /\ 0 <= x.A /\ x.A < x.B /\ x.B < nb) : Nk nb (l ++ [x]) := λ z hz => by
 rcases au.1 hz with hz | hz
 ·exact h z hz
 ·simp at hz; subst hz; exact hx
theorem Nk.gens {nb : Int} {l : List Aj} (h : Nk nb l) (hl : l.length <= 4) : Ry nb l [] where
 len := by simpa using hl
 br x hx := by have := h x hx; exact ⟨by omega, .inl (by omega)⟩
 one i hi := by simp at hi
 so x hx := by cases hx
theorem A0a {y : Int × Ah} (hy : 1 <= y.1 /\ y.1 <= 4) {s0 : Ah} (hs0 : Bu s0) :
  Ok (whileN (vJ y) 1152921504606846976 (1, s0.L, s0.At, ([] : List Aj))) (Dt (λ s => Bu ⟨s.2.1, s.2.2.1⟩ /\ Nk y.1 s.2.2.2 /\ s.2.2.2.length <= 3) (λ (_ : Unit) => False)) := by
 refine Ok.whileN (λ s => (1 <= s.1 /\ s.1 <= 4 /\ s.1 <= y.1) /\ Bu ⟨s.2.1, s.2.2.1⟩ /\ Nk y.1 s.2.2.2 /\ (s.2.2.2.length : Int) + 1 <= s.1) (λ s => (y.1 - s.1).toNat) _ _ ?_ ?_ ?_
 ·exact ⟨by dsimp only; omega, hs0, Nk.nil _, by simp⟩
 ·dsimp only; omega
 ·rintro ⟨i, L, a, l⟩ ⟨⟨h1, h2, h3⟩, h4, h5, h6⟩
  dsimp only at h1 h2 h3 h4 h5 h6
  unfold vJ
  refine Ok.cond (λ h => ?_) (λ h => ?_)
  ·simp only [decide_eq_true_eq] at h
   have e : w64 (i + 1) = i + 1 := A8 (by omega)
   dsimp only
   rw [e]
   refine (Fd h4 6 (by omega) (by omega)).bind λ u hu => Ok.cond (λ _ => ?_) (λ _ => ?_)
   ·refine (Fd hu.1 i h1 (by omega)).bind λ v hv => (Ok.appI (by simp; omega)).bind λ m hm => Ok.next ?_
    subst hm
    have := hv.2
    refine ⟨⟨by dsimp only; omega, hv.1, h5.add ⟨rfl, by dsimp only; omega, by dsimp only; omega, by dsimp only; omega⟩, by simp; omega⟩, by dsimp only; omega⟩
   ·refine Ok.next ⟨⟨by dsimp only; omega, hu.1, h5, by dsimp only; omega⟩, by dsimp only; omega⟩
  ·exact Ok.brk ⟨h4, h5, by dsimp only; omega⟩
theorem Az9 {y : Int × Ah} (hy : 1 <= y.1 /\ y.1 <= 4) {s0 : Ah} (hs0 : Bu s0) {k : Int} (hk : 0 <= k /\ k < 5) {l0 : List Aj} (hl0 : Ry y.1 l0 []) :
  Ok (whileN (vI y) 1152921504606846976 (k, s0.L, s0.At, l0, ([] : List Bh))) (Dt (λ s => Bu ⟨s.2.1, s.2.2.1⟩ /\ Ry y.1 s.2.2.2.1 s.2.2.2.2 /\ s.2.2.2.2.length <= 4) (λ (_ : Unit) => False)) := by
 refine Ok.whileN (λ s => (0 <= s.1 /\ s.1 + (s.2.2.2.2.length : Int) <= 4) /\ Bu ⟨s.2.1, s.2.2.1⟩ /\ Ry y.1 s.2.2.2.1 s.2.2.2.2) (λ s => s.1.toNat) _ _ ?_ ?_ ?_
 ·exact ⟨by simp; omega, hs0, hl0⟩
 ·dsimp only; omega
 ·rintro ⟨i, L, a, l, so⟩ ⟨⟨h1, h2⟩, h4, h5⟩
  dsimp only at h1 h2 h4 h5
  unfold vI
  refine Ok.cond (λ h => ?_) (λ h => ?_)
  ·simp only [decide_eq_true_eq] at h
   have e : w64 (i - 1) = i - 1 := A8 (by omega)
   have hl := h5.len
   dsimp only
   rw [e]
   refine (Fd h4 y.1 hy.1 (by omega)).bind λ u hu => (Ok.appI (by simp; omega)).bind λ m hm => ?_
   refine (D7 hu.1 _ (by simp) (by simp)).bind λ v hv => (D7 hv.1 _ (by simp) (by simp)).bind λ p hp => (D7 hp.1 _ (by simp) (by simp)).bind λ q hq => (Ok.appI (by simp; omega)).bind λ o ho => Ok.next ?_
   subst hm; subst ho
   have g1 := hu.2
   have g2 : v.1 = 10 \/ v.1 = 50 \/ v.1 = 100 := by simpa using hv.2
   have g3 : p.1 = 0 \/ p.1 = 5 \/ p.1 = v.1 := by simpa using hp.2
   have g4 : q.1 = 0 \/ q.1 = 1 \/ q.1 = 3 := by simpa using hq.2
   refine ⟨⟨by simp; omega, hq.1, h5.add ⟨rfl, rfl, g1⟩ ⟨by dsimp only; omega, by dsimp only; omega, by dsimp only; omega⟩⟩, by dsimp only; omega⟩
  ·exact Ok.brk ⟨h4, h5, by dsimp only; omega⟩
theorem A21 {x : Int} (h : 0 <= x) (h2 : x <= 50000) : 0 <= w64 (Int.tdiv x 2) /\ w64 (Int.tdiv x 2) <= x := by
 have : Int.tdiv x 2 = x / 2 := Int.tdiv_eq_ediv_of_nonneg h
 rw [this, A8 (by omega)]
 omega
theorem Ayb {x : Int} (h : 0 <= x) (h2 : x <= 50000) : 0 <= w64 (Int.tdiv x 3) /\ w64 (Int.tdiv x 3) <= x := by
 have : Int.tdiv x 3 = x / 3 := Int.tdiv_eq_ediv_of_nonneg h
 rw [this, A8 (by omega)]
 omega
theorem Az8 {y : Int × Ah} (hy : 1 <= y.1 /\ y.1 <= 4) {s0 : Ah} (hs0 : Bu s0) {k : Int} (hk : 0 <= k /\ k < 6) {ns : Nat} (hns : ns <= 4) {l0 : List Aj} (hl0 : jD y.1 l0 ns []) :
  Ok (whileN (vH y) 1152921504606846976 (k, s0.L, s0.At, l0, ([] : List A3))) (Dt (λ s => Bu ⟨s.2.1, s.2.2.1⟩ /\ jD y.1 s.2.2.2.1 ns s.2.2.2.2 /\ s.2.2.2.2.length <= 5) (λ (_ : Unit) => False)) := by
 refine Ok.whileN (λ s => (0 <= s.1 /\ s.1 + (s.2.2.2.2.length : Int) <= 5) /\ Bu ⟨s.2.1, s.2.2.1⟩ /\ jD y.1 s.2.2.2.1 ns s.2.2.2.2) (λ s => s.1.toNat) _ _ ?_ ?_ ?_
 ·exact ⟨by simp; omega, hs0, hl0⟩
 ·dsimp only; omega
 ·rintro ⟨i, L, a, l, co⟩ ⟨⟨h1, h2⟩, h4, h5⟩
  dsimp only at h1 h2 h4 h5
  unfold vH
  refine Ok.cond (λ h => ?_) (λ h => ?_)
  ·simp only [decide_eq_true_eq] at h
   have e : w64 (i - 1) = i - 1 := A8 (by omega)
   have hl := h5.len
   dsimp only
   rw [e]
   refine (Fd h4 y.1 hy.1 (by omega)).bind λ u hu => (Ok.appI (by simp; omega)).bind λ m hm => ?_
   subst hm
   have g1 := hu.2
   refine Ok.bind (P := λ v => Bu v.2) (Ok.guard (λ _ => (Fd hu.1 4 (by omega) (by omega)).mono λ _ h => h.1) λ _ => hu.1) λ v hv => ?_
   refine Ok.inner (A := λ (r : List Aj) => ∃ m, r = l ++ m /\ (∀ x, x ∈ m -> x.Kind = 3 /\ x.B = co.length /\ 0 <= x.A /\ x.A < y.1) /\ m ≠ [] /\ m.length <= 2 /\ (m.map (·.A)).Nodup) (B := λ (_ : Unit) => False) ?_ (λ r hr => ?_) (λ _ h => h.elim)
   ·unfold Ak7
    refine Ok.cond (λ hc => ?_) (λ hc => ?_)
    ·simp only [ac, decide_eq_true_eq] at hc
     have e2 : w64 (u.1 + 1) = u.1 + 1 := A8 (by omega)
     rw [e2]
     refine (Ok.nzI (by omega)).bind λ _ _ => (Ok.appI (by simp; omega)).bind λ m hm => Ok.nextE ?_
     subst hm
     have g2 := Amv (x := u.1 + 1) (n := y.1) (by omega) (by omega)
     have g3 : Int.tmod (u.1 + 1) y.1 ≠ u.1 := by
      rw [cx (by omega)]
      intro e3
      by_cases g4 : u.1 + 1 = y.1
      ·rw [g4, Int.emod_self] at e3; omega
      ·rw [Int.emod_eq_of_lt (by omega) (by omega)] at e3; omega
     refine ⟨_, aL _ _ _, ?_, by simp, by simp, ?_⟩
     ·intro x hx
      simp at hx
      rcases hx with rfl | rfl
      ·exact ⟨rfl, rfl, g1⟩
      ·exact ⟨rfl, rfl, g2⟩
     ·simp
      exact λ h => g3 h.symm
    ·exact Ok.nextE ⟨_, rfl, λ x hx => by simp at hx; subst hx; exact ⟨rfl, rfl, g1⟩, by simp, by simp, by simp⟩
   ·obtain ⟨m, rfl, hm, hm1, hm2, hm3⟩ := hr
    refine (D7 hv _ (by simp) (by simp)).bind λ p hp => (D7 hp.1 _ (by simp) (by simp)).bind λ q hq => (Fd hq.1 3 (by omega) (by omega)).bind λ pr hpr => (Hq hpr.1 (-1) 2 (by omega) (by omega) (by omega)).bind λ th hth => ?_
    have k1 : p.1 = 0 \/ p.1 = 5 \/ p.1 = 20 \/ p.1 = 40 := by simpa using hp.2
    have k2 : q.1 = 0 \/ q.1 = w64 (Int.tdiv p.1 2) \/ q.1 = p.1 := by simpa using hq.2
    have k3 := A21 (x := p.1) (by omega) (by omega)
    have k4 := hpr.2
    have k5 := hth.2
    refine Ok.bind (P := λ v => Bu v.2) (Ok.guard (λ _ => (Fd hth.1 4 (by omega) (by omega)).mono λ _ h => h.1) λ _ => hth.1) λ w hw => Ok.cond (λ hc => ?_) (λ hc => ?_)
    ·simp only [A1x, ac, decide_eq_true_eq] at hc
     refine (Fd hw _ (by omega) (by omega)).bind λ n hn => (Ok.appI (by simp; omega)).bind λ o ho => Ok.next ?_
     subst ho
     have k6 := hn.2
     refine ⟨⟨by simp; omega, hn.1, h5.add hm hm1 hm2 hm3 ⟨⟨by dsimp only; omega, by dsimp only; omega, by dsimp only; omega, by dsimp only; omega, by simp, ?_, ?_⟩, by dsimp only; omega⟩⟩, by dsimp only; omega⟩
     ·intro z hz; simp at hz; subst hz; exact k6
     ·intro j a b ha hb
      simp at hb
    ·refine (Ok.appI (by simp; omega)).bind λ o ho => Ok.next ?_
     subst ho
     refine ⟨⟨by simp; omega, hw, h5.add hm hm1 hm2 hm3 ⟨⟨by dsimp only; omega, by dsimp only; omega, by dsimp only; omega, by dsimp only; omega, by simp, ?_, ?_⟩, by dsimp only; omega⟩⟩, by dsimp only; omega⟩
     ·intro z hz; simp at hz
     ·intro j a b ha hb; simp at ha
  ·exact Ok.brk ⟨h4, h5, by dsimp only; omega⟩
structure A8h (b : Aa) : Prop where
 ok : Au b
 buses : b.Al <= 4
 brl : b.Ad.length <= 18
 sol : b.Ac.length <= 4
 col : b.Af.length <= 5
 thr : ∀ x, x ∈ b.Af -> x.Thruster <= 2
theorem A01 {s : Ah} (hs : Bu s) : Ok (F29 s) λ y => A8h y.1 /\ Bu y.2 := by
 unfold F29
 refine (Hq hs 1 4 (by omega) (by omega) (by omega)).bind λ y1 h1 => (D7 h1.1 _ (by simp) (by simp)).bind λ y3 h3 => (D7 h3.1 _ (by simp) (by simp)).bind λ y5 h5 => ?_
 refine (A0a h1.2 h5.1).andThen (λ s0 hs0 => ?_) (λ _ h => h.elim)
 refine Ok.bind (P := λ v => Bu v.2) (Ok.guard (λ _ => (Fd hs0.1 2 (by omega) (by omega)).mono λ _ h => h.1) λ _ => hs0.1) λ y15 h15 => ?_
 have hb := h1.2
 refine Ok.andThen (A := λ (l : List Aj) => Nk y1.1 l /\ l.length <= 4) (B := λ (_ : Unit) => False) ?_ (λ l hl => ?_) (λ _ h => h.elim)
 ·unfold Ak8
  refine Ok.cond (λ hc => ?_) (λ hc => Ok.nextE ⟨hs0.2.1, by omega⟩)
  simp only [ac, decide_eq_true_eq] at hc
  have e : w64 (y1.1 - 1) = y1.1 - 1 := A8 (by omega)
  rw [e]
  have := hs0.2.2
  refine (Ok.appI (by simp; omega)).bind λ m hm => Ok.nextE ?_
  subst hm
  exact ⟨hs0.2.1.add ⟨rfl, by simp, by dsimp only; omega, by dsimp only; omega⟩, by simp; omega⟩
 ·refine (Fd h15 5 (by omega) (by omega)).bind λ y20 h20 => ?_
  refine (Az9 h1.2 h20.1 h20.2 (hl.1.gens hl.2)).andThen (λ s2 hs2 => ?_) (λ _ h => h.elim)
  refine (Fd hs2.1 6 (by omega) (by omega)).bind λ y35 h35 => ?_
  refine (Az8 h1.2 h35.1 h35.2 hs2.2.2 hs2.2.1.cons).andThen (λ s3 hs3 => Ok.pure ⟨?_, hs3.1⟩) (λ _ h => h.elim)
  obtain ⟨_, hc, hl5⟩ := hs3
  have hl4 := hs2.2.2
  have hlen := hc.len
  have p3 : y3.1 = 0 \/ y3.1 = 50 \/ y3.1 = 200 \/ y3.1 = 1800 := by simpa using h3.2
  have p5 : y5.1 = 0 \/ y5.1 = 10 \/ y5.1 = 50 := by simpa using h5.2
  refine ⟨⟨by dsimp only; omega, by dsimp only; omega, by dsimp only; omega, by dsimp only; omega, by dsimp only; omega, by dsimp only; omega, hc.br, hc.one, hc.any, hc.nodup, hs2.2.1.so, λ i x hx => (hc.co i x hx).1⟩, by dsimp only; omega, by dsimp only; omega, hl4, hl5, λ x hx => ?_⟩
  obtain ⟨i, hi⟩ := cd hx
  exact (hc.co i x hi).2
theorem Ho (x lo hi : Int) : F99 x lo hi = true ↔ lo <= x /\ x <= hi := by
 simp [F99]
theorem zZ {x lo hi : Int} (h : lo <= x /\ x <= hi) : F99 x lo hi = true := (Ho x lo hi).2 h
theorem Dj (l : List Int) (x : Int) (h : l.length <= 9223372036854775807) : Np l x = some (l.any (x == ·)) := by
 unfold Np Asw
 rw [K3 (λ y => x == y) (λ i y => rfl) l h]
 simp only [aa, Q6]
theorem Amk (l : List (List Int)) (h : l.length <= 9223372036854775807) : Vm l = some (l.any λ x => (x.length : Int) == 0) := by
 unfold Vm vO
 rw [K3 (λ y => (y.length : Int) == 0) (λ i y => rfl) l h]
 simp only [aa, Q6]
theorem Amm {b : Aa} (h : Au b) : Ok (Alt b) (· = true) := by
 unfold Alt
 have hs := h.sol
 have hc := h.col
 have hb := h.buses
 refine (Ok.mkI (by omega) (by omega)).bind λ ys hys => (Ok.mkI (by omega) (by omega)).bind λ zs hzs => ?_
 rw [az] at hys hzs
 refine Ok.andThen (A := λ s => s.1 = (List.range b.Ac.length).map (λ i => ((brs b.Ad 2 i).length : Int)) /\ s.2 = (List.range b.Af.length).map (λ i => (brs b.Ad 3 i).map (·.A))) (B := λ _ => False) ?_ ?_ (λ _ h => h.elim)
 ·refine Ok.foldI0 (I := λ j s => s.1 = (List.range b.Ac.length).map (λ i => ((brs (b.Ad.take j) 2 i).length : Int)) /\ s.2 = (List.range b.Af.length).map (λ i => (brs (b.Ad.take j) 3 i).map (·.A))) ?_ ?_ ?_
  ·exact ⟨by rw [hys, N8]; rfl, by rw [hzs, N8]; rfl⟩
  ·rintro j x ⟨us, vs⟩ hx ⟨hu, hv⟩
   dsimp only at hu hv
   subst hu; subst hv
   have hmem := af hx
   obtain ⟨⟨a0, a1⟩, hk⟩ := h.br x hmem
   have htk : ∀ k i, brs (b.Ad.take (j + 1)) k i = brs (b.Ad.take j) k i ++ if x.Kind = k /\ x.B = (i : Int) then [x] else [] := λ k i => by rw [Bk hx, Gq, Aoo]
   have hall : ∀ k i, brs b.Ad k i = brs (b.Ad.take (j + 1)) k i ++ brs (b.Ad.drop (j + 1)) k i := λ k i => by rw [← Gq, cm]
   unfold Aba
   have e1 : w64 (b.Al - 1) = b.Al - 1 := A8 (by omega)
   have e2 : w64 (x.A + 1) = x.A + 1 := A8 (by omega)
   refine Ok.cond (λ hq => ?_) (λ _ => ?_)
   ·rw [e1, zZ (by omega)] at hq; simp at hq
   refine Ok.cond (λ hq => ?_) (λ hq => ?_)
   ·simp only [Aiz, ac, beq_iff_eq, Ho] at hq
    refine Ok.next ⟨aX λ i _ => ?_, aX λ i _ => ?_⟩
    ·rw [htk, if_neg (by omega), aS]
    ·rw [htk, if_neg (by omega), aS]
   have hq := ff hq
   simp only [Aiz, ac, beq_iff_eq, Ho, e1, e2] at hq
   rcases hk with hk | hk | hk
   ·exact absurd ⟨hk.1, by omega⟩ hq
   ·have hBn : x.B = (x.B.toNat : Int) := by omega
    have hone := h.one x.B.toNat (by omega)
    have hz : (brs (b.Ad.take j) 2 x.B.toNat).length = 0 := by
     rw [hall, htk, if_pos ⟨hk.1, hBn⟩] at hone
     simp at hone; omega
    have hg : ((x.Kind == 2) && (F99 x.B 0 (w64 ((((List.range b.Ac.length).map (λ i => ((brs (b.Ad.take j) 2 i).length : Int))).length : Int) - 1)))) = true := by
     rw [ac, beq_iff_eq, Ho, aw, List.length_range, A8 (by omega)]
     omega
    dsimp only
    refine Ok.bind (P := λ y => y = 0) (Ok.guard (λ _ => (Ok.getR (by omega) (by omega)).mono λ y hy => by rw [hy, hz]; rfl) λ hn => (Wd hg hn).elim) λ y hy => ?_
    refine Ok.cond (λ hq2 => ?_) (λ hq2 => ?_)
    ·refine (Ok.getR (by omega) (by omega)).bind λ y2 hy2 => (Ok.setR (by omega) (by omega)).bind λ y3 hy3 => Ok.next ⟨?_, aX λ i _ => ?_⟩
     ·rw [hy3]
      refine aX λ i hi => ?_
      by_cases e : i = x.B.toNat
      ·subst e
       rw [if_pos rfl, hy2, htk, if_pos ⟨hk.1, hBn⟩, hz, aJ, hz]
       rfl
      ·rw [if_neg e, htk, if_neg (by omega), aS]
     ·rw [htk, if_neg (by omega), aS]
    ·have hq2 := ff hq2
     simp only [Aiy, ac, hy] at hq2
     rw [ac] at hg
     exact absurd ⟨hg, by simp⟩ hq2
   ·have hBn : x.B = (x.B.toNat : Int) := by omega
    have hnod := h.nodup x.B.toNat
    have hnot : x.A ∉ (brs (b.Ad.take j) 3 x.B.toNat).map (·.A) := by
     rw [hall, htk, if_pos ⟨hk.1, hBn⟩] at hnod
     simp only [bM, bB, List.map_nil] at hnod
     rw [List.nodup_append] at hnod
     have := hnod.1
     rw [List.nodup_append] at this
     intro hm
     exact this.2.2 _ hm _ (by simp) rfl
    have hg0 : ((x.Kind == 2) && (F99 x.B 0 (w64 ((((List.range b.Ac.length).map (λ i => ((brs (b.Ad.take j) 2 i).length : Int))).length : Int) - 1)))) = false := by
     have : (x.Kind == 2) = false := by rw [beq_eq_false_iff_ne]; omega
     rw [this]; rfl
    have hg : ((x.Kind == 3) && (F99 x.B 0 (w64 ((((List.range b.Af.length).map (λ i => (brs (b.Ad.take j) 3 i).map (·.A))).length : Int) - 1)))) = true := by
     rw [ac, beq_iff_eq, Ho, aw, List.length_range, A8 (by omega)]
     omega
    dsimp only
    refine Ok.bind (P := λ _ => True) (Ok.guard (λ hn => absurd hn.1 (by rw [hg0]; simp)) λ _ => trivial) λ y _ => ?_
    refine Ok.cond (λ hq2 => ?_) (λ _ => ?_)
    ·simp only [Aiy, ac, beq_iff_eq] at hq2
     omega
    refine Ok.bind (P := λ y => y = (brs (b.Ad.take j) 3 x.B.toNat).map (·.A)) (Ok.guard (λ _ => Ok.getR (by omega) (by omega)) λ hn => (Wd hg hn).elim) λ y14 hy14 => ?_
    have hyl : y14.length <= 24 := by
     rw [hy14, aw]
     have := bp (λ x => x.Kind == 3 && x.B == ((x.B.toNat : Nat) : Int)) (b.Ad.take j)
     have h1 : (brs (b.Ad.take j) 3 x.B.toNat).length <= (b.Ad.take j).length := bp _ _
     have h2 := h.brl
     rw [aO] at h1
     omega
    refine Ok.bind (P := λ y => y = false) (Ok.guard (λ _ => ?_) λ hn => (Wd hg hn).elim) λ y16 hy16 => ?_
    ·rw [Dj _ _ (by omega)]
     refine Ok.pure ?_
     rw [cq]
     intro z hz
     rw [hy14] at hz
     simp only [beq_iff_eq]
     rintro rfl
     exact hnot hz
    refine Ok.cond (λ hq2 => ?_) (λ hq2 => ?_)
    ·refine (Ok.getR (by omega) (by omega)).bind λ y19 hy19 => ?_
     rw [hy19, ← hy14]
     refine (Ok.appI (by simp; omega)).bind λ y21 hy21 => (Ok.setR (by omega) (by omega)).bind λ y23 hy23 => Ok.next ⟨aX λ i _ => ?_, ?_⟩
     ·rw [htk, if_neg (by omega), aS]
     ·rw [hy23]
      refine aX λ i hi => ?_
      by_cases e : i = x.B.toNat
      ·subst e
       rw [if_pos rfl, hy21, hy14, htk, if_pos ⟨hk.1, hBn⟩, bM]
       rfl
      ·rw [if_neg e, htk, if_neg (by omega), aS]
    ·have hq2 := ff hq2
     simp only [Awo, ac, hy16] at hq2
     rw [ac] at hg
     exact absurd ⟨hg, by simp⟩ hq2
  ·rintro ⟨us, vs⟩ ⟨hu, hv⟩
   rw [aD] at hu hv
   exact ⟨hu, hv⟩
 ·rintro ⟨us, vs⟩ ⟨hu, hv⟩
  dsimp only at hu hv ⊢
  rw [Dj _ _ (by rw [hu]; simp; omega)]
  have h0 : us.any (λ y => 0 == y) = false := by
   rw [cq, hu]
   intro z hz
   obtain ⟨i, hi, rfl⟩ := aq.1 hz
   rw [h.one i (by simpa using hi)]
   simp
  have h1 : vs.any (λ x => (x.length : Int) == 0) = false := by
   rw [cq, hv]
   intro z hz
   obtain ⟨i, hi, rfl⟩ := aq.1 hz
   have := h.any i (by simpa using hi)
   simp only [aw, beq_iff_eq]
   intro e
   exact this (bJ (by omega))
  simp only [h0, aa]
  refine Ok.bind (P := λ y => y = false) (Ok.guard (λ _ => ?_) λ hn => (Wd rfl hn).elim) λ y hy => Ok.pure (by rw [hy]; rfl)
  rw [Amk _ (by rw [hv]; simp; omega)]
  exact Ok.pure h1
theorem Atk {x : Bh} (h : Ary x) : Aa9 x = true := by
 obtain ⟨h1, h2, h3⟩ := h
 simp only [Aa9, ac, Ho]
 omega
theorem Aml {x : A3} {i : Nat} (h : As8 i x) (hi : i <= 1000) : Aa8 x (i : Int) = some true := by
 obtain ⟨h1, h2, h3, h4, h5, h6, h7⟩ := h
 unfold Aa8
 have hf : foldI (Xl x (i : Int)) x.Needs 0 () = some (.next ()) := by
  refine C4 _ _ λ j n hj => ?_
  rw [aH]
  have hn := h6 n (af hj)
  have hjl := (ab.1 hj).1
  have hcnt : cnt 0 j = (j : Int) := Cz (by omega)
  have hin : F99 n 0 (w64 ((i : Int) - 1)) = true := by rw [Ho, A8 (by omega)]; omega
  unfold Xl Awn
  rw [hcnt, hin]
  cases j with
  | zero => simp [A4, Dk]
  | succ j =>
   obtain ⟨p, hp⟩ : ∃ p, x.Needs[j]? = some p := ⟨_, ae (by omega)⟩
   have hlt := h7 j p n hp hj
   have e : w64 ((((j + 1 : Nat) : Int)) - 1) = (j : Int) := by rw [A8 (by omega)]; omega
   have hg : getI x.Needs (j : Int) = some p := by
    unfold getI
    simp [hp]
   have hd : decide (((j + 1 : Nat) : Int) > 0) = true := decide_eq_true (by omega)
   have hd2 : decide (p >= n) = false := by simp; omega
   rw [e, hg, hd]
   simp [A4, Dk, hd2]
 rw [hf]
 have : (((((F99 x.Load 0 50000) && (F99 x.Least 0 x.Load)) && (F99 x.B4 0 15)) && (F99 x.Thruster (-1) 7)) && (decide ((x.Needs.length : Int) <= 4))) = true := by
  simp only [ac, Ho, decide_eq_true_eq]
  omega
 simp [andThen, this]
theorem Air {b : Aa} (h : Au b) : F85 b = some 0 := by
 refine Ok.eq ?_
 unfold F85
 have h1 := h.buses
 have h2 := h.brl
 have h3 := h.sol
 have h4 := h.col
 have h5 := h.phase
 have h6 := h.freq
 refine Ok.cond (λ hc => ?_) (λ _ => ?_)
 ·have : F99 b.Al 1 6 = true := zZ (by omega)
  simp only [A1n, this, aF, decide_eq_true_eq, aZ, bN, false_or] at hc
  omega
 refine (Amm h).bind λ y hy => ?_
 subst hy
 rw [zZ (x := b.Phase) (by omega), zZ (x := b.An) (by omega)]
 refine Ok.andThen (A := λ s => s = true) (B := λ (_ : Unit) => False) ?_ ?_ (λ _ h => h.elim)
 ·refine Ok.foldI0 (I := λ _ s => s = true) rfl (λ j x s hx hs => ?_) λ _ h => h
  subst hs
  refine Ok.next ?_
  rw [Atk (h.so x (af hx))]; rfl
 ·rintro s rfl
  refine Ok.andThen (A := λ s => s = true) (B := λ (_ : Unit) => False) ?_ ?_ (λ _ h => h.elim)
  ·refine Ok.foldI0 (I := λ _ s => s = true) rfl (λ j x s hx hs => ?_) λ _ h => h
   subst hs
   have hj := (ab.1 hx).1
   unfold Akq
   have : A4 [(true, true)] (Aa8 x (cnt 0 j)) default = some true := by
    rw [Cz (by omega), Aml (h.co j x hx) (by omega)]; rfl
   rw [this]
   exact Ok.next rfl
  ·rintro s rfl
   exact Ok.pure rfl
def Cx (x : Ae) : Prop := (0 <= x.State /\ x.State <= 3) /\ (0 <= x.Since /\ x.Since <= 2147483648) /\ (0 <= x.An /\ x.An <= 6000) /\ 0 <= x.Phase /\ x.Phase <= 3599
def Cb (b : Aa) (x : Am) : Prop :=
 0 <= x.Number /\ ((x.Kind = 1 /\ x.Number < b.Ac.length) \/ (x.Kind = 2 /\ x.Number < b.Ad.length) \/ (x.Kind = 3 /\ x.Number < b.Al) \/ (x.Kind = 4 /\ x.Number < b.Af.length))
def P7 (x y : Am) : Prop := x.Kind < y.Kind \/ x.Kind = y.Kind /\ x.Number < y.Number
structure D8 (b : Aa) (l : List Am) : Prop where
 len : l.length <= 32
 mem : ∀ x, x ∈ l -> Cb b x
 asc : ∀ (j : Nat) x y, l[j]? = some x -> l[j + 1]? = some y -> P7 x y
def Ci (l : List Aj) (c : List Bool) (i : Nat) : List (Aj × Bool) := (l.zip c).filter λ z => (z.1.Kind == 3 && z.1.B == (i : Int)) && z.2
structure As (b : Aa) (p : Ab) : Prop where
 ncl : p.Ag.length = b.Ad.length
 nso : p.Ac.length = b.Ac.length
 nli : p.Aq.length = b.Af.length
 run : ∀ x, x ∈ p.Ac -> Cx x
 lim : ∀ (i : Nat) n c, p.Aq[i]? = some n -> b.Af[i]? = some c -> 0 <= n /\ n <= c.Load
 one : ∀ i, i < b.Af.length -> (Ci b.Ad p.Ag i).length <= 1
 brk : D8 b p.Ao
theorem Ap6 {x : Ae} (h : Cx x) : F98 x = true := by
 obtain ⟨h1, h2, h3, h4⟩ := h
 simp only [F98, ac, Ho]
 omega
theorem Aqk (l : List Ae) (h : l.length <= 9223372036854775807) : Xb l = some (l.any λ x => !F98 x) := by
 unfold Xb vW
 rw [K3 (λ y => !F98 y) (λ i y => rfl) l h]
 simp only [aa, Q6]
theorem Av5 (x y : Int) : Ko x y = if x < y then -1 else if x > y then 1 else 0 := by
 have h : ∀ z : Int, Z2 z = false := λ z => by simp [Z2]
 unfold Ko
 rw [h x, h y]
 by_cases h1 : x < y
 ·simp [h1]
 ·by_cases h2 : y < x <;> simp [h1, h2]
theorem A8p (x y : Int) : Aa4 [x, y] = some (if x = 0 then y else x) := by
 unfold Aa4
 by_cases h : x = 0
 ·subst h
  by_cases h2 : y = 0
  ·subst h2; rfl
  ·have : (y != 0) = true := by simpa using h2
   simp [foldI, Xj, andThen, this]
 ·have : (x != 0) = true := by simpa using h
  simp [foldI, Xj, andThen, this, h]
theorem A2h {b : Aa} (h : Au b) {x : Am} (hx : Cb b x) : F99 x.Number 0 (w64 ((Lt b x.Kind) - 1)) = true := by
 have h1 := h.buses
 have h2 := h.brl
 have h3 := h.sol
 have h4 := h.col
 obtain ⟨hn, hk⟩ := hx
 have hsz : ∃ n, Lt b x.Kind = n /\ x.Number < n /\ n <= 100 := by
  unfold Lt
  rcases hk with ⟨k, hk⟩ | ⟨k, hk⟩ | ⟨k, hk⟩ | ⟨k, hk⟩ <;> rw [k] <;> exact ⟨_, rfl, by simpa using hk, by simp; omega⟩
 obtain ⟨n, e, g1, g2⟩ := hsz
 rw [e, Ho, A8 (by omega)]
 omega
theorem Awu {b : Aa} (h : Au b) {l : List Am} (hl : D8 b l) : F95 b l = some true := by
 have hlen := hl.len
 unfold F95
 have hf : foldI (vA b l) l 0 () = some (.next ()) := by
  refine C4 _ _ λ j x hj => ?_
  rw [aH]
  have hjl := (ab.1 hj).1
  have hcnt : cnt 0 j = (j : Int) := Cz (by omega)
  have hin := A2h h (hl.mem x (af hj))
  unfold vA A1k
  rw [hcnt, hin]
  cases j with
  | zero => simp [A4, Dk]
  | succ j =>
   obtain ⟨p, hp⟩ : ∃ p, l[j]? = some p := ⟨_, ae (by omega)⟩
   have hlt := hl.asc j p x hp hj
   have e : w64 ((((j + 1 : Nat) : Int)) - 1) = (j : Int) := by rw [A8 (by omega)]; omega
   have hg : getI l (j : Int) = some p := by unfold getI; simp [hp]
   have hd : decide (((j + 1 : Nat) : Int) > 0) = true := decide_eq_true (by omega)
   have ho : Aa4 [Ko p.Kind x.Kind, Ko p.Number x.Number] = some (-1) := by
    rw [A8p, Av5, Av5]
    rcases hlt with h1 | ⟨h1, h2⟩
    ·simp [h1]
    ·simp [h1, h2]
   rw [e, hg, hd]
   simp [A4, Dk, ho]
 rw [hf]
 have : decide ((l.length : Int) <= 32) = true := by simp; omega
 simp [andThen, this]
theorem L6 {l : List Aj} {c : List Bool} {j : Nat} {x : Aj} {v : Bool} (hx : l[j]? = some x) (hv : c[j]? = some v) (i : Nat) :
  Ci (l.take (j + 1)) (c.take (j + 1)) i = Ci (l.take j) (c.take j) i ++ if ((x.Kind == 3 && x.B == (i : Int)) && v) = true then [(x, v)] else [] := by
 unfold Ci
 rw [Bk hx, Bk hv, List.zip_append (by
  have h1 := (ab.1 hx).1
  have h2 := (ab.1 hv).1
  simp; omega), bj]
 congr 1
 simp only [bx, List.zip_nil_right, bk, List.filter_nil]
theorem Av7 {b : Aa} (h : Au b) {p : Ab} (hc : p.Ag.length = b.Ad.length) (i : Nat) : Al3 b p (i : Int) = some (((Ci b.Ad p.Ag i).length : Nat) : Int) := by
 refine Ok.eq ?_
 unfold Al3
 have hb := h.brl
 refine Ok.andThen (A := λ s => s = (((Ci b.Ad p.Ag i).length : Nat) : Int)) (B := λ (_ : Unit) => False) ?_ (λ s hs => Ok.pure hs) (λ _ h => h.elim)
 refine Ok.foldI0 (I := λ j s => s = (((Ci (b.Ad.take j) (p.Ag.take j) i).length : Nat) : Int)) ?_ (λ j x s hx hs => ?_) λ s hs => ?_
 ·simp [Ci]
 ·have hj := (ab.1 hx).1
  obtain ⟨v, hv⟩ : ∃ v, p.Ag[j]? = some v := ⟨_, ae (by omega)⟩
  have hcnt : cnt 0 j = (j : Int) := Cz (by omega)
  have hg : getI p.Ag (j : Int) = some v := by unfold getI; simp [hv]
  have hle : (Ci (b.Ad.take j) (p.Ag.take j) i).length <= 24 := by
   have h1 : (Ci (b.Ad.take j) (p.Ag.take j) i).length <= ((b.Ad.take j).zip (p.Ag.take j)).length := bp _ _
   simp at h1; omega
  subst hs
  unfold Abk Aws
  rw [hcnt, hg, L6 hx hv]
  cases hk : (x.Kind == 3 && x.B == (i : Int)) with
  | false =>
   simp only [A4, Dk, Bool.false_and]
   exact Ok.next (by simp)
  | true =>
   simp only [A4, Dk, a9]
   cases v with
   | false => exact Ok.next (by simp)
   | true =>
    refine Ok.next ?_
    show w64 _ = _
    rw [A8 (by omega)]
    simp
 ·rw [aD, ← hc, aD] at hs
  exact hs
theorem Cm {b : Aa} (h : Au b) {p : Ab} (hp : As b p) : F43 b p = some 0 := by
 refine Ok.eq ?_
 unfold F43
 have h1 := hp.ncl
 have h2 := hp.nso
 have h3 := hp.nli
 have h4 := h.col
 have h5 := h.sol
 rw [Air h]
 simp only [aa]
 have c0 : Arq b p = false := by
  simp [Arq, h1, h2, h3]
 have c1 : ((0 : Int) != 0) = false := rfl
 rw [c1, c0, Awu h hp.brk]
 simp only [cond_false, aa]
 have hr : (p.Ac.any λ x => !F98 x) = false := by
  rw [cq]
  intro x hx
  rw [Ap6 (hp.run x hx)]; simp
 have : A4 [(true, true)] (Xb p.Ac) default = some false := by
  rw [Aqk _ (by omega), hr]; rfl
 rw [this]
 simp only [aa]
 refine Ok.andThen (A := λ s => s = true) (B := λ (_ : Unit) => False) ?_ ?_ (λ _ h => h.elim)
 ·refine Ok.foldI0 (I := λ _ s => s = true) rfl (λ j x s hx hs => ?_) λ _ h => h
  subst hs
  have hj := (ab.1 hx).1
  obtain ⟨c, hc⟩ : ∃ c, b.Af[j]? = some c := ⟨_, ae (by omega)⟩
  have hcnt : cnt 0 j = (j : Int) := Cz (by omega)
  have hg : getI b.Af (j : Int) = some c := by unfold getI; simp [hc]
  have hl := hp.lim j x c hx hc
  have hone := hp.one j (by omega)
  unfold Ak1
  rw [hcnt, hg]
  have e1 : A4 [(true, true)] (some c) default = some c := rfl
  rw [e1]
  simp only [aa]
  have e2 : (true && F99 x 0 c.Load) = true := by rw [zZ hl]; rfl
  rw [e2, Av7 h h1]
  have e3 : A4 [(true, true)] (some (((Ci b.Ad p.Ag j).length : Nat) : Int)) default = some (((Ci b.Ad p.Ag j).length : Nat) : Int) := rfl
  rw [e3]
  simp only [aa]
  refine Ok.next ?_
  simp; omega
 ·rintro s rfl
  exact Ok.pure rfl
theorem Jg (x lo hi : Int) : B5 x lo hi = true ↔ lo <= x /\ x <= hi := by
 simp [B5]
theorem qU {b : Aa} (h : Au b) (x : Am) : F71 b x = true ↔ Cb b x := by
 have h1 := h.buses
 have h2 := h.brl
 have h3 := h.sol
 have h4 := h.col
 unfold F71 Cb
 rw [A8 (n := (b.Ac.length : Int) - 1) (by omega), A8 (n := (b.Ad.length : Int) - 1) (by omega), A8 (n := b.Al - 1) (by omega), A8 (n := (b.Af.length : Int) - 1) (by omega)]
 by_cases k1 : x.Kind = 1
 ·rw [beq_iff_eq.2 k1, cond_true, Jg]; omega
 rw [beq_eq_false_iff_ne.2 k1, cond_false]
 by_cases k2 : x.Kind = 2
 ·rw [beq_iff_eq.2 k2, cond_true, Jg]; omega
 rw [beq_eq_false_iff_ne.2 k2, cond_false]
 by_cases k3 : x.Kind = 3
 ·rw [beq_iff_eq.2 k3, cond_true, Jg]; omega
 rw [beq_eq_false_iff_ne.2 k3, cond_false]
 by_cases k4 : x.Kind = 4
 ·rw [beq_iff_eq.2 k4, cond_true, Jg]; omega
 ·rw [beq_eq_false_iff_ne.2 k4]
  simp only [cond_false, bN, false_iff]
  omega
theorem Ah6 {l : List Aj} : ∀ {c d : List Bool}, c.length = d.length -> (∀ k : Nat, c[k]? = some true -> d[k]? = some true) -> ∀ i, (Ci l c i).length <= (Ci l d i).length := by
 induction l with
 | nil => intro c d _ _ i; simp [Ci]
 | cons x l ih =>
  intro c d hl h i
  cases c with
  | nil => simp [Ci]
  | cons v c => cases d with
   | nil => simp at hl
   | cons u d =>
    have := ih (c := c) (d := d) (by simpa using hl) (λ k hk => by have := h (k + 1) (by simpa using hk); simpa using this) i
    have h0 : v = true -> u = true := λ e => by have := h 0 (by simp [e]); simpa using this
    unfold Ci at this ⊢
    simp only [bx, bk]
    cases hk : (x.Kind == 3 && x.B == (i : Int)) with
    | false => simpa using this
    | true =>
     cases v with
     | false => cases u <;> simp <;> omega
     | true => rw [h0 rfl]; simp; omega
theorem Ays {b : Aa} (h : Au b) {s0 : Ah} (hs0 : Bu s0) :
  Ok (whileN (O0 b) 1152921504606846976 (0, s0.L, s0.At, ([] : List Bool))) (Dt (λ s => Bu ⟨s.2.1, s.2.2.1⟩ /\ s.2.2.2.length = b.Ad.length) (λ (_ : Unit) => False)) := by
 have hb := h.brl
 refine Ok.whileN (λ s => (0 <= s.1 /\ s.1 <= (b.Ad.length : Int)) /\ Bu ⟨s.2.1, s.2.2.1⟩ /\ (s.2.2.2.length : Int) = s.1) (λ s => ((b.Ad.length : Int) - s.1).toNat) _ _ ?_ ?_ ?_
 ·exact ⟨by dsimp only; omega, hs0, by simp⟩
 ·dsimp only; omega
 ·rintro ⟨i, L, a, l⟩ ⟨⟨h1, h2⟩, h4, h5⟩
  dsimp only at h1 h2 h4 h5
  unfold O0 Ai5
  refine Ok.cond (λ h => ?_) (λ h => ?_)
  ·simp only [decide_eq_true_eq] at h
   have e : w64 (i + 1) = i + 1 := A8 (by omega)
   dsimp only
   rw [e]
   refine (Fd h4 2 (by omega) (by omega)).bind λ u hu => (Ok.appI (by simp; omega)).bind λ m hm => Ok.next ?_
   subst hm
   exact ⟨⟨by dsimp only; omega, hu.1, by simp; omega⟩, by dsimp only; omega⟩
  ·simp only [decide_eq_false_iff_not] at h
   exact Ok.brk ⟨h4, by dsimp only; omega⟩
theorem Bl {α : Type} {l : List α} {j : Nat} {x : α} (h : l[j]? = some x) : getI l (j : Int) = some x := by unfold getI; simp [h]
theorem Ye {α : Type} {l : List α} {j : Nat} {x : α} (h : j < l.length) : setI l (j : Int) x = some (l.set j x) := by
 unfold setI
 have h1 : decide ((0 : Int) <= (j : Int)) = true := by simp
 have h2 : decide ((j : Int) < (l.length : Int)) = true := by simp; omega
 rw [h1, h2]; simp
theorem Ayq {b : Aa} (h : Au b) {n : Int} {i : Nat} (hn : n = (i : Int)) {c : List Bool} (hc : c.length = b.Ad.length) (w : Int × List Bool) (hw : w.1 = n) :
  Ok (foldI (Oy w) b.Ad 0 (true, c)) (Dt (λ s => s.2.length = b.Ad.length /\ (∀ k : Nat, s.2[k]? = some true -> c[k]? = some true) /\ (Ci b.Ad s.2 i).length <= 1) (λ (_ : Unit) => False)) := by
 have hb := h.brl
 refine Ok.foldI0 (I := λ j s => s.2.length = b.Ad.length /\ (∀ k : Nat, s.2[k]? = some true -> c[k]? = some true) /\ (s.1 = true -> Ci (b.Ad.take j) (s.2.take j) i = []) /\ (Ci (b.Ad.take j) (s.2.take j) i).length <= 1) ?_ (λ j x s hx hs => ?_) λ s hs => ?_
 ·exact ⟨hc, λ _ h => h, λ _ => by simp [Ci], by simp [Ci]⟩
 ·obtain ⟨f, d⟩ := s
  obtain ⟨h1, h2, h3, h4⟩ := hs
  dsimp only at h1 h2 h3 h4
  have hj := (ab.1 hx).1
  obtain ⟨v, hv⟩ : ∃ v, d[j]? = some v := ⟨_, ae (by omega)⟩
  have hcnt : cnt 0 j = (j : Int) := Cz (by omega)
  unfold Oy Adf
  dsimp only
  rw [hcnt, Bl hv, Ye (by omega), hw, hn]
  cases hk : (x.Kind == 3 && x.B == (i : Int)) with
  | false =>
   simp only [A4, Dk, Bool.false_and]
   refine Ok.next ⟨h1, h2, λ e => ?_, ?_⟩ <;> dsimp only <;> rw [L6 hx hv, hk]
   ·simpa using h3 e
   ·simpa using h4
  | true =>
   simp only [A4, Dk, a9]
   cases v with
   | false =>
    refine Ok.next ⟨h1, h2, λ e => ?_, ?_⟩ <;> dsimp only <;> rw [L6 hx hv, hk]
    ·simpa using h3 e
    ·simpa using h4
   | true =>
    have hset : (d.set j f)[j]? = some f := by rw [bA (by omega)]
    have htake : (d.set j f).take j = d.take j := by rw [List.take_set_of_le (ar j)]
    refine Ok.next ⟨by simpa using h1, λ k hk2 => ?_, λ e => ?_, ?_⟩
    ·dsimp only at hk2
     rw [ao] at hk2
     split at hk2
     ·rename_i e; subst e; exact h2 _ hv
     ·exact h2 _ hk2
    ·cases e
    ·dsimp only
     rw [L6 hx hset, hk, htake]
     cases f with
     | false => simpa using h4
     | true => simp [h3 rfl]
 ·rw [aD] at hs
  obtain ⟨h1, h2, h3, h4⟩ := hs
  have : s.2.take b.Ad.length = s.2 := bQ (by omega)
  rw [this] at h4
  exact ⟨h1, h2, h4⟩
theorem Ayr {b : Aa} (h : Au b) {c : List Bool} (hc : c.length = b.Ad.length) :
  Ok (whileN (Oz b) 1152921504606846976 (0, c)) (Dt (λ s => s.2.length = b.Ad.length /\ ∀ i, i < b.Af.length -> (Ci b.Ad s.2 i).length <= 1) (λ (_ : Unit) => False)) := by
 have hco := h.col
 refine Ok.whileN (λ s => (0 <= s.1 /\ s.1 <= (b.Af.length : Int)) /\ s.2.length = b.Ad.length /\ ∀ i : Nat, (i : Int) < s.1 -> (Ci b.Ad s.2 i).length <= 1) (λ s => ((b.Af.length : Int) - s.1).toNat) _ _ ?_ ?_ ?_
 ·exact ⟨by dsimp only; omega, hc, λ i hi => by dsimp only at hi; omega⟩
 ·dsimp only; omega
 ·rintro ⟨n, d⟩ ⟨⟨h1, h2⟩, h3, h4⟩
  dsimp only at h1 h2 h3 h4
  unfold Oz Ai4
  refine Ok.cond (λ hq => ?_) (λ hq => ?_)
  ·simp only [decide_eq_true_eq] at hq
   have e : w64 (n + 1) = n + 1 := A8 (by omega)
   dsimp only
   refine (Ayq h (n := n) (i := n.toNat) (by omega) h3 (n, d) rfl).inner (λ s hs => ?_) (λ _ h => h.elim)
   rw [e]
   obtain ⟨g1, g2, g3⟩ := hs
   refine Ok.next ⟨⟨by dsimp only; omega, g1, λ i hi => ?_⟩, by dsimp only; omega⟩
   dsimp only at hi ⊢
   by_cases e : (i : Int) = n
   ·have : i = n.toNat := by omega
    subst this; exact g3
   ·exact aA (Ah6 (by omega) g2 i) (h4 i (by omega))
  ·simp only [decide_eq_false_iff_not] at hq
   exact Ok.brk ⟨h3, λ i hi => h4 i (by omega)⟩
theorem Ayp {b : Aa} (h : Au b) {s0 : Ah} (hs0 : Bu s0) :
  Ok (whileN (Ox b) 1152921504606846976 (0, s0.L, s0.At, ([] : List Ae))) (Dt (λ s => Bu ⟨s.2.1, s.2.2.1⟩ /\ s.2.2.2.length = b.Ac.length /\ ∀ x, x ∈ s.2.2.2 -> Cx x) (λ (_ : Unit) => False)) := by
 have hb := h.sol
 refine Ok.whileN (λ s => (0 <= s.1 /\ s.1 <= (b.Ac.length : Int)) /\ Bu ⟨s.2.1, s.2.2.1⟩ /\ (s.2.2.2.length : Int) = s.1 /\ ∀ x, x ∈ s.2.2.2 -> Cx x) (λ s => ((b.Ac.length : Int) - s.1).toNat) _ _ ?_ ?_ ?_
 ·exact ⟨by dsimp only; omega, hs0, by simp, λ x hx => by simp at hx⟩
 ·dsimp only; omega
 ·rintro ⟨i, L, a, l⟩ ⟨⟨h1, h2⟩, h4, h5, h6⟩
  dsimp only at h1 h2 h4 h5 h6
  unfold Ox Ade
  refine Ok.cond (λ h => ?_) (λ h => ?_)
  ·simp only [decide_eq_true_eq] at h
   have e : w64 (i + 1) = i + 1 := A8 (by omega)
   dsimp only
   rw [e]
   refine (D7 h4 _ (by simp) (by simp)).bind λ u hu => (Fd hu.1 5 (by omega) (by omega)).bind λ v hv => (D7 hv.1 _ (by simp) (by simp)).bind λ p hp => (D7 hp.1 _ (by simp) (by simp)).bind λ q hq => (Ok.appI (by simp; omega)).bind λ m hm => Ok.next ?_
   subst hm
   have g1 : u.1 = 0 \/ u.1 = 1 \/ u.1 = 2 \/ u.1 = 2 \/ u.1 = 2 \/ u.1 = 3 := by simpa using hu.2
   have g2 := hv.2
   have g3 : p.1 = 5000 \/ p.1 = 5000 \/ p.1 = 5005 \/ p.1 = 4950 := by simpa using hp.2
   have g4 : q.1 = 0 \/ q.1 = 0 \/ q.1 = 40 \/ q.1 = 1800 \/ q.1 = 3590 := by simpa using hq.2
   refine ⟨⟨by dsimp only; omega, hq.1, by simp; omega, λ x hx => ?_⟩, by dsimp only; omega⟩
   rcases au.1 hx with hx | hx
   ·exact h6 x hx
   ·simp at hx; subst hx
    exact ⟨by dsimp only; omega, by dsimp only; omega, by dsimp only; omega, by dsimp only; omega⟩
  ·simp only [decide_eq_false_iff_not] at h
   exact Ok.brk ⟨h4, by dsimp only; omega, h6⟩
theorem Ayo {b : Aa} (h : Au b) {s0 : Ah} (hs0 : Bu s0) :
  Ok (foldI Ow b.Af 0 (s0.L, s0.At, ([] : List Int))) (Dt (λ s => Bu ⟨s.1, s.2.1⟩ /\ s.2.2.length = b.Af.length /\ ∀ (i : Nat) n c, s.2.2[i]? = some n -> b.Af[i]? = some c -> 0 <= n /\ n <= c.Load) (λ (_ : Unit) => False)) := by
 have hb := h.col
 refine Ok.foldI0 (I := λ j s => Bu ⟨s.1, s.2.1⟩ /\ s.2.2.length = j /\ ∀ (i : Nat) n c, s.2.2[i]? = some n -> b.Af[i]? = some c -> 0 <= n /\ n <= c.Load) ?_ (λ j x s hx hs => ?_) λ s hs => hs
 ·exact ⟨hs0, rfl, λ i n c hn => by simp at hn⟩
 ·obtain ⟨L, a, l⟩ := s
  obtain ⟨h1, h2, h3⟩ := hs
  dsimp only at h1 h2 h3
  have hj := (ab.1 hx).1
  unfold Ow
  dsimp only
  refine (D7 h1 _ (by simp) (by simp)).bind λ u hu => (Ok.appI (by simp; omega)).bind λ m hm => Ok.next ⟨hu.1, ?_, λ i n c hn hc => ?_⟩
  ·subst hm; simp [h2]
  ·dsimp only at hn
   subst hm
   rw [bO] at hn
   split at hn
   ·exact h3 i n c hn hc
   ·rename_i hi
    have hlt := (ab.1 hn).1
    simp at hlt
    have : i = j := by omega
    subst this
    rw [hx] at hc; cases hc
    rw [h2] at hn
    simp at hn; subst hn
    obtain ⟨g1, g2, _⟩ := h.co _ x hx
    have g3 := Ayb (x := x.Load) (by omega) (by omega)
    have g4 : u.1 = x.Load \/ u.1 = x.Load \/ u.1 = x.Least \/ u.1 = w64 (Int.tdiv x.Load 3) := by simpa using hu.2
    omega
theorem Ayn {b : Aa} (h : Au b) {s0 : Ah} (hs0 : Bu s0) :
  Ok (whileN (Ov b) 7 (1, s0.L, s0.At, ([] : List Am))) (Dt (λ s => Bu ⟨s.2.1, s.2.2.1⟩ /\ D8 b s.2.2.2 /\ s.2.2.2.length <= 4) (λ (_ : Unit) => False)) := by
 refine Ok.whileN (λ s => (1 <= s.1 /\ s.1 <= 5) /\ Bu ⟨s.2.1, s.2.2.1⟩ /\ ((s.2.2.2.length : Int) < s.1) /\ (∀ x, x ∈ s.2.2.2 -> Cb b x /\ x.Kind < s.1) /\ ∀ (j : Nat) x y, s.2.2.2[j]? = some x -> s.2.2.2[j + 1]? = some y -> P7 x y) (λ s => (5 - s.1).toNat) _ _ ?_ ?_ ?_
 ·exact ⟨by dsimp only; omega, hs0, by simp, λ x hx => by simp at hx, λ j x y hx => by simp at hx⟩
 ·dsimp only; omega
 ·rintro ⟨i, L, a, l⟩ ⟨⟨h1, h2⟩, h4, h5, h6, h7⟩
  dsimp only at h1 h2 h4 h5 h6 h7
  unfold Ov
  refine Ok.cond (λ hq => ?_) (λ hq => ?_)
  ·simp only [decide_eq_true_eq] at hq
   have e : w64 (i + 1) = i + 1 := A8 (by omega)
   dsimp only
   rw [e]
   have skip : ∀ {u : Ah}, Bu u -> Ok (some (.next (i + 1, u.L, u.At, l)) : Option (Ctl (Int × List Int × Int × List Am) Unit)) (Fk (λ s => ((1 <= s.1 /\ s.1 <= 5) /\ Bu ⟨s.2.1, s.2.2.1⟩ /\ ((s.2.2.2.length : Int) < s.1) /\ (∀ x, x ∈ s.2.2.2 -> Cb b x /\ x.Kind < s.1) /\ ∀ (j : Nat) x y, s.2.2.2[j]? = some x -> s.2.2.2[j + 1]? = some y -> P7 x y) /\ (5 - s.1).toNat < (5 - i).toNat) (λ s => Bu ⟨s.2.1, s.2.2.1⟩ /\ D8 b s.2.2.2 /\ s.2.2.2.length <= 4) (λ _ => False)) := λ hu =>
    Ok.next ⟨⟨by dsimp only; omega, hu, by dsimp only; omega, λ x hx => ⟨(h6 x hx).1, by have := (h6 x hx).2; dsimp only; omega⟩, h7⟩, by dsimp only; omega⟩
   refine (Fd h4 5 (by omega) (by omega)).bind λ u hu => Ok.cond (λ _ => ?_) (λ _ => skip hu.1)
   refine (Fd hu.1 4 (by omega) (by omega)).bind λ v hv => Ok.cond (λ he => ?_) (λ _ => skip hv.1)
   rw [qU h] at he
   refine (Ok.appI (by simp; omega)).bind λ m hm => Ok.next ?_
   subst hm
   refine ⟨⟨by dsimp only; omega, hv.1, by simp; omega, λ x hx => ?_, λ j x y hx hy => ?_⟩, by dsimp only; omega⟩
   ·rcases au.1 hx with hx | hx
    ·exact ⟨(h6 x hx).1, by have := (h6 x hx).2; dsimp only; omega⟩
    ·simp at hx; subst hx; exact ⟨he, by dsimp only; omega⟩
   ·dsimp only at hx hy
    have hyl := (ab.1 hy).1
    simp at hyl
    rw [am (by omega)] at hx
    rw [bO] at hy
    split at hy
    ·exact h7 j x y hx hy
    ·rename_i hn
     have e0 : j + 1 - l.length = 0 := by omega
     rw [e0] at hy
     simp at hy; subst hy
     exact .inl (h6 x (af hx)).2
  ·simp only [decide_eq_false_iff_not] at hq
   exact Ok.brk ⟨h4, ⟨by dsimp only; omega, λ x hx => (h6 x hx).1, h7⟩, by dsimp only; omega⟩
theorem A0n {b : Aa} (h : Au b) {s : Ah} (hs : Bu s) : Ok (Vv s b) λ y => (As b y.1 /\ y.1.Ao.length <= 4) /\ Bu y.2 := by
 unfold Vv
 refine (Ays h hs).andThen (λ s0 h0 => ?_) (λ _ h => h.elim)
 refine (Ayr h h0.2).andThen (λ s1 h1 => ?_) (λ _ h => h.elim)
 refine (Ayp h h0.1).andThen (λ s3 h3 => ?_) (λ _ h => h.elim)
 refine (Ayo h h3.1).andThen (λ s4 h4 => ?_) (λ _ h => h.elim)
 refine (Ayn h h4.1).andThen (λ s5 h5 => ?_) (λ _ h => h.elim)
 exact Ok.pure ⟨⟨⟨h1.1, h3.2.1, h4.2.1, h3.2.2, h4.2.2, h1.2, h5.2.1⟩, h5.2.2⟩, h5.1⟩
def Ed (b : Aa) (p : Ab) (k i : Int) : Option Int := ((b.Ad.zip p.Ag).find? λ z => (z.1.Kind == k && z.1.B == i) && z.2).map (·.1.A)
def D2 (o : Option Int) : Int × Bool := match o with
 | some a => (a, true)
 | none => (0, false)
theorem Aho {p : Ab} {k i : Int} : ∀ (l : List Aj) (c : List Bool) (n : Nat), n + l.length <= 9223372036854775807 -> l.length = c.length -> p.Ag.drop n = c ->
  foldI (Xg p k i) l n () = match ((l.zip c).find? λ z => (z.1.Kind == k && z.1.B == i) && z.2) with
   | some z => some (.ret (z.1.A, true))
   | none => some (.next ())
 | [], c, n, _, _, _ => by simp [foldI]
 | x :: l, [], n, _, h, _ => by simp at h
 | x :: l, v :: c, n, hn, h, hd => by
  simp only [aU] at hn h
  have hv : p.Ag[n]? = some v := by
   have := congrArg (·[0]?) hd
   simpa [al] using this
  have hd' : p.Ag.drop (n + 1) = c := by rw [← bI, hd]; rfl
  have ih := Aho (p := p) (k := k) (i := i) l c (n + 1) (by omega) (by omega) hd'
  have hcnt : cnt 0 n = (n : Int) := Cz (by omega)
  simp only [foldI, Xg, Awe, hcnt, Bl hv, bx, cC]
  cases hk : (x.Kind == k && x.B == i) with
  | false => simpa [A4, Dk] using ih
  | true =>
   cases v with
   | false => simpa [A4, Dk] using ih
   | true => simp [A4, Dk]
theorem Auw {b : Aa} (h : Au b) {p : Ab} (hc : p.Ag.length = b.Ad.length) (k i : Int) : Aav b p k i = some (D2 (Ed b p k i)) := by
 have hb := h.brl
 unfold Aav
 rw [Aho b.Ad p.Ag 0 (by omega) (by omega) rfl]
 unfold Ed
 cases (b.Ad.zip p.Ag).find? λ z => (z.1.Kind == k && z.1.B == i) && z.2 with
 | none => rfl
 | some z => rfl
theorem Avf {b : Aa} (h : Au b) {p : Ab} (hc : p.Ag.length = b.Ad.length) (i : Int) : Z7 b p i = some (D2 (Ed b p 3 i)) := by
 unfold Z7
 rw [Auw h hc]; rfl
def Dc (b : Aa) (p : Ab) (i : Int) : Option Int :=
 if 0 <= i /\ i < p.Ac.length /\ (p.Ac.getD i.toNat default).State = 2 then Ed b p 2 i else none
theorem Jz {b : Aa} (h : Au b) {p : Ab} (hp : As b p) (i : Int) : Z8 b p i = some (D2 (Dc b p i)) := by
 have hs := h.sol
 have hn := hp.nso
 refine Ok.eq ?_
 unfold Z8
 have e1 : w64 ((p.Ac.length : Int) - 1) = (p.Ac.length : Int) - 1 := A8 (by omega)
 by_cases hi : 0 <= i /\ i < p.Ac.length
 ·have hin : F99 i 0 (w64 ((p.Ac.length : Int) - 1)) = true := by rw [e1]; exact zZ (by omega)
  obtain ⟨x, hx⟩ : ∃ x, p.Ac[i.toNat]? = some x := ⟨_, ae (by omega)⟩
  have hg : getI p.Ac i = some x := by have := Bl hx; rwa [aP hi.1] at this
  have hd : p.Ac.getD i.toNat default = x := by simp [List.getD, hx]
  rw [hin, hg]
  refine Ok.bind (P := λ y => y = x) (Ok.guard (λ _ => Ok.pure rfl) λ hn => (hn ⟨rfl, trivial⟩).elim) λ y hy => ?_
  subst hy
  unfold Dc
  refine Ok.cond (λ hc => ?_) (λ hc => ?_)
  ·simp only [uN, hin, aF, aZ, bN, false_or, bne_iff_ne, ne_eq] at hc
   rw [hd, if_neg (λ hh => hc hh.2.2)]
   exact Ok.pure rfl
  ·have hc := ff hc
   simp only [uN, hin, aF, aZ, bN, false_or, bne_iff_ne, ne_eq, Decidable.not_not] at hc
   rw [hd, if_pos ⟨hi.1, hi.2, hc⟩, Auw h hp.ncl]
   exact Ok.pure rfl
 ·have hin : F99 i 0 (w64 ((p.Ac.length : Int) - 1)) = false := by
   cases hq : F99 i 0 (w64 ((p.Ac.length : Int) - 1)) with
   | false => rfl
   | true => rw [Ho, e1] at hq; omega
  rw [hin]
  unfold Dc
  rw [if_neg (λ hh => hi ⟨hh.1, hh.2.1⟩)]
  refine Ok.bind (P := λ _ => True) (Ok.guard (λ hg => absurd hg.1 (by simp)) λ _ => trivial) λ y _ => ?_
  refine Ok.cond (λ _ => Ok.pure rfl) (λ hc => ?_)
  simp [uN, hin] at hc
theorem Yp {b : Aa} (h : Au b) {p : Ab} {k i a : Int} (e : Ed b p k i = some a) : 0 <= a /\ a < b.Al := by
 unfold Ed at e
 rw [Option.map_eq_some_iff] at e
 obtain ⟨z, hz, rfl⟩ := e
 exact (h.br z.1 (b9 (List.mem_of_find?_eq_some hz)).1).1
theorem E7 {b : Aa} (h : Au b) {p : Ab} {i a : Int} (e : Dc b p i = some a) : 0 <= a /\ a < b.Al := by
 unfold Dc at e
 split at e
 ·exact Yp h e
 ·cases e
def Ew (s : List Int) (z : Aj × Bool) : List Int :=
 if z.1.Kind = 1 /\ z.2 = true then (s.set z.1.A.toNat (min (s.getD z.1.A.toNat 0) (s.getD z.1.B.toNat 0))).set z.1.B.toNat (min (s.getD z.1.A.toNat 0) (s.getD z.1.B.toNat 0)) else s
def Dh (l : List (Aj × Bool)) (s : List Int) : List Int := l.foldl Ew s
def Dg (n : Nat) : List Int := (List.range n).map λ (i : Nat) => (i : Int)
def A7 (b : Aa) (p : Ab) : List Int := (List.range b.Al.toNat).foldl (λ s _ => Dh (b.Ad.zip p.Ag) s) (Dg b.Al.toNat)
theorem Ee (s : List Int) (z : Aj × Bool) : (Ew s z).length = s.length := by
 unfold Ew; split <;> simp
theorem Fj (l : List (Aj × Bool)) : ∀ s : List Int, (Dh l s).length = s.length := by
 induction l with
 | nil => intro s; rfl
 | cons z l ih => intro s; show (Dh l (Ew s z)).length = _; rw [ih, Ee]
theorem O8 {b : Aa} {p : Ab} {n : Nat} : ∀ (xs : List Nat) (s : List Int), s.length = n -> (xs.foldl (λ s _ => Dh (b.Ad.zip p.Ag) s) s).length = n
 | [], s, h => h
 | _ :: xs, s, h => O8 xs _ (by rw [Fj]; exact h)
theorem Is (b : Aa) (p : Ab) : (A7 b p).length = b.Al.toNat := O8 _ _ (by simp [Dg])
theorem Azj {b : Aa} (h : Au b) {p : Ab} (hc : p.Ag.length = b.Ad.length) {s : List Int} (hs : s.length = b.Al.toNat) :
  Ok (foldI (Xk p) b.Ad 0 s) (Dt (λ r => r = Dh (b.Ad.zip p.Ag) s) (λ (_ : Unit) => False)) := by
 have hb := h.brl
 have hbu := h.buses
 refine Ok.foldI0 (I := λ j r => r = Dh ((b.Ad.take j).zip (p.Ag.take j)) s) (by simp [Dh]) (λ j x r hx hr => ?_) λ r hr => ?_
 ·have hj := (ab.1 hx).1
  obtain ⟨v, hv⟩ : ∃ v, p.Ag[j]? = some v := ⟨_, ae (by omega)⟩
  have hcnt : cnt 0 j = (j : Int) := Cz (by omega)
  have hl : r.length = b.Al.toNat := by rw [hr, Fj, hs]
  have hnext : Dh ((b.Ad.take (j + 1)).zip (p.Ag.take (j + 1))) s = Ew r (x, v) := by
   rw [Bk hx, Bk hv, List.zip_append (by simp; omega)]
   unfold Dh at hr ⊢
   rw [aR, ← hr]; rfl
  rw [hnext]
  unfold Xk
  rw [hcnt, Bl hv]
  obtain ⟨⟨a0, a1⟩, hk⟩ := h.br x (af hx)
  by_cases k1 : x.Kind = 1
  ·rw [beq_iff_eq.2 k1]
   refine Ok.bind (P := λ y => y = v) (Ok.guard (λ _ => Ok.pure rfl) λ hn => (hn ⟨rfl, trivial⟩).elim) λ y hy => ?_
   subst hy
   have hB : x.A < x.B /\ x.B < b.Al := by omega
   cases y with
   | false =>
    refine Ok.cond (λ hq => by simp at hq) (λ _ => Ok.next ?_)
    simp [Ew]
   | true =>
    refine Ok.cond (λ _ => ?_) (λ hq => by simp at hq)
    refine (Ok.getI a0 (by omega)).bind λ u hu => (Ok.getI (by omega) (by omega)).bind λ w hw => (Ok.setI a0 (by omega)).bind λ t ht => ?_
    subst ht
    refine (Ok.getI (by omega) (by simp; omega)).bind λ _ _ => (Ok.setI (by omega) (by simp; omega)).bind λ t ht => Ok.next ?_
    subst ht
    simp [Ew, k1, List.getD, hu, hw]
  ·rw [beq_eq_false_iff_ne.2 k1]
   refine Ok.bind (P := λ _ => True) (Ok.guard (λ hg => absurd hg.1 (by simp)) λ _ => trivial) λ y _ => ?_
   refine Ok.cond (λ hq => by simp at hq) (λ _ => Ok.next ?_)
   simp [Ew, k1]
 ·rw [aD, ← hc, aD] at hr
  exact hr
theorem Avb {b : Aa} (h : Au b) {p : Ab} (hc : p.Ag.length = b.Ad.length) : Aa7 b p = some (A7 b p) := by
 have hbu := h.buses
 refine Ok.eq ?_
 unfold Aa7
 refine (Ok.mkI (by omega) (by omega)).bind λ y hy => ?_
 refine Ok.andThen (A := λ s => s = Dg b.Al.toNat) (B := λ (_ : Unit) => False) ?_ ?_ (λ _ h => h.elim)
 ·refine Ok.foldI0 (I := λ j s => s = (List.range b.Al.toNat).map λ i => if i < j then (i : Int) else 0) ?_ (λ j x s hx hs => ?_) λ s hs => ?_
  ·rw [hy, N8]
   exact aX λ i _ => by simp
  ·have hj := (ab.1 hx).1
   have hjl : j < b.Al.toNat := by rw [hy] at hj; simpa using hj
   have hcnt : cnt 0 j = (j : Int) := Cz (by omega)
   subst hs
   unfold Aa6
   rw [hcnt]
   refine (Ok.getR (by omega) (by omega)).bind λ _ _ => (Ok.setR (by omega) (by omega)).bind λ z hz => Ok.next ?_
   rw [hz]
   refine aX λ i _ => ?_
   by_cases e : i = j
   ·subst e; simp
   ·have : ((j : Int)).toNat = j := by omega
    rw [this, if_neg e]
    by_cases e2 : i < j
    ·rw [if_pos e2, if_pos (by omega)]
    ·rw [if_neg e2, if_neg (by omega)]
  ·rw [hs]
   unfold Dg
   refine aX λ i hi => ?_
   rw [hy]
   simp at hi
   simp [hi]
 ·rintro s rfl
  refine Ok.andThen (A := λ s => s = A7 b p) (B := λ (_ : Unit) => False) ?_ (λ s hs => Ok.pure hs) (λ _ h => h.elim)
  refine Ok.foldI0 (I := λ j s => s = (List.range j).foldl (λ s _ => Dh (b.Ad.zip p.Ag) s) (Dg b.Al.toNat)) rfl (λ j x s hx hs => ?_) λ s hs => ?_
  ·unfold Aa5
   have hl : s.length = b.Al.toNat := by rw [hs]; exact O8 _ _ (by simp [Dg])
   refine (Azj h hc hl).inner (λ r hr => Ok.next ?_) (λ _ h => h.elim)
   rw [hr, bR, aR, ← hs]; rfl
  ·rw [hs]
   unfold A7
   congr 2
   simp [Dg]
theorem Azi {s : List Int} (h : ∀ (i : Nat) v, s[i]? = some v -> 0 <= v /\ v <= i) {z : Aj × Bool} (hz : z.1.Kind = 1 -> 0 <= z.1.A /\ z.1.A < z.1.B /\ z.1.B < s.length) : ∀ (i : Nat) v, (Ew s z)[i]? = some v -> 0 <= v /\ v <= i := by
 unfold Ew
 split
 ·rename_i hk
  obtain ⟨h1, h2, h3⟩ := hz hk.1
  have ga : s[z.1.A.toNat]? = some (s.getD z.1.A.toNat 0) := by rw [ae (by omega)]; simp [List.getD, ae (show z.1.A.toNat < s.length by omega)]
  have gb : s[z.1.B.toNat]? = some (s.getD z.1.B.toNat 0) := by rw [ae (by omega)]; simp [List.getD, ae (show z.1.B.toNat < s.length by omega)]
  have ha := h _ _ ga
  have hb := h _ _ gb
  intro i v hv
  rw [ao] at hv
  split at hv
  ·rename_i e; subst e
   split at hv
   ·cases hv; omega
   ·cases hv
  ·rw [ao] at hv
   split at hv
   ·rename_i e; subst e
    split at hv
    ·cases hv; omega
    ·cases hv
   ·exact h i v hv
 ·exact h
theorem Ac0 {n : Nat} : ∀ (l : List (Aj × Bool)) (s : List Int), s.length = n -> (∀ z, z ∈ l -> z.1.Kind = 1 -> 0 <= z.1.A /\ z.1.A < z.1.B /\ z.1.B < n) -> (∀ (i : Nat) v, s[i]? = some v -> 0 <= v /\ v <= i) -> ∀ (i : Nat) v, (Dh l s)[i]? = some v -> 0 <= v /\ v <= i
 | [], s, _, _, h => h
 | z :: l, s, hs, hz, h => Ac0 l (Ew s z) (by rw [Ee]; exact hs) (λ y hy => hz y (ah _ hy)) (Azi h (by rw [hs]; exact hz z ai))
theorem T4 {b : Aa} (h : Au b) (p : Ab) : ∀ (i : Nat) v, (A7 b p)[i]? = some v -> 0 <= v /\ v <= i := by
 have hbu := h.buses
 have hz : ∀ z, z ∈ b.Ad.zip p.Ag -> z.1.Kind = 1 -> 0 <= z.1.A /\ z.1.A < z.1.B /\ z.1.B < (b.Al.toNat : Int) := by
  intro z hz hk
  have := h.br z.1 (b9 hz).1
  unfold R9 at this
  omega
 have key : ∀ (xs : List Nat) (s : List Int), s.length = b.Al.toNat -> (∀ (i : Nat) v, s[i]? = some v -> 0 <= v /\ v <= i) -> ∀ (i : Nat) v, (xs.foldl (λ s _ => Dh (b.Ad.zip p.Ag) s) s)[i]? = some v -> 0 <= v /\ v <= i := by
  intro xs
  induction xs with
  | nil => intro s _ h; exact h
  | cons x xs ih => intro s hl h; exact ih _ (by rw [Fj]; exact hl) (Ac0 _ s hl hz h)
 refine key _ _ (by simp [Dg]) ?_
 intro i v hv
 simp only [Dg, aB] at hv
 cases hr : (List.range b.Al.toNat)[i]? with
 | none => rw [hr] at hv; cases hv
 | some k =>
  rw [hr] at hv
  have := ab.1 hr
  simp at this
  obtain ⟨_, rfl⟩ := this
  cases hv; dsimp only; omega
def I1 (x : Ai) : Bool := !((x.Al.length : Int) == 0)
theorem Azx (l : List Ai) (h : l.length <= 9223372036854775807) : Vs l = some (O7 (λ x => (x.Al.length : Int) == 0) l) := by
 unfold Vs
 exact K3 (λ x : Ai => (x.Al.length : Int) == 0) (λ i y => rfl) l h
theorem A29 (l : List Ai) (hl : l.length <= 1000) : Qe l = some (l.filter I1) := by
 refine Ok.eq ?_
 unfold Qe
 rw [Azx l (by omega)]
 simp only [aa]
 unfold O7
 cases hf : l.findIdx? λ x => (x.Al.length : Int) == 0 with
 | none =>
  rw [cG] at hf
  refine Ok.cond (λ _ => Ok.pure ?_) (λ hc => by simp at hc)
  rw [eq_comm, cA]
  intro x hx
  simp only [I1, hf x hx]; rfl
 | some i =>
  rw [cH] at hf
  obtain ⟨hi, hp, hn⟩ := hf
  refine Ok.cond (λ hc => ?_) (λ _ => ?_)
  ·simp only [beq_iff_eq] at hc; omega
  have e1 : w64 ((i : Int) + 1) = (i : Int) + 1 := A8 (by omega)
  simp only [e1]
  refine Ok.andThen (A := λ s => 0 <= s.1 /\ s.1 <= (l.length : Int) /\ s.2.2.length = l.length /\ s.2.2.take s.1.toNat = l.filter I1) (B := λ (_ : Unit) => False) ?_ ?_ (λ _ h => h.elim)
  ·refine Ok.whileN (λ s => (0 <= s.1 /\ s.1 < s.2.1 /\ s.2.1 <= (l.length : Int)) /\ s.2.2.length = l.length /\ s.2.2.take s.1.toNat = (l.take s.2.1.toNat).filter I1 /\ s.2.2.drop s.2.1.toNat = l.drop s.2.1.toNat) (λ s => ((l.length : Int) - s.2.1).toNat) _ _ ?_ ?_ ?_
   ·refine ⟨by dsimp only; omega, rfl, ?_, rfl⟩
    dsimp only
    have e2 : ((i : Int) + 1).toNat = i + 1 := by omega
    rw [e2, az, Bk (ae hi), bj]
    have h1 : (l.take i).filter I1 = l.take i := by
     rw [cA]
     intro x hx
     obtain ⟨j, hj, rfl⟩ := cz hx
     simp only [aO] at hj
     rw [List.getElem_take]
     have := hn j (by omega)
     simp only [I1]
     simpa using this
    have h2 : I1 l[i] = false := by simp only [I1, hp]; rfl
    rw [h1]
    simp [h2]
   ·dsimp only; omega
   ·rintro ⟨a, j, m⟩ ⟨⟨h1, h2, h3⟩, h4, h5, h6⟩
    dsimp only at h1 h2 h3 h4 h5 h6
    unfold Vr Aix
    dsimp only
    refine Ok.cond (λ hq => ?_) (λ hq => ?_)
    ·simp only [decide_eq_true_eq] at hq
     have e1 : w64 (j + 1) = j + 1 := A8 (by omega)
     have e2 : w64 (a + 1) = a + 1 := A8 (by omega)
     have e3 : (j + 1).toNat = j.toNat + 1 := by omega
     have e4 : (a + 1).toNat = a.toNat + 1 := by omega
     refine (Ok.getI (by omega) (by omega)).bind λ y hy => ?_
     have hyl : l[j.toNat]? = some y := by
      have := congrArg (·[0]?) h6
      simp only [al, cj] at this
      rw [← this]; exact hy
     have hdrop : ∀ (q : List Ai), q.drop j.toNat = l.drop j.toNat -> q.drop (j.toNat + 1) = l.drop (j.toNat + 1) := λ q hq => by
      rw [← bI, hq, bI]
     refine Ok.cond (λ hf => ?_) (λ hf => ?_)
     ·refine (Ok.getI (by omega) (by omega)).bind λ _ _ => (Ok.setI (by omega) (by omega)).bind λ z hz => ?_
      rw [e1, e2]
      subst hz
      refine Ok.next ⟨⟨by dsimp only; omega, by simpa using h4, ?_, ?_⟩, by dsimp only; omega⟩
      ·dsimp only
       rw [e3, e4, Bk hyl, bj, ← h5]
       have hfl : I1 y = true := hf
       rw [Bk (x := y) (by rw [bA (by omega)])]
       simp [hfl, List.take_set_of_le]
      ·dsimp only
       rw [e3, List.drop_set_of_lt (by omega)]
       exact hdrop m h6
     ·rw [e1]
      refine Ok.next ⟨⟨by dsimp only; omega, h4, ?_, ?_⟩, by dsimp only; omega⟩
      ·dsimp only
       have hfl : I1 y = false := hf
       rw [e3, Bk hyl, bj, ← h5]
       simp [hfl]
      ·dsimp only
       rw [e3]; exact hdrop m h6
    ·simp only [decide_eq_false_iff_not] at hq
     have e : j.toNat = l.length := by omega
     refine Ok.brk ⟨h1, by dsimp only; omega, h4, ?_⟩
     dsimp only
     rw [h5, e, aD]
  ·rintro ⟨a, j, m⟩ ⟨h1, h2, h3, h4⟩
   dsimp only at h1 h2 h3 h4 ⊢
   have hc : (Gn m a.toNat ((Int.toNat (m.length : Int)) - a.toNat) (⟨([] : List Int), ([] : List Int), ([] : List Int)⟩ : Ai)).length = l.length := by
    simp [Gn]; omega
   refine (Ok.bndI h1 (by omega) (by omega)).bind λ _ _ => (Ok.bndI (by omega) h1 (by rw [hc]; omega)).bind λ _ _ => Ok.pure ?_
   rw [← h4]
   unfold Gn
   rw [Nat.sub_zero, cr (by simp; omega), List.take_take, Nat.min_self]
def Fm (b : Aa) (p : Ab) (o : Option Int) : Option Int := o.map λ a => (A7 b p).getD a.toNat 0
def D6 (b : Aa) (p : Ab) (n f : Nat) : List Int := ((List.range n).filter λ (i : Nat) => (A7 b p).getD i 0 == (f : Int)).map λ (i : Nat) => (i : Int)
def Fl (b : Aa) (p : Ab) (n f : Nat) : List Int := ((List.range n).filter λ (i : Nat) => Fm b p (Dc b p (i : Int)) == some (f : Int)).map λ (i : Nat) => (i : Int)
def Gw (b : Aa) (p : Ab) (n f : Nat) : List Int := ((List.range n).filter λ (i : Nat) => Fm b p (Ed b p 3 (i : Int)) == some (f : Int)).map λ (i : Nat) => (i : Int)
def isl (b : Aa) (p : Ab) (f : Nat) : Ai := ⟨D6 b p b.Al.toNat f, Fl b p b.Ac.length f, Gw b p b.Af.length f⟩
def Bm (b : Aa) (p : Ab) : List Ai := ((List.range b.Al.toNat).map (isl b p)).filter I1
theorem Fo (q : Nat -> Bool) (n : Nat) : ((List.range (n + 1)).filter q).map (λ (i : Nat) => (i : Int)) = ((List.range n).filter q).map (λ (i : Nat) => (i : Int)) ++ if q n = true then [(n : Int)] else [] := by
 rw [bR, bj, bM]
 congr 1
 cases h : q n <;> simp [h]
theorem Dn (q : Nat -> Bool) (n : Nat) : (((List.range n).filter q).map (λ (i : Nat) => (i : Int))).length <= n := by
 have := bp q (List.range n)
 simpa using this
theorem H4 {b : Aa} (h : Au b) {p : Ab} (hp : As b p) : F89 b p = some (Bm b p) := by
 have hbu := h.buses
 have hso := h.sol
 have hco := h.col
 have hgl := Is b p
 have hglo := T4 h p
 refine Ok.eq ?_
 unfold F89
 rw [Cm h hp]
 simp only [aa]
 refine Ok.cond (λ hc => by simp at hc) (λ _ => ?_)
 rw [Avb h hp.ncl]
 simp only [aa]
 refine (Ok.mkI (by omega) (by omega)).bind λ y hy => ?_
 have hget : ∀ (i : Nat), i < b.Al.toNat -> (A7 b p)[i]? = some ((A7 b p).getD i 0) := λ i hi => by
  have : i < (A7 b p).length := by omega
  simp [List.getD, ae this]
 refine Ok.andThen (A := λ s => s = (List.range b.Al.toNat).map λ f => (⟨D6 b p b.Al.toNat f, [], []⟩ : Ai)) (B := λ (_ : Unit) => False) ?_ ?_ (λ _ h => h.elim)
 ·refine Ok.foldI0 (I := λ j s => s = (List.range b.Al.toNat).map λ f => (⟨D6 b p j f, [], []⟩ : Ai)) ?_ (λ j x s hx hs => ?_) λ s hs => ?_
  ·rw [hy, N8]; rfl
  ·subst hs
   have hj : j < b.Al.toNat := by have := (ab.1 hx).1; omega
   have hlo := hglo j x hx
   have hxe : (A7 b p).getD j 0 = x := by simp [List.getD, hx]
   have hcnt : cnt 0 j = (j : Int) := Cz (by omega)
   unfold Akp
   rw [hcnt]
   refine (Ok.getR (by omega) (by omega)).bind λ u hu => ?_
   subst hu
   have hl : (D6 b p j x.toNat).length <= j := Dn _ _
   refine (Ok.appI (by simp; omega)).bind λ v hv => (Ok.setR (by omega) (by omega)).bind λ w hw => Ok.next ?_
   rw [hw]
   refine aX λ f _ => ?_
   unfold D6
   rw [Fo, hxe]
   by_cases e : f = x.toNat
   ·subst e
    rw [if_pos rfl, if_pos (by simp; omega), hv]
    rfl
   ·rw [if_neg e, if_neg (by simp; omega), aS]
  ·rw [hgl] at hs; exact hs
 ·rintro s rfl
  refine Ok.andThen (A := λ s => s.2 = (List.range b.Al.toNat).map λ f => (⟨D6 b p b.Al.toNat f, Fl b p b.Ac.length f, []⟩ : Ai)) (B := λ (_ : Unit) => False) ?_ ?_ (λ _ h => h.elim)
  ·refine Ok.whileN (λ s => (0 <= s.1 /\ s.1 <= (b.Ac.length : Int)) /\ s.2 = (List.range b.Al.toNat).map λ f => (⟨D6 b p b.Al.toNat f, Fl b p s.1.toNat f, []⟩ : Ai)) (λ s => ((b.Ac.length : Int) - s.1).toNat) _ _ ?_ ?_ ?_
   ·exact ⟨by dsimp only; omega, rfl⟩
   ·dsimp only; omega
   ·rintro ⟨i, s⟩ ⟨⟨h1, h2⟩, h3⟩
    dsimp only at h1 h2 h3
    subst h3
    unfold Ako A1m
    dsimp only
    refine Ok.cond (λ hq => ?_) (λ hq => ?_)
    ·simp only [decide_eq_true_eq] at hq
     have e1 : w64 (i + 1) = i + 1 := A8 (by omega)
     have e2 : (i + 1).toNat = i.toNat + 1 := by omega
     have e3 : ((i.toNat : Nat) : Int) = i := by omega
     rw [Jz h hp]
     simp only [aa]
     cases hcn : Dc b p i with
     | none =>
      refine Ok.cond (λ hc => by simp [D2] at hc) (λ _ => ?_)
      rw [e1]
      refine Ok.next ⟨⟨by dsimp only; omega, ?_⟩, by dsimp only; omega⟩
      dsimp only
      rw [e2]
      refine aX λ f _ => ?_
      unfold Fl
      rw [Fo, e3, hcn, if_neg (by simp [Fm]), aS]
     | some a =>
      have hab := E7 h hcn
      have hga := hget a.toNat (by omega)
      have hgla := hglo _ _ hga
      refine Ok.cond (λ _ => ?_) (λ hc => by simp [D2] at hc)
      have hg2 : getI (A7 b p) a = some ((A7 b p).getD a.toNat 0) := by have := Bl hga; rwa [aP hab.1] at this
      simp only [D2, hg2, aa]
      generalize hge : (A7 b p).getD a.toNat 0 = ga at hgla
      refine (Ok.getR (by omega) (by omega)).bind λ u hu => ?_
      subst hu
      have hl : (Fl b p i.toNat ga.toNat).length <= i.toNat := Dn _ _
      refine (Ok.appI (by simp; omega)).bind λ v hv => (Ok.setR (by omega) (by omega)).bind λ w hw => ?_
      rw [e1]
      refine Ok.next ⟨⟨by dsimp only; omega, ?_⟩, by dsimp only; omega⟩
      dsimp only
      rw [hw, e2]
      refine aX λ f _ => ?_
      unfold Fl
      rw [Fo, e3, hcn]
      simp only [Fm, bH, hge]
      by_cases e : f = ga.toNat
      ·subst e
       rw [if_pos rfl, if_pos (by simp; omega), hv]
       rfl
      ·rw [if_neg e, if_neg (by simp; omega), aS]
    ·simp only [decide_eq_false_iff_not] at hq
     have e : i.toNat = b.Ac.length := by omega
     rw [e]
     exact Ok.brk rfl
  ·rintro ⟨i0, s⟩ hs
   dsimp only at hs
   subst hs
   dsimp only
   refine Ok.andThen (A := λ s => s.2 = (List.range b.Al.toNat).map (isl b p)) (B := λ (_ : Unit) => False) ?_ ?_ (λ _ h => h.elim)
   ·refine Ok.whileN (λ s => (0 <= s.1 /\ s.1 <= (b.Af.length : Int)) /\ s.2 = (List.range b.Al.toNat).map λ f => (⟨D6 b p b.Al.toNat f, Fl b p b.Ac.length f, Gw b p s.1.toNat f⟩ : Ai)) (λ s => ((b.Af.length : Int) - s.1).toNat) _ _ ?_ ?_ ?_
    ·exact ⟨by dsimp only; omega, rfl⟩
    ·dsimp only; omega
    ·rintro ⟨i, s⟩ ⟨⟨h1, h2⟩, h3⟩
     dsimp only at h1 h2 h3
     subst h3
     unfold Akn A1l
     dsimp only
     refine Ok.cond (λ hq => ?_) (λ hq => ?_)
     ·simp only [decide_eq_true_eq] at hq
      have e1 : w64 (i + 1) = i + 1 := A8 (by omega)
      have e2 : (i + 1).toNat = i.toNat + 1 := by omega
      have e3 : ((i.toNat : Nat) : Int) = i := by omega
      rw [Avf h hp.ncl]
      simp only [aa]
      cases hcn : Ed b p 3 i with
      | none =>
       refine Ok.cond (λ hc => by simp [D2] at hc) (λ _ => ?_)
       rw [e1]
       refine Ok.next ⟨⟨by dsimp only; omega, ?_⟩, by dsimp only; omega⟩
       dsimp only
       rw [e2]
       refine aX λ f _ => ?_
       unfold Gw
       rw [Fo, e3, hcn, if_neg (by simp [Fm]), aS]
      | some a =>
       have hab := Yp h hcn
       have hga := hget a.toNat (by omega)
       have hgla := hglo _ _ hga
       refine Ok.cond (λ _ => ?_) (λ hc => by simp [D2] at hc)
       have hg2 : getI (A7 b p) a = some ((A7 b p).getD a.toNat 0) := by have := Bl hga; rwa [aP hab.1] at this
       simp only [D2, hg2, aa]
       generalize hge : (A7 b p).getD a.toNat 0 = ga at hgla
       refine (Ok.getR (by omega) (by omega)).bind λ u hu => ?_
       subst hu
       have hl : (Gw b p i.toNat ga.toNat).length <= i.toNat := Dn _ _
       refine (Ok.appI (by simp; omega)).bind λ v hv => (Ok.setR (by omega) (by omega)).bind λ w hw => ?_
       rw [e1]
       refine Ok.next ⟨⟨by dsimp only; omega, ?_⟩, by dsimp only; omega⟩
       dsimp only
       rw [hw, e2]
       refine aX λ f _ => ?_
       unfold Gw
       rw [Fo, e3, hcn]
       simp only [Fm, bH, hge]
       by_cases e : f = ga.toNat
       ·subst e
        rw [if_pos rfl, if_pos (by simp; omega), hv]
        rfl
       ·rw [if_neg e, if_neg (by simp; omega), aS]
     ·simp only [decide_eq_false_iff_not] at hq
      have e : i.toNat = b.Af.length := by omega
      rw [e]
      exact Ok.brk rfl
   ·rintro ⟨i1, s⟩ hs
    dsimp only at hs
    subst hs
    dsimp only
    rw [A29 _ (by simp; omega)]
    exact Ok.pure rfl
theorem Ls {α : Type} {B : Nat} {l : List α} (h : l.length * B <= 140737488355328) : appI B [] l = some l := by
 unfold appI
 have : decide ((([] : List α).length + l.length) * B <= 140737488355328) = true := by simpa using h
 rw [this]; rfl
theorem Cv {b : Aa} (h : Au b) {p : Ab} (hp : As b p) : Il p = some p := by
 have h1 := hp.ncl
 have h2 := hp.nso
 have h3 := hp.nli
 have h4 := hp.brk.len
 have h5 := h.brl
 have h6 := h.sol
 have h7 := h.col
 unfold Il As2 As1 Z6 As0
 rw [Ls (by omega), Ls (by omega), Ls (by omega), Ls (by omega)]
 rfl
theorem eqB (l : List Bool) (h : l.length <= 9223372036854775807) : jB l l = some true := by
 unfold jB
 rw [C4 l 0 λ j x hj => ?_]
 ·simp [andThen]
 ·have hjl := (ab.1 hj).1
  unfold Xp
  rw [aH, Cz (by omega), Bl hj]
  simp
theorem eqI (l : List Int) (h : l.length <= 9223372036854775807) : Z_ l l = some true := by
 unfold Z_
 rw [C4 l 0 λ j x hj => ?_]
 ·simp [andThen]
 ·have hjl := (ab.1 hj).1
  unfold Xn
  rw [aH, Cz (by omega), Bl hj]
  simp
theorem eqR (l : List Ae) (h : l.length <= 9223372036854775807) : jA l l = some true := by
 unfold jA
 rw [C4 l 0 λ j x hj => ?_]
 ·simp [andThen]
 ·have hjl := (ab.1 hj).1
  unfold Xo Awq
  rw [aH, Cz (by omega), Bl hj]
  simp
theorem eqP (l : List Am) (h : l.length <= 9223372036854775807) : Z9 l l = some true := by
 unfold Z9
 rw [C4 l 0 λ j x hj => ?_]
 ·simp [andThen]
 ·have hjl := (ab.1 hj).1
  unfold Xm Awp
  rw [aH, Cz (by omega), Bl hj]
  simp
structure Asm (p : Ab) : Prop where
 c : p.Ag.length <= 1000
 s : p.Ac.length <= 1000
 l : p.Aq.length <= 1000
 k : p.Ao.length <= 1000
theorem As.lens {b : Aa} (h : Au b) {p : Ab} (hp : As b p) : Asm p := by
 have h1 := hp.ncl
 have h2 := hp.nso
 have h3 := hp.nli
 have h4 := hp.brk.len
 have h5 := h.brl
 have h6 := h.sol
 have h7 := h.col
 exact ⟨by omega, by omega, by omega, by omega⟩
theorem Atm {p : Ab} (h : Asm p) : F60 p p = some true := by
 have h1 := h.c
 have h2 := h.s
 have h3 := h.l
 have h4 := h.k
 unfold F60
 rw [eqB _ (by omega), eqI _ (by omega), eqR _ (by omega), eqP _ (by omega)]
 rfl
theorem Art (l : List Bool) (h : l.length <= 9223372036854775807) : F37 l l = some true := by
 unfold F37
 rw [C4 l 0 λ j x hj => ?_]
 ·simp [andThen]
 ·have hjl := (ab.1 hj).1
  unfold Ak3
  rw [aH, Cz (by omega), Bl hj]
  simp
theorem Au6 (l : List Int) (h : l.length <= 9223372036854775807) : F38 l l = some true := by
 unfold F38
 rw [C4 l 0 λ j x hj => ?_]
 ·simp [andThen]
 ·have hjl := (ab.1 hj).1
  unfold Ak2
  rw [aH, Cz (by omega), Bl hj]
  simp
theorem Ti {p : Ab} (h : Asm p) : F19 p p = some true := by
 have h1 := h.c
 have h2 := h.s
 have h3 := h.l
 have h4 := h.k
 refine Ok.eq ?_
 unfold F19
 rw [Art _ (by omega), Au6 _ (by omega)]
 have e : (A4 [((!true), false)] (some true) default : Option Bool) = some true := rfl
 simp only [aa]
 rw [e]
 simp only [aa]
 refine Ok.cond (λ hc => by simp [A13] at hc) (λ _ => ?_)
 refine Ok.andThen (A := λ _ => True) (B := λ _ => False) ?_ ?_ (λ _ h => h.elim)
 ·refine Ok.whileN (λ s => 0 <= s /\ s <= (p.Ac.length : Int)) (λ s => ((p.Ac.length : Int) - s).toNat) _ _ (by omega) (by omega) ?_
  rintro i ⟨h5, h6⟩
  unfold Alh A12
  refine Ok.cond (λ hq => ?_) (λ _ => Ok.brk trivial)
  simp only [decide_eq_true_eq] at hq
  refine (Ok.getI h5 hq).bind λ u hu => ?_
  refine Ok.bind (P := λ v => v = u) ((Ok.getI h5 hq).mono λ v hv => by rw [hu] at hv; cases hv; rfl) λ v hv => ?_
  subst hv
  refine Ok.cond (λ hc => by simp [A11] at hc) (λ _ => Ok.next ?_)
  rw [A8 (by omega)]
  omega
 ·intro _ _
  refine Ok.andThen (A := λ _ => True) (B := λ _ => False) ?_ (λ _ _ => Ok.pure rfl) (λ _ h => h.elim)
  refine Ok.whileN (λ s => 0 <= s /\ s <= (p.Ao.length : Int)) (λ s => ((p.Ao.length : Int) - s).toNat) _ _ (by omega) (by omega) ?_
  rintro i ⟨h5, h6⟩
  unfold Alg A10
  refine Ok.cond (λ hq => ?_) (λ _ => Ok.brk trivial)
  simp only [decide_eq_true_eq] at hq
  refine (Ok.getI h5 hq).bind λ u hu => ?_
  refine Ok.bind (P := λ v => v = u) ((Ok.getI h5 hq).mono λ v hv => by rw [hu] at hv; cases hv; rfl) λ v hv => ?_
  subst hv
  refine Ok.cond (λ hc => by simp [Awd] at hc) (λ _ => Ok.next ?_)
  rw [A8 (by omega)]
  omega
def X9 (B3 x : Ae) : Ae := ⟨x.State, x.Since, B3.An, B3.Phase⟩
def Ek (B3 : Ae) (idx : List Int) (ss : List Ae) : List Ae := idx.foldl (λ s i => s.set i.toNat (X9 B3 (s.getD i.toNat default))) ss
theorem G2 (B3 : Ae) : ∀ (idx : List Int) (ss : List Ae), (Ek B3 idx ss).length = ss.length
 | [], _ => rfl
 | i :: idx, ss => by
  show (Ek B3 idx _).length = _
  rw [G2 B3 idx, bU]
theorem Abv {B3 : Ae} {idx : List Int} {j : Nat} {i : Int} (h : idx[j]? = some i) (ss : List Ae) : Ek B3 (idx.take (j + 1)) ss = (Ek B3 (idx.take j) ss).set i.toNat (X9 B3 ((Ek B3 (idx.take j) ss).getD i.toNat default)) := by
 unfold Ek
 rw [Bk h, aR]; rfl
theorem Tb {p : Ab} {idx : List Int} {B3 : Ae} (h : ∀ i, i ∈ idx -> 0 <= i /\ i < p.Ac.length) : Nt p idx B3 = some (Ek B3 idx p.Ac) := by
 refine Ok.eq ?_
 unfold Nt
 refine Ok.andThen (A := λ s => s = Ek B3 idx p.Ac) (B := λ (_ : Unit) => False) ?_ (λ s hs => Ok.pure hs) (λ _ h => h.elim)
 refine Ok.foldI0 (I := λ j s => s = Ek B3 (idx.take j) p.Ac) rfl (λ j x s hx hs => ?_) λ s hs => ?_
 ·have hi := h x (af hx)
  have hl : s.length = p.Ac.length := by rw [hs, G2]
  unfold Vx
  refine (Ok.getI hi.1 (by omega)).bind λ u hu => (Ok.setI hi.1 (by omega)).bind λ v hv => ?_
  have hvg : v[x.toNat]? = some (⟨u.State, u.Since, B3.An, u.Phase⟩ : Ae) := by rw [hv, bA (by omega)]
  refine Ok.bind (P := λ w => w = (⟨u.State, u.Since, B3.An, u.Phase⟩ : Ae)) ((Ok.getI hi.1 (by rw [hv]; simpa using by omega)).mono λ w hw => by rw [hvg] at hw; cases hw; rfl) λ w hw => ?_
  refine (Ok.setI hi.1 (by rw [hv]; simpa using by omega)).bind λ z hz => Ok.next ?_
  rw [Abv hx, ← hs, hz, hv, hw, List.set_set]
  have : s.getD x.toNat default = u := by simp [List.getD, hu]
  rw [this]; rfl
 ·rw [aD] at hs; exact hs
def C6 (b : Aa) (p : Ab) : List Ae := (Bm b p).foldl (λ s x => match x.Ac with | [] => s | i :: _ => Ek (p.Ac.getD i.toNat default) x.Ac s) p.Ac
theorem Pw {b : Aa} {p : Ab} {x : Ai} (h : x ∈ Bm b p) : ∀ i, i ∈ x.Ac -> 0 <= i /\ i < b.Ac.length := by
 unfold Bm at h
 obtain ⟨f, _, rfl⟩ := aq.1 (ax.1 h).1
 intro i hi
 obtain ⟨k, hk, rfl⟩ := aq.1 hi
 have := aV.1 (ax.1 hk).1
 omega
theorem H3 (b : Aa) (p : Ab) : (Bm b p).length <= b.Al.toNat := by
 have := bp I1 ((List.range b.Al.toNat).map (isl b p))
 simpa [Bm] using this
def Cw (p : Ab) (s : List Ae) (x : Ai) : List Ae := match x.Ac with
 | [] => s
 | i :: _ => Ek (p.Ac.getD i.toNat default) x.Ac s
theorem Na (p : Ab) (s : List Ae) (x : Ai) : (Cw p s x).length = s.length := by
 unfold Cw; split
 ·rfl
 ·rw [G2]
theorem Kw (p : Ab) : ∀ (l : List Ai) (s : List Ae), (l.foldl (Cw p) s).length = s.length
 | [], _ => rfl
 | x :: l, s => by show (l.foldl (Cw p) _).length = _; rw [Kw p l, Na]
theorem F7 (b : Aa) (p : Ab) : (C6 b p).length = p.Ac.length := Kw p _ _
theorem Oe {b : Aa} (h : Au b) {p : Ab} (hp : As b p) : F57 b p = some (⟨p.Ag, C6 b p, p.Aq, p.Ao⟩, 0) := by
 refine Ok.eq ?_
 unfold F57
 rw [Cm h hp, Cv h hp, H4 h hp]
 simp only [aa]
 refine Ok.cond (λ hc => by simp at hc) (λ _ => ?_)
 refine Ok.andThen (A := λ s => s = C6 b p) (B := λ (_ : Unit) => False) ?_ (λ s hs => Ok.pure (by rw [hs])) (λ _ h => h.elim)
 refine Ok.foldI0 (I := λ j s => s = ((Bm b p).take j).foldl (Cw p) p.Ac) rfl (λ j x s hx hs => ?_) λ s hs => ?_
 ·have hi := Pw (af hx)
  have hl : s.length = p.Ac.length := by rw [hs, Kw]
  have hn := hp.nso
  have hnext : ((Bm b p).take (j + 1)).foldl (Cw p) p.Ac = Cw p s x := by rw [Bk hx, aR, ← hs]; rfl
  unfold Aks A1o
  cases hsrc : x.Ac with
  | nil =>
   refine Ok.cond (λ hc => by simp at hc) (λ _ => Ok.next ?_)
   rw [hnext]; simp [Cw, hsrc]
  | cons i l =>
   have hi0 := hi i (by rw [hsrc]; exact ai)
   refine Ok.cond (λ _ => ?_) (λ hc => by simp at hc)
   have hg : getI (i :: l) 0 = some i := rfl
   obtain ⟨u, hu⟩ : ∃ u, p.Ac[i.toNat]? = some u := ⟨_, ae (by omega)⟩
   have hg2 : getI p.Ac i = some u := by have := Bl hu; rwa [aP hi0.1] at this
   rw [hg]
   simp only [aa]
   rw [hg2]
   simp only [aa]
   rw [Tb (by
    intro k hk
    have := hi k (by rw [hsrc]; exact hk)
    dsimp only
    omega)]
   refine Ok.next ?_
   rw [hnext]
   have : p.Ac.getD i.toNat default = u := by simp [List.getD, hu]
   simp only [Cw, hsrc, this]
 ·rw [aD] at hs; exact hs
structure Jd (y : Bd) : Prop where
 stop : 1 <= y.Stop /\ y.Stop <= 99
 start : y.Stop < y.Start /\ y.Start <= 100
 delay : 0 <= y.Delay /\ y.Delay <= 600
theorem Xv {y : Bd} (h : Jd y) : F59 y = true := by
 have h1 := h.stop
 have h2 := h.start
 have h3 := h.delay
 simp only [F59, ac, decide_eq_true_eq]
 omega
theorem A0k {s : Ah} (hs : Bu s) : Ok (F30 s) λ y => Jd y.1 /\ Bu y.2 := by
 unfold F30
 refine (D7 hs _ (by simp) (by simp)).bind λ u hu => (D7 hu.1 _ (by simp) (by simp)).bind λ v hv => (D7 hv.1 _ (by simp) (by simp)).bind λ w hw => Ok.pure ⟨?_, hw.1⟩
 have g1 : u.1 = 60 \/ u.1 = 80 \/ u.1 = 100 := by simpa using hu.2
 have g2 : v.1 = 1 \/ v.1 = 30 \/ v.1 = 50 := by simpa using hv.2
 have g3 : w.1 = 0 \/ w.1 = 1 \/ w.1 = 3 := by simpa using hw.2
 exact ⟨by dsimp only; omega, by dsimp only; omega, by dsimp only; omega⟩
def Ju : A0 := ⟨-1, -1⟩
theorem A9a : F86 1 = some (List.replicate 1 Ju) := by kernel_rfl
theorem A89 : F86 2 = some (List.replicate 2 Ju) := by kernel_rfl
theorem A88 : F86 3 = some (List.replicate 3 Ju) := by kernel_rfl
theorem A87 : F86 4 = some (List.replicate 4 Ju) := by kernel_rfl
theorem A86 : F86 5 = some (List.replicate 5 Ju) := by kernel_rfl
theorem A85 : F86 6 = some (List.replicate 6 Ju) := by kernel_rfl
theorem A2z {n : Int} (h : 1 <= n /\ n <= 6) : F86 n = some (List.replicate n.toNat Ju) := by
 have : n = 1 \/ n = 2 \/ n = 3 \/ n = 4 \/ n = 5 \/ n = 6 := by omega
 rcases this with rfl | rfl | rfl | rfl | rfl | rfl
 ·exact A9a
 ·exact A89
 ·exact A88
 ·exact A87
 ·exact A86
 ·exact A85
def Fc (t : Int) (x : A0) : Prop := (-1 <= x.High /\ x.High <= t) /\ -1 <= x.Low /\ x.Low <= t
theorem Aqa {p : Az} {l : List A0} (h : ∀ x, x ∈ l -> Fc p.Time x) : vD l p = some (false, p) := by
 refine Ok.eq ?_
 unfold vD vX
 refine Ok.bind (P := λ y => y = (-1, p)) ?_ (λ y hy => Ok.pure (by rw [hy]; rfl))
 refine Ok.andThen (A := λ s => s = (p.Time, p.Power.Ag, p.Power.Ac, p.Power.Aq, p.Power.Ao, p.A5, p.A6)) (B := λ _ => False) ?_ (λ s hs => Ok.pure (by rw [hs])) (λ _ h => h.elim)
 refine Ok.foldI0 (I := λ _ s => s = (p.Time, p.Power.Ag, p.Power.Ac, p.Power.Aq, p.Power.Ao, p.A5, p.A6)) rfl (λ j x s hx hs => ?_) λ s hs => hs
 have hr := h x (af hx)
 unfold Fc at hr
 subst hs
 unfold Vw
 refine Ok.cond (λ hc => ?_) (λ _ => Ok.next rfl)
 simp only [Ai6, Gr, R6, aF, bg, Bool.and_eq_false_iff, decide_eq_false_iff_not] at hc
 omega
structure Ic (b : Aa) (y : Bd) (p : Az) : Prop where
 st : As b p.Power
 fol : C6 b p.Power = p.Power.Ac
 time : 0 <= p.Time /\ p.Time <= 2147483648
 nro : p.A5.length = b.Al.toNat
 ros : ∀ x, x ∈ p.A5 -> Fc p.Time x
theorem Sb {b : Aa} (h : Au b) {y : Bd} (hy : Jd y) {p : Az} (hp : Ic b y p) : F21 b y p = some 0 := by
 have h1 := h.buses
 have h2 := hp.time
 have h3 := hp.nro
 refine Ok.eq ?_
 unfold F21
 rw [Oe h hp.st]
 simp only [aa, hp.fol]
 refine Ok.cond (λ hc => by simp at hc) (λ _ => Ok.cond (λ hc => ?_) (λ _ => Ok.cond (λ hc => ?_) (λ _ => ?_)))
 ·simp only [A1y, Xv hy, aZ, aY, aF, decide_eq_true_eq] at hc
  omega
 ·simp only [bne_iff_ne, ne_eq] at hc
  omega
 ·have e : (⟨p.Power.Ag, p.Power.Ac, p.Power.Aq, p.Power.Ao⟩ : Ab) = p.Power := rfl
  rw [e, Atm (hp.st.lens h)]
  simp only [aa]
  rw [Aqa hp.ros]
  have e2 : A4 [((!true), false)] (some (false, p)) (default, p) = some (false, p) := rfl
  rw [e2]
  exact Ok.pure rfl
def brk (l : List Am) (k n : Int) : Bool := l.any λ x => k == x.Kind && n == x.Number
theorem E2 {p : Ab} (h : p.Ao.length <= 1000) (k n : Int) : Hs p k n = some (brk p.Ao k n) := by
 unfold Hs As4 Asx
 rw [K3 (λ x : Am => (k == x.Kind) && ((n == x.Number) && true)) (λ i y => rfl) p.Ao (by omega)]
 simp only [aa, Q6, brk, bC]
def Ia (b : Aa) (i : Int) : Int := O7 (λ x : Aj => x.Kind == 2 && x.B == i) b.Ad
theorem uP {b : Aa} (h : Au b) (i : Int) : Ala b i = some (Ia b i) := by
 have hb := h.brl
 unfold Ala vR
 refine Ok.eq ?_
 refine Ok.bind (P := λ y => y = (Ia b i, i)) ?_ (λ y hy => Ok.pure (by rw [hy]))
 have key := Kq (f := λ n (a : Aj) (z : Unit) => (bif (a.Kind == 2 && a.B == i) then some (.ret (cnt 0 n)) else some (.next ()) : Option (Ctl Unit Int))) (p := λ x : Aj => x.Kind == 2 && x.B == i) (λ _ _ => rfl) b.Ad 0 (by omega)
 have : ∀ (xs : List Aj) (k : Nat), foldI (On i) xs k () = match foldI (λ n (a : Aj) (z : Unit) => (bif (a.Kind == 2 && a.B == i) then some (.ret (cnt 0 n)) else some (.next ()) : Option (Ctl Unit Int))) xs k () with
   | some (.ret r) => some (.ret (r, i))
   | some (.next _) => some (.next ())
   | some (.brk _) => some (.brk ())
   | none => none := by
  intro xs
  induction xs with
  | nil => intro k; rfl
  | cons x xs ih =>
   intro k
   simp only [foldI, On, vK]
   cases hq : (x.Kind == 2 && x.B == i) with
   | true => rfl
   | false => simp only [cond_false]; exact ih (k + 1)
 rw [this, key]
 unfold Ia O7
 cases b.Ad.findIdx? (λ x : Aj => x.Kind == 2 && x.B == i) with
 | none => exact Ok.pure rfl
 | some j => exact Ok.pure rfl
theorem L9 {b : Aa} (h : Au b) {i : Int} (h0 : 0 <= i) (h1 : i < b.Ac.length) : ∃ (j : Nat) (x : Aj), Ia b i = (j : Int) /\ b.Ad[j]? = some x /\ x.Kind = 2 /\ x.B = i /\ j < 24 := by
 have hone := h.one i.toNat (by omega)
 have hb := h.brl
 unfold Ia O7
 cases hf : b.Ad.findIdx? (λ x : Aj => x.Kind == 2 && x.B == i) with
 | none =>
  exfalso
  rw [cG] at hf
  have : brs b.Ad 2 i.toNat = [] := Kk λ x hx hk e => by
   have := hf x hx
   simp [hk] at this
   omega
  rw [this] at hone; simp at hone
 | some j =>
  rw [cH] at hf
  obtain ⟨hj, hp, _⟩ := hf
  simp only [ac, beq_iff_eq] at hp
  exact ⟨j, b.Ad[j], rfl, ae hj, hp.1, hp.2, by omega⟩
def ks (x : Am) : Int := x.Kind * 1000 + x.Number
def Ck (x : Am) : Prop := (1 <= x.Kind /\ x.Kind <= 4) /\ 0 <= x.Number /\ x.Number <= 100
theorem Cb.small {b : Aa} (h : Au b) {x : Am} (hx : Cb b x) : Ck x := by
 have h1 := h.buses
 have h2 := h.brl
 have h3 := h.sol
 have h4 := h.col
 unfold Cb at hx
 unfold Ck
 omega
theorem Ae4 {x y : Am} (hx : Ck x) (hy : Ck y) : P7 x y ↔ ks x < ks y := by
 unfold P7 ks
 unfold Ck at hx hy
 omega
theorem A1e {x y : Am} (hx : Ck x) (hy : Ck y) (h : ks x = ks y) : x = y := by
 unfold ks at h
 unfold Ck at hx hy
 cases x; cases y
 simp only [Am.mk.injEq]
 dsimp only at *
 omega
theorem Adg {x y : Am} (hx : Ck x) (hy : Ck y) : (decide (R8 x y < 0) = decide (ks x < ks y)) /\ ((R8 x y == 0) = (ks x == ks y)) := by
 unfold Ck at hx hy
 unfold R8 ks
 by_cases hk : x.Kind = y.Kind
 ·have : (x.Kind != y.Kind) = false := by simp [hk]
  rw [this, cond_false, A8 (by omega)]
  constructor
  ·exact decide_eq_decide.2 (by omega)
  ·rw [bz, beq_iff_eq, beq_iff_eq]; omega
 ·have : (x.Kind != y.Kind) = true := by simp [hk]
  rw [this, cond_true, A8 (by omega)]
  constructor
  ·exact decide_eq_decide.2 (by omega)
  ·rw [bz, beq_iff_eq, beq_iff_eq]; omega
def Gx (l : List Am) : Prop := ∀ (j k : Nat) x y, j < k -> l[j]? = some x -> l[k]? = some y -> ks x < ks y
theorem Hd {b : Aa} (h : Au b) {l : List Am} (hl : D8 b l) : Gx l := by
 have hs : ∀ x, x ∈ l -> Ck x := λ x hx => (hl.mem x hx).small h
 intro j k
 induction k with
 | zero => intro x y hj; omega
 | succ k ih =>
  intro x y hj hx hy
  have hk := (ab.1 hy).1
  obtain ⟨z, hz⟩ : ∃ z, l[k]? = some z := ⟨_, ae (by omega)⟩
  have h1 := (Ae4 (hs z (af hz)) (hs y (af hy))).1 (hl.asc k z y hz hy)
  by_cases e : j = k
  ·subst e
   rw [hx] at hz; cases hz; exact h1
  ·have := ih x z (by omega) hx hz
   omega
theorem A22 {n : Int} (h0 : 0 <= n) (h1 : n <= 1000000) : w64 (He .u64 (IntKind.wrap .u64 (w64 n)) 1) = n / 2 := by
 have e1 : w64 n = n := A8 (by omega)
 have e2 : IntKind.wrap .u64 n = n := by
  simp [IntKind.wrap, IntKind.signed, IntKind.bits]
  omega
 have e3 : He .u64 n 1 = n / 2 := by
  unfold He
  have : (2 : Int) ^ min 1 (IntKind.u64).bits = 2 := by decide
  rw [this]
  exact Int.fdiv_eq_ediv_of_nonneg _ (by omega)
 rw [e1, e2, e3, A8 (by omega)]
structure At (l : List Am) (x : Am) (n : Nat) : Prop where
 le : n <= l.length
 lo : ∀ (j : Nat) y, j < n -> l[j]? = some y -> ks y < ks x
 hi : ∀ (j : Nat) y, n <= j -> l[j]? = some y -> ks x <= ks y
theorem N6 {l : List Am} (hs : Gx l) (hsm : ∀ x, x ∈ l -> Ck x) {x : Am} (hx : Ck x) (hl : l.length <= 1000) :
  Ok (U7 l x) λ y => ∃ n : Nat, y.1 = (n : Int) /\ At l x n /\ (y.2 = true ↔ l[n]? = some x) := by
 unfold U7
 refine Ok.andThen (A := λ s => ∃ n : Nat, s.1 = (n : Int) /\ At l x n) (B := λ (_ : Unit) => False) ?_ ?_ (λ _ h => h.elim)
 ·refine Ok.whileN (λ s => (0 <= s.1 /\ s.1 <= s.2 /\ s.2 <= (l.length : Int)) /\ (∀ (j : Nat) y, (j : Int) < s.1 -> l[j]? = some y -> ks y < ks x) /\ ∀ (j : Nat) y, s.2 <= (j : Int) -> l[j]? = some y -> ks x <= ks y) (λ s => (s.2 - s.1).toNat) _ _ ?_ ?_ ?_
  ·refine ⟨by dsimp only; omega, λ j y hj => by dsimp only at hj; omega, λ j y hj hy => ?_⟩
   have := (ab.1 hy).1
   dsimp only at hj; omega
  ·dsimp only; omega
  ·rintro ⟨i, j⟩ ⟨⟨h1, h2, h3⟩, h4, h5⟩
   dsimp only at h1 h2 h3 h4 h5
   unfold U6
   dsimp only
   refine Ok.cond (λ hq => ?_) (λ hq => ?_)
   ·simp only [decide_eq_true_eq] at hq
    rw [A22 (by omega) (by omega)]
    refine (Ok.getI (by omega) (by omega)).bind λ y hy => ?_
    have hym := hsm y (af hy)
    rw [(Adg hym hx).1]
    refine Ok.cond (λ hc => ?_) (λ hc => ?_)
    ·simp only [decide_eq_true_eq] at hc
     rw [A8 (by omega)]
     refine Ok.next ⟨⟨by dsimp only; omega, λ k z hk hz => ?_, h5⟩, by dsimp only; omega⟩
     dsimp only at hk
     by_cases e : k = ((i + j) / 2).toNat
     ·subst e; rw [hy] at hz; cases hz; exact hc
     ·have := hs k _ z y (by omega) hz hy
      omega
    ·simp only [decide_eq_false_iff_not] at hc
     refine Ok.next ⟨⟨by dsimp only; omega, h4, λ k z hk hz => ?_⟩, by dsimp only; omega⟩
     dsimp only at hk
     by_cases e : k = ((i + j) / 2).toNat
     ·subst e; rw [hy] at hz; cases hz; omega
     ·have := hs _ k y z (by omega) hy hz
      omega
   ·simp only [decide_eq_false_iff_not] at hq
    refine Ok.brk ⟨i.toNat, by dsimp only; omega, by omega, λ k y hk hy => h4 k y (by omega) hy, λ k y hk hy => h5 k y (by omega) hy⟩
 ·rintro ⟨i, j⟩ ⟨n, hn, hat⟩
  dsimp only at hn
  subst hn
  dsimp only
  by_cases hlt : n < l.length
  ·obtain ⟨y, hy⟩ : ∃ y, l[n]? = some y := ⟨_, ae hlt⟩
   have hd : decide ((n : Int) < (l.length : Int)) = true := by simp; omega
   rw [hd, Bl hy]
   refine Ok.bind (P := λ z => z = y) (Ok.guard (λ _ => Ok.pure rfl) λ hn => (hn ⟨rfl, trivial⟩).elim) λ z hz => Ok.pure ⟨n, rfl, hat, ?_⟩
   subst hz
   have hym := hsm z (af hy)
   show (true && (R8 z x == 0)) = true ↔ _
   rw [a9, (Adg hym hx).2, beq_iff_eq, hy]
   constructor
   ·intro e; rw [A1e hym hx e]
   ·intro e; cases e; rfl
  ·have hd : decide ((n : Int) < (l.length : Int)) = false := by simp; omega
   rw [hd]
   refine Ok.bind (P := λ _ => True) (Ok.guard (λ hg => absurd hg.1 (by simp)) λ _ => trivial) λ z _ => Ok.pure ⟨n, rfl, hat, ?_⟩
   rw [bW (by omega)]
   simp
theorem At.uniq {l : List Am} {x : Am} {n m : Nat} (h : At l x n) (k : At l x m) : n = m := by
 rcases bD n m with e | e | e
 ·obtain ⟨y, hy⟩ : ∃ y, l[n]? = some y := ⟨_, ae (by have := k.le; omega)⟩
  have := h.hi n y (ar _) hy
  have := k.lo n y e hy
  omega
 ·exact e
 ·obtain ⟨y, hy⟩ : ∃ y, l[m]? = some y := ⟨_, ae (by have := h.le; omega)⟩
  have := k.hi m y (ar _) hy
  have := h.lo m y e hy
  omega
def D5 (l : List Am) (n : Nat) (x : Am) : List Am := l.take n ++ (x :: l.drop n)
theorem Au7 {l : List Am} {n : Nat} (hn : n <= l.length) (hl : l.length <= 1000) (x : Am) : P_ l (n : Int) [x] = some (D5 l n x) := by
 refine Ok.eq ?_
 unfold P_
 refine (Ok.bndI (by omega) (by omega) (by omega)).bind λ _ _ => ?_
 refine Ok.cond (λ hc => by simp at hc) (λ _ => Ok.cond (λ hc => ?_) (λ _ => ?_))
 ·simp only [beq_iff_eq] at hc
  have e : n = l.length := by omega
  refine (Ok.appI (by simp; omega)).bind λ y hy => Ok.pure ?_
  rw [hy, D5, e]; simp
 ·refine (Ok.insI (by simp; omega)).mono λ y hy => ?_
  rw [hy, az]; rfl
theorem Av2 {l : List Am} {n : Nat} (hn : n <= l.length) (x : Am) : U5 (D5 l n x) (n : Int) ((n : Int) + 1) = some l := by
 have hlen : (D5 l n x).length = l.length + 1 := by simp [D5]; omega
 refine Ok.eq ?_
 unfold U5
 have e1 : ((n : Int) + 1).toNat = n + 1 := by omega
 have hdrop : (D5 l n x).drop (n + 1) = l.drop n := by
  unfold D5
  rw [List.drop_append, List.drop_of_length_le (by simp; omega)]
  have : n + 1 - (l.take n).length = 1 := by simp; omega
  rw [this]; simp
 have htake : (D5 l n x).take n = l.take n := by
  unfold D5
  rw [cr (by simp; omega), List.take_take, Nat.min_self]
 refine (Ok.bnd3I (by omega) (by omega) (by omega) (by omega)).bind λ _ _ => Ok.cond (λ hc => ?_) (λ _ => ?_)
 ·simp only [beq_iff_eq] at hc; omega
 refine (Ok.bndI (by omega) (by omega) (by omega)).bind λ _ _ => (Ok.bndI (by omega) (by omega) (by omega)).bind λ _ _ => ?_
 simp only [az, e1, hdrop, Nat.sub_zero]
 have hpl : ((l.drop n).take ((D5 l n x).length - (n + 1))).length = l.length - n := by simp [hlen]
 have hpe : (l.drop n).take ((D5 l n x).length - (n + 1)) = l.drop n := bQ (by simp [hlen])
 rw [hpe]
 have hdl : (l.drop n).length = l.length - n := by simp
 refine (Ok.appPI (by rw [hlen, hdl]; omega)).bind λ y hy => ?_
 have hyl : y.length = l.length + 1 := by rw [hy]; simp [hlen]; omega
 refine (Ok.bndI (by omega) (by rw [hlen, hdl]; omega) (by rw [hlen, hyl]; omega)).bind λ _ _ => Ok.pure ?_
 have e2 : n + (l.drop n).length = l.length := by rw [hdl]; omega
 rw [e2]
 unfold Gn
 simp only [aH]
 rw [cr (by simp; omega), List.take_take, Nat.min_self, hy, htake, ← aL, cr (by simp), cm, aD]
theorem Q4 {l : List Am} {n : Nat} (hn : n <= l.length) {x : Am} {j : Nat} {y : Am} (h : (D5 l n x)[j]? = some y) : (j < n /\ l[j]? = some y) \/ (j = n /\ y = x) \/ (n < j /\ l[j - 1]? = some y) := by
 unfold D5 at h
 have ht : (l.take n).length = n := by simp; omega
 rw [bO] at h
 split at h
 ·rename_i h1
  rw [ht] at h1
  rw [an, if_pos h1] at h
  exact .inl ⟨h1, h⟩
 ·rename_i h1
  rw [ht] at h1 h
  by_cases e : j = n
  ·subst e
   simp at h
   exact .inr (.inl ⟨rfl, h.symm⟩)
  ·obtain ⟨k, hk⟩ : ∃ k, j - n = k + 1 := ⟨j - n - 1, by omega⟩
   rw [hk, cu, al] at h
   refine .inr (.inr ⟨by omega, ?_⟩)
   rw [← h]; congr 1; omega
theorem Azf {l : List Am} {n : Nat} {x y : Am} (h : y ∈ D5 l n x) : y = x \/ y ∈ l := by
 unfold D5 at h
 rcases au.1 h with h | h
 ·exact .inr (bf h)
 ·rcases ag.1 h with h | h
  ·exact .inl h
  ·exact .inr (ce h)
theorem Aof {b : Aa} (h : Au b) {l : List Am} (hl : D8 b l) {x : Am} (hx : Cb b x) {n : Nat} (hat : At l x n) (hnot : l[n]? ≠ some x) (hlen : l.length < 32) : D8 b (D5 l n x) := by
 have hs := Hd h hl
 have hsm : ∀ y, y ∈ l -> Ck y := λ y hy => (hl.mem y hy).small h
 have hxs := hx.small h
 refine ⟨by simp [D5]; omega, λ y hy => ?_, λ j y z hy hz => ?_⟩
 ·rcases Azf hy with rfl | hy
  ·exact hx
  ·exact hl.mem y hy
 ·rcases Q4 hat.le hy with ⟨a1, a2⟩ | ⟨a1, a2⟩ | ⟨a1, a2⟩ <;> rcases Q4 hat.le hz with ⟨b1, b2⟩ | ⟨b1, b2⟩ | ⟨b1, b2⟩
  ·exact hl.asc j y z a2 b2
  ·subst b2
   exact (Ae4 (hsm y (af a2)) hxs).2 (hat.lo j y a1 a2)
  ·omega
  ·omega
  ·omega
  ·subst a2
   have e : j + 1 - 1 = n := by omega
   rw [e] at b2
   have hzm := hsm z (af b2)
   refine (Ae4 hxs hzm).2 ?_
   have h1 := hat.hi n z (ar _) b2
   rcases Int.lt_or_eq_of_le h1 with h1 | h1
   ·exact h1
   ·exact absurd (by rw [b2, A1e hxs hzm h1]) hnot
  ·omega
  ·omega
  ·have e : j + 1 - 1 = j - 1 + 1 := by omega
   rw [e] at b2
   exact hl.asc (j - 1) y z a2 b2
theorem At.ins {l : List Am} {x : Am} {n : Nat} (hat : At l x n) : At (D5 l n x) x n := by
 refine ⟨by have := hat.le; simp [D5]; omega, λ j y hj hy => ?_, λ j y hj hy => ?_⟩
 ·rcases Q4 hat.le hy with ⟨_, a2⟩ | ⟨a1, _⟩ | ⟨a1, _⟩
  ·exact hat.lo j y hj a2
  ·omega
  ·omega
 ·rcases Q4 hat.le hy with ⟨a1, _⟩ | ⟨_, a2⟩ | ⟨a1, a2⟩
  ·omega
  ·subst a2; exact Int.le_refl _
  ·exact hat.hi (j - 1) y (by omega) a2
theorem A2y {l : List Am} {n : Nat} (hn : n <= l.length) (x : Am) : (D5 l n x)[n]? = some x := by
 unfold D5
 rw [aC (by simp; omega)]
 have : n - (l.take n).length = 0 := by simp; omega
 rw [this]; rfl
def Ky (ss : List Ae) (x : Am) (st : Int) : List Ae := if x.Kind = 1 then ss.set x.Number.toNat ⟨st, (ss.getD x.Number.toNat default).Since, (ss.getD x.Number.toNat default).An, (ss.getD x.Number.toNat default).Phase⟩ else ss
theorem Ua (ss : List Ae) (x : Am) (st : Int) : (Ky ss x st).length = ss.length := by unfold Ky; split <;> simp
theorem Ah7 {ss : List Ae} (h : ∀ x, x ∈ ss -> Cx x) {x : Am} (hx : x.Kind = 1 -> 0 <= x.Number /\ x.Number < ss.length) {st : Int} (hst : 0 <= st /\ st <= 3) : ∀ y, y ∈ Ky ss x st -> Cx y := by
 unfold Ky
 split
 ·rename_i hk
  have hn := hx hk
  obtain ⟨u, hu⟩ : ∃ u, ss[x.Number.toNat]? = some u := ⟨_, ae (by omega)⟩
  have hd : ss.getD x.Number.toNat default = u := by simp [List.getD, hu]
  intro y hy
  rcases bK hy with hy | hy
  ·exact h y hy
  ·subst hy
   rw [hd]
   have := h u (af hu)
   exact ⟨hst, this.2⟩
 ·exact h
theorem A25 {b : Aa} (h : Au b) {p : Ab} (hp : As b p) {x : Am} (hx : Cb b x) (t : Int) {n : Nat} (hat : At p.Ao x n) (hnot : p.Ao[n]? ≠ some x) (hlen : p.Ao.length < 32) :
  Gc ⟨b, p, t⟩ x true = some (0, ⟨b, ⟨p.Ag, Ky p.Ac x 3, p.Aq, D5 p.Ao n x⟩, t⟩) := by
 have hs := Hd h hp.brk
 have hsm : ∀ y, y ∈ p.Ao -> Ck y := λ y hy => (hp.brk.mem y hy).small h
 refine Ok.eq ?_
 unfold Gc
 refine (N6 hs hsm (hx.small h) (by omega)).bind λ y hy => ?_
 obtain ⟨m, e1, hat2, hf⟩ := hy
 have e2 := hat.uniq hat2
 subst e2
 have hf2 : y.2 = false := by
  cases hb : y.2 with
  | false => rfl
  | true => exact absurd (hf.1 hb) hnot
 refine Ok.cond (λ hc => by rw [hf2] at hc; simp at hc) (λ _ => Ok.cond (λ hc => ?_) (λ _ => ?_))
 ·simp [Re] at hc; omega
 refine Ok.andThen (A := λ z => z = D5 p.Ao n x) (B := λ (_ : Unit) => False) ?_ ?_ (λ _ h => h.elim)
 ·unfold Oq
  rw [e1, Au7 hat.le (by omega)]
  exact Ok.nextE rfl
 ·rintro z rfl
  unfold Ky
  refine Ok.cond (λ hk => ?_) (λ hk => ?_)
  ·simp only [beq_iff_eq] at hk
   have hn : 0 <= x.Number /\ x.Number < p.Ac.length := by
    have := hp.nso
    unfold Cb at hx
    omega
   rw [if_pos hk]
   refine (Ok.getI hn.1 hn.2).bind λ u hu => (Ok.setI hn.1 hn.2).bind λ v hv => ?_
   have hd : p.Ac.getD x.Number.toNat default = u := by simp [List.getD, hu]
   have hvg : v[x.Number.toNat]? = some (⟨0, u.Since, u.An, u.Phase⟩ : Ae) := by rw [hv, bA (by omega)]
   simp only [cond_true]
   refine Ok.bind (P := λ w => w = (⟨0, u.Since, u.An, u.Phase⟩ : Ae)) ((Ok.getI hn.1 (by rw [hv]; simpa using hn.2)).mono λ w hw => by rw [hvg] at hw; cases hw; rfl) λ w hw => ?_
   subst hw
   refine (Ok.setI hn.1 (by rw [hv]; simpa using hn.2)).bind λ z hz => Ok.pure ?_
   rw [hz, hv, List.set_set, hd]
  ·simp only [beq_eq_false_iff_ne, ne_eq] at hk
   rw [if_neg hk]
   exact Ok.pure rfl
theorem A2r {b : Aa} (h : Au b) {p : Ab} (hbl : D8 b p.Ao) {q : Ab} {x : Am} (hx : Cb b x) (t : Int) {n : Nat} (hat : At p.Ao x n) (hnot : p.Ao[n]? ≠ some x) (hlen : p.Ao.length < 32)
  (hq : q.Ao = D5 p.Ao n x) (hqs : q.Ac.length = b.Ac.length) : Gc ⟨b, q, t⟩ x false = some (0, ⟨b, ⟨q.Ag, Ky q.Ac x 0, q.Aq, p.Ao⟩, t⟩) := by
 have hbl2 : D8 b q.Ao := by rw [hq]; exact Aof h hbl hx hat hnot hlen
 have hs := Hd h hbl2
 have hsm : ∀ y, y ∈ q.Ao -> Ck y := λ y hy => (hbl2.mem y hy).small h
 refine Ok.eq ?_
 unfold Gc
 refine (N6 hs hsm (hx.small h) (by have := hbl2.len; omega)).bind λ y hy => ?_
 obtain ⟨m, e1, hat2, hf⟩ := hy
 rw [hq] at hat2 hf
 have e2 := hat.ins.uniq hat2
 subst e2
 have hf2 : y.2 = true := hf.2 (A2y hat.le x)
 refine Ok.cond (λ hc => by rw [hf2] at hc; simp at hc) (λ _ => Ok.cond (λ hc => ?_) (λ _ => ?_))
 ·simp [Re] at hc
 refine Ok.andThen (A := λ z => z = p.Ao) (B := λ (_ : Unit) => False) ?_ ?_ (λ _ h => h.elim)
 ·unfold Oq
  have hle := hat.le
  rw [e1, A8 (by omega)]
  simp only [cond_false, hq]
  rw [Av2 hat.le]
  exact Ok.nextE rfl
 ·rintro z rfl
  unfold Ky
  refine Ok.cond (λ hk => ?_) (λ hk => ?_)
  ·simp only [beq_iff_eq] at hk
   have hn : 0 <= x.Number /\ x.Number < q.Ac.length := by
    unfold Cb at hx
    omega
   rw [if_pos hk]
   refine (Ok.getI hn.1 hn.2).bind λ u hu => (Ok.setI hn.1 hn.2).bind λ v hv => ?_
   have hd : q.Ac.getD x.Number.toNat default = u := by simp [List.getD, hu]
   simp only [cond_false]
   exact Ok.pure (by rw [hv, hd])
  ·simp only [beq_eq_false_iff_ne, ne_eq] at hk
   rw [if_neg hk]
   exact Ok.pure rfl
def A23 (p : Ab) (x : Am) (n : Nat) : Ab := ⟨p.Ag, Ky p.Ac x 3, p.Aq, D5 p.Ao n x⟩
theorem Aq9 {b : Aa} (h : Au b) {p : Ab} (hp : As b p) {x : Am} (hx : Cb b x) {n : Nat} (hat : At p.Ao x n) (hnot : p.Ao[n]? ≠ some x) (hlen : p.Ao.length < 32) : As b (A23 p x n) where
 ncl := hp.ncl
 nso := by show (Ky p.Ac x 3).length = _; rw [Ua]; exact hp.nso
 nli := hp.nli
 run := Ah7 hp.run (λ hk => by have := hp.nso; unfold Cb at hx; omega) (by omega)
 lim := hp.lim
 one := hp.one
 brk := Aof h hp.brk hx hat hnot hlen
theorem M3 (b : Aa) (k n : Int) : Kn b k n = true ↔ Cb b ⟨k, n⟩ := by
 unfold Kn Cb
 dsimp only
 by_cases h1 : k = 1
 ·subst h1; simp
 rw [beq_eq_false_iff_ne.2 h1, cond_false]
 by_cases h2 : k = 2
 ·subst h2; simp
 rw [beq_eq_false_iff_ne.2 h2, cond_false]
 by_cases h3 : k = 3
 ·subst h3; simp
 rw [beq_eq_false_iff_ne.2 h3, cond_false]
 by_cases h4 : k = 4
 ·subst h4; simp
 rw [beq_eq_false_iff_ne.2 h4, cond_false]
 simp only [ac, decide_eq_true_eq]
 omega
theorem A9v {b : Aa} (h : Au b) {l : List Am} (hl : D8 b l) {x : Am} (hx : Cb b x) : ∃ n, At l x n := by
 have hs := Hd h hl
 obtain ⟨y, _, n, _, hat, _⟩ := N6 hs (λ y hy => (hl.mem y hy).small h) (hx.small h) (by have := hl.len; omega)
 exact ⟨n, hat⟩
theorem A3c {b : Aa} (h : Au b) {p : Ab} (hp : As b p) : F65 p = some p := by
 have hl := hp.lens h
 have h1 := hl.c
 have h2 := hl.s
 have h3 := hl.l
 have h4 := hl.k
 unfold F65
 rw [Ls (by omega), Ls (by omega), Ls (by omega), Ls (by omega)]
 rfl
theorem Ok.gT {α : Type} {l : List (Bool × Bool)} {x : Option α} {d : α} {P : α -> Prop} (hx : Dm l -> Ok x λ _ => True) (hr : ∀ y, P y) : Ok (A4 l x d) P :=
 Ok.guard (λ h => (hx h).mono λ y _ => hr y) λ _ => hr d
theorem Ok.triv {α : Type} {x : Option α} {v : α} (h : x = some v) : Ok x λ _ => True := ⟨v, h, trivial⟩
theorem A2c {x B3 : Ae} (hx : Cx x) (hl : Cx B3) : Cx (X9 B3 x) := ⟨hx.1, hx.2.1, hl.2.2.1, hl.2.2.2⟩
theorem Mf {ss : List Ae} (h : ∀ x, x ∈ ss -> Cx x) {n : Nat} {y : Ae} (hy : Cx y) : ∀ x, x ∈ ss.set n y -> Cx x := λ x hx => by
 rcases bK hx with hx | hx
 ·exact h x hx
 ·exact hx ▸ hy
theorem Yu {ss : List Ae} (h : ∀ x, x ∈ ss -> Cx x) {n : Nat} (hn : n < ss.length) : Cx (ss.getD n default) := by
 have : ss.getD n default = ss[n] := by simp [List.getD, ae hn]
 rw [this]; exact h _ (List.getElem_mem hn)
theorem Qp {B3 : Ae} (hl : Cx B3) : ∀ (idx : List Int) (ss : List Ae), (∀ i, i ∈ idx -> 0 <= i /\ i < ss.length) -> (∀ x, x ∈ ss -> Cx x) -> ∀ x, x ∈ Ek B3 idx ss -> Cx x
 | [], _, _, h => h
 | i :: idx, ss, hi, h => by
  have h0 := hi i ai
  refine Qp hl idx _ (λ j hj => ?_) (Mf h (A2c (Yu h (by omega)) hl))
  have := hi j (ah _ hj)
  simpa using this
theorem Ah1 {b : Aa} {p : Ab} (hp : As b p) : ∀ (l : List Ai) (s : List Ae), (∀ x, x ∈ l -> ∀ i, i ∈ x.Ac -> 0 <= i /\ i < b.Ac.length) -> s.length = p.Ac.length -> (∀ x, x ∈ s -> Cx x) -> ∀ x, x ∈ l.foldl (Cw p) s -> Cx x
 | [], _, _, _, h => h
 | y :: l, s, hi, hs, h => by
  refine Ah1 hp l _ (λ x hx => hi x (ah _ hx)) (by rw [Na, hs]) ?_
  have h0 := hi y ai
  have hn := hp.nso
  unfold Cw
  split
  ·exact h
  ·rename_i i r e
   rw [e] at h0
   have h1 := h0 i ai
   rw [e]
   exact Qp (Yu hp.run (by omega)) _ _ (λ j hj => by have := h0 j hj; omega) h
theorem L5 {b : Aa} {p : Ab} (hp : As b p) : ∀ x, x ∈ C6 b p -> Cx x :=
 Ah1 hp _ _ (λ _ hx => Pw hx) rfl hp.run
theorem Iq {b : Aa} {p : Ab} (hp : As b p) {ss : List Ae} (hl : ss.length = p.Ac.length) (hr : ∀ x, x ∈ ss -> Cx x) : As b ⟨p.Ag, ss, p.Aq, p.Ao⟩ where
 ncl := hp.ncl
 nso := hl.trans hp.nso
 nli := hp.nli
 run := hr
 lim := hp.lim
 one := hp.one
 brk := hp.brk
theorem Aqh {b : Aa} {p : Ab} (hp : As b p) (j : Nat) : As b ⟨p.Ag.set j false, p.Ac, p.Aq, p.Ao⟩ where
 ncl := by simpa using hp.ncl
 nso := hp.nso
 nli := hp.nli
 run := hp.run
 lim := hp.lim
 one i hi := by
  refine aA (Ah6 (by simp) (λ k hk => ?_) i) (hp.one i hi)
  rw [ao] at hk
  split at hk
  ·split at hk <;> cases hk
  ·exact hk
 brk := hp.brk
theorem Avd {l : List Aj} : ∀ {c : List Bool} {j : Nat} {x : Aj}, l[j]? = some x -> ∀ i : Nat, (Ci l (c.set j true) i).length <= (Ci l c i).length + (if x.Kind = 3 /\ x.B = (i : Int) then 1 else 0) := by
 induction l with
 | nil => intro c j x h; simp at h
 | cons y l ih =>
  intro c j x h i
  cases c with
  | nil => simp [Ci]
  | cons v c =>
   cases j with
   | zero =>
    simp only [List.getElem?_cons_zero, ak] at h
    subst h
    simp only [List.set_cons_zero, Ci, bx, bk]
    by_cases hk : y.Kind = 3 /\ y.B = (i : Int)
    ·rw [if_pos hk]
     simp only [hk.1, hk.2, beq_self_eq_true, a9, bC, if_true]
     split <;> simp
    ·rw [if_neg hk]
     have : (y.Kind == 3 && y.B == (i : Int)) = false := by
      rw [bX]; intro e
      simp only [ac, beq_iff_eq] at e
      exact hk e
     simp [this]
   | succ j =>
    simp only [cu] at h
    have := ih (c := c) h i
    simp only [List.set_cons_succ, Ci, bx, bk] at this ⊢
    split <;> simp at this ⊢ <;> omega
theorem Ave {b : Aa} {p : Ab} {i : Nat} (h : Ed b p 3 (i : Int) = none) : Ci b.Ad p.Ag i = [] := by
 unfold Ed at h
 rw [Option.map_eq_none_iff, List.find?_eq_none] at h
 unfold Ci
 rw [List.filter_eq_nil_iff]
 exact h
theorem Av8 {b : Aa} {p : Ab} (hp : As b p) {j : Nat} {x : Aj} (hx : b.Ad[j]? = some x) (hf : x.Kind = 3 -> Ed b p 3 x.B = none) : As b ⟨p.Ag.set j true, p.Ac, p.Aq, p.Ao⟩ where
 ncl := by simpa using hp.ncl
 nso := hp.nso
 nli := hp.nli
 run := hp.run
 lim := hp.lim
 one i hi := by
  have h1 := Avd (c := p.Ag) hx i
  have h2 := hp.one i hi
  dsimp only
  split at h1
  ·rename_i hk
   have h3 := hf hk.1
   rw [hk.2] at h3
   rw [Ave h3] at h1
   simpa using h1
  ·omega
 brk := hp.brk
theorem A2m {b : Aa} (h : Au b) {p : Ab} (hp : As b p) (i : Int) : Ok (Z4 b p i) λ y => y.2 ≠ 0 \/ As b y.1 := by
 have hbl : p.Ao.length <= 1000 := by have := hp.brk.len; omega
 have hn := hp.ncl
 unfold Z4
 rw [Cm h hp, Cv h hp]
 simp only [aa]
 refine Ok.cond (λ hc => by simp at hc) (λ _ => Ok.cond (λ _ => Ok.pure (.inl (by simp))) (λ hr => ?_))
 simp only [Awf, bt, decide_eq_false_iff_not] at hr
 refine (Ok.getI (by omega) (by omega)).bind λ v _ => Ok.bind (P := λ _ => True) (Ok.gT (λ _ => Ok.triv (E2 hbl _ _)) λ _ => trivial) λ _ _ => ?_
 refine Ok.cond (λ _ => Ok.pure (.inl (by simp))) (λ _ => ?_)
 exact (Ok.getI (by omega) (by omega)).bind λ _ _ => (Ok.setI (by omega) (by omega)).bind λ z hz => Ok.pure (.inr (by rw [hz]; exact Aqh hp _))
theorem Aqi {b : Aa} (h : Au b) {p : Ab} (hp : As b p) (n : Int) : Ok (Gs b p n) λ y => ∀ i, i ∈ y.1.Ac -> 0 <= i /\ i < p.Ac.length := by
 have hn := hp.nso
 unfold Gs
 rw [H4 h hp]
 simp only [aa]
 refine Ok.andThen (A := λ _ => True) (B := λ y => ∀ i, i ∈ y.1.Ac -> 0 <= i /\ i < p.Ac.length) ?_ (λ _ _ => Ok.pure (λ i hi => by cases hi)) (λ v hv => Ok.pure hv)
 refine Ok.foldI0 (I := λ _ _ => True) trivial (λ j x s hx _ => ?_) λ s _ => trivial
 have hmem := af hx
 have hbl : x.Al.length <= 9223372036854775807 := by
  unfold Bm at hmem
  obtain ⟨f, _, rfl⟩ := aq.1 (ax.1 hmem).1
  have := Dn (λ i => (A7 b p).getD i 0 == (f : Int)) b.Al.toNat
  have := h.buses
  simp only [isl, D6]
  omega
 unfold Mu
 rw [Dj _ _ hbl]
 simp only [aa]
 refine Ok.cond (λ _ => Ok.ret λ i hi => ?_) (λ _ => Ok.next trivial)
 have := Pw hmem i hi
 omega
theorem Bar {b : Aa} (h : Au b) {p : Ab} (hp : As b p) (n : Int) : Ok (Gs b p n) λ y => y.1.Al.length <= 9223372036854775807 := by
 unfold Gs
 rw [H4 h hp]
 simp only [aa]
 refine Ok.andThen (A := λ _ => True) (B := λ y => y.1.Al.length <= 9223372036854775807) ?_ (λ _ _ => Ok.pure (by simp)) (λ v hv => Ok.pure hv)
 refine Ok.foldI0 (I := λ _ _ => True) trivial (λ j x s hx _ => ?_) λ s _ => trivial
 have hmem := af hx
 have hbl : x.Al.length <= 9223372036854775807 := by
  unfold Bm at hmem
  obtain ⟨f, _, rfl⟩ := aq.1 (ax.1 hmem).1
  have := Dn (λ i => (A7 b p).getD i 0 == (f : Int)) b.Al.toNat
  have := h.buses
  simp only [isl, D6]
  omega
 unfold Mu
 rw [Dj _ _ hbl]
 simp only [aa]
 exact Ok.cond (λ _ => Ok.ret hbl) (λ _ => Ok.next trivial)
theorem K8 {b : Aa} (h : Au b) {p : Ab} (hp : As b p) (n : Int) : Ok (Pf b p n) λ y => y.2 = true -> 0 <= y.1 /\ y.1 < p.Ac.length := by
 unfold Pf
 refine (Aqi h hp n).bind λ y hy => ?_
 refine Ok.cond (λ _ => Ok.pure (λ e => by cases e)) (λ hc => ?_)
 simp only [beq_eq_false_iff_ne, ne_eq] at hc
 exact (Ok.getI (by omega) (by omega)).bind λ z hz => Ok.pure λ _ => hy z (af hz)
theorem Ok.getB {α : Type} {l : List α} {i : Int} (h0 : 0 <= i) (h1 : i < l.length) : Ok (getI l i) λ _ => True := (Ok.getI h0 h1).mono λ _ _ => trivial
theorem A2f {b : Aa} (h : Au b) {p : Ab} (hp : As b p) {j : Nat} {x : Aj} (hx : b.Ad[j]? = some x) : Ok (Km b p x) λ _ => True := by
 have hn := hp.nso
 have hb := h.br x (af hx)
 unfold R9 at hb
 unfold Km
 refine (K8 h hp _).bind λ y hy => ?_
 refine Ok.cond (λ _ => Ok.pure trivial) (λ h2 => ?_)
 simp only [cy] at h2
 have hy := hy h2
 refine Ok.cond (λ _ => ?_) (λ _ => Ok.cond (λ hk => ?_) (λ _ => Ok.pure trivial))
 ·refine (K8 h hp _).bind λ z hz => ?_
  refine Ok.bind (P := λ _ => True) (Ok.gT (λ _ => Ok.getB hy.1 hy.2) λ _ => trivial) λ _ _ => ?_
  refine Ok.bind (P := λ _ => True) (Ok.gT (λ hg => ?_) λ _ => trivial) λ _ _ => Ok.pure trivial
  have := hz (by have := hg.1; simpa using this)
  exact Ok.getB this.1 this.2
 ·simp only [beq_iff_eq] at hk
  exact (Ok.getB hy.1 hy.2).bind λ _ _ => (Ok.getB (by omega) (by omega)).bind λ _ _ => Ok.pure trivial
theorem Aux {o : Option Int} : (D2 o).2 = false -> o = none := by
 cases o with
 | none => intro _; rfl
 | some a => intro e; cases e
theorem Aye {b : Aa} (h : Au b) {p : Ab} (hp : As b p) {j : Int} (h0 : 0 <= j) (h1 : j < b.Ad.length) : Ok (Alb b p j) λ y => y = true -> ∀ x, b.Ad[j.toNat]? = some x -> x.Kind = 3 -> Ed b p 3 x.B = none := by
 have hbl : p.Ao.length <= 1000 := by have := hp.brk.len; omega
 have hn := hp.nso
 have hc := hp.ncl
 unfold Alb
 refine (Ok.getI h0 h1).bind λ x hx => (Ok.getB h0 (by omega)).bind λ _ _ => ?_
 have hb := h.br x (af hx)
 unfold R9 at hb
 refine Ok.bind (P := λ _ => True) (Ok.gT (λ _ => Ok.triv (E2 hbl _ _)) λ _ => trivial) λ _ _ => ?_
 refine Ok.bind (P := λ _ => True) (Ok.gT (λ _ => Ok.triv (E2 hbl _ _)) λ _ => trivial) λ _ _ => ?_
 refine Ok.cond (λ _ => Ok.pure (λ e => by cases e)) (λ _ => ?_)
 refine Ok.cond (λ hk => ?_) (λ hk1 => Ok.cond (λ hk => ?_) (λ hk2 => ?_))
 ·simp only [beq_iff_eq] at hk
  rw [E2 hbl]
  refine Ok.pure λ _ y hy hy3 => ?_
  rw [hx] at hy; cases hy; omega
 ·simp only [beq_iff_eq] at hk
  rw [E2 hbl]
  simp only [aa]
  refine Ok.bind (P := λ _ => True) (Ok.gT (λ _ => Ok.getB (by omega) (by omega)) λ _ => trivial) λ _ _ => Ok.pure λ _ y hy hy3 => ?_
  rw [hx] at hy; cases hy; omega
 ·unfold Al2
  rw [Cm h hp, Avf h hc, E2 hbl]
  simp only [aa, bne_self_eq_false, cond_false]
  refine Ok.pure λ e y hy hy3 => ?_
  rw [hx] at hy; cases hy
  simp only [ac, bg] at e
  exact Aux e.2
theorem Auu {b : Aa} (h : Au b) {p : Ab} (hp : As b p) (j : Int) : Ok (Zz b p j) λ y => y ≠ 0 \/ ((0 <= j /\ j < b.Ad.length) /\ ∀ x, b.Ad[j.toNat]? = some x -> x.Kind = 3 -> Ed b p 3 x.B = none) := by
 unfold Zz
 rw [Cm h hp]
 simp only [aa]
 refine Ok.cond (λ hc => by simp at hc) (λ _ => Ok.cond (λ _ => Ok.pure (.inl (by simp))) (λ hr => ?_))
 simp only [uM, bt, decide_eq_false_iff_not] at hr
 refine (Aye h hp (by omega) (by omega)).bind λ y hy => ?_
 refine Ok.cond (λ _ => Ok.pure (.inl (by simp))) (λ h2 => ?_)
 simp only [cy] at h2
 have hy := hy h2
 refine (Ok.getI (by omega) (by omega)).bind λ x hx => (Bar h hp x.A).bind λ z hz => ?_
 refine Ok.bind (P := λ _ => True) (Ok.gT (λ _ => Ok.triv (Dj _ _ hz)) λ _ => trivial) λ _ _ => ?_
 refine Ok.bind (P := λ _ => True) (Ok.gT (λ _ => A2f h hp hx) λ _ => trivial) λ _ _ => ?_
 exact Ok.cond (λ _ => Ok.pure (.inl (by simp))) (λ _ => Ok.pure (.inr ⟨⟨by omega, by omega⟩, hy⟩))
theorem Az0 {b : Aa} (h : Au b) {p : Ab} (hp : As b p) (i : Int) : Ok (Z5 b p i) λ y => y.2 ≠ 0 \/ As b y.1 := by
 have hn := hp.ncl
 unfold Z5
 rw [Cv h hp]
 simp only [aa]
 refine (Auu h hp i).bind λ y hy => Ok.cond (λ hc => Ok.pure (.inl (by simpa using hc))) (λ hc => ?_)
 simp only [bne_eq_false_iff_eq] at hc
 rcases hy with hy | ⟨hr, hf⟩
 ·exact absurd hc hy
 ·refine (Ok.getI hr.1 (by omega)).bind λ _ _ => (Ok.setI hr.1 (by omega)).bind λ z hz => ?_
  obtain ⟨x, hx⟩ : ∃ x, b.Ad[i.toNat]? = some x := ⟨_, ae (by omega)⟩
  have hq := Av8 hp hx (hf x hx)
  rw [← hz] at hq
  rw [Oe h hq]
  exact Ok.pure (.inr (Iq hq (F7 _ _) (L5 hq)))
theorem Ayz {b : Aa} (h : Au b) {p : Ab} (hp : As b p) (i n : Int) : Ok (Z3 b p i n) λ y => y.2 ≠ 0 \/ As b y.1 := by
 have hn := hp.nso
 unfold Z3
 rw [Cm h hp, Cv h hp]
 simp only [aa]
 refine Ok.cond (λ hc => by simp at hc) (λ _ => Ok.cond (λ _ => Ok.pure (.inl (by simp))) (λ hr => ?_))
 simp only [Aiv, bt, decide_eq_false_iff_not] at hr
 refine (K8 h hp n).bind λ y hy => ?_
 refine Ok.bind (P := λ _ => True) (Ok.gT (λ _ => Ok.getB (by omega) (by omega)) λ _ => trivial) λ u _ => ?_
 refine Ok.cond (λ _ => Ok.pure (.inl (by simp))) (λ hc => ?_)
 simp only [bt, cy] at hc
 have hy := hy hc.1
 unfold Z0
 rw [Cm h hp, Jz h hp]
 simp only [aa, bne_self_eq_false, cond_false]
 have hrun : ∀ w, p.Ac[y.1.toNat]? = some w -> Cx w := λ w hw => hp.run w (af hw)
 refine Ok.cond (λ _ => ?_) (λ _ => ?_)
 ·refine (Aqi h hp _).bind λ z hz => (Ok.getI hy.1 hy.2).bind λ w hw => ?_
  rw [Tb hz]
  exact Ok.pure (.inr (Iq hp (G2 _ _ _) (Qp (hrun w hw) _ _ hz hp.run)))
 ·refine (Ok.getI hy.1 hy.2).bind λ w hw => ?_
  have hz : ∀ k, k ∈ [i] -> 0 <= k /\ k < p.Ac.length := λ k hk => by
   simp only [bn] at hk
   subst hk; omega
  rw [Tb hz]
  exact Ok.pure (.inr (Iq hp (G2 _ _ _) (Qp (hrun w hw) _ _ hz hp.run)))
theorem Tz {b : Aa} (h : Au b) {p : Ab} (hc : p.Ag.length = b.Ad.length) (t : Int) {i : Int} (h0 : 0 <= i) (h1 : i < b.Ac.length) : Ok (Io ⟨b, p, t⟩ i) λ _ => True := by
 obtain ⟨j, x, e, hx, _⟩ := L9 h h0 h1
 have hj := (ab.1 hx).1
 unfold Io
 rw [uP h, e]
 simp only [aa]
 exact (Ok.getB (by omega) (by omega)).bind λ _ _ => Ok.pure trivial
def Xr (b : Aa) (y : Int × A2) : Prop := y.1 ≠ 0 \/ As b y.2.Aw
theorem Ayc {b : Aa} (h : Au b) {p : Ab} (hp : As b p) {t : Int} (ht : 0 <= t /\ t <= 2147483648) {i : Int} (h0 : 0 <= i) (h1 : i < b.Ac.length) : Ok (Ns ⟨b, p, t⟩ i) (Xr b) := by
 have hn := hp.nso
 have hbl : p.Ao.length <= 1000 := by have := hp.brk.len; omega
 unfold Ns
 refine (Ok.getB h0 (by dsimp only; omega)).bind λ u _ => Ok.bind (P := λ _ => True) (Ok.gT (λ _ => Ok.triv (E2 hbl _ _)) λ _ => trivial) λ _ _ => ?_
 refine Ok.cond (λ _ => Ok.pure (.inl (by simp))) (λ _ => (Ok.getB h0 h1).bind λ s _ => ?_)
 refine Ok.bind (P := λ _ => True) (Ok.gT (λ _ => Tz h hp.ncl t h0 h1) λ _ => trivial) λ _ _ => ?_
 refine Ok.cond (λ _ => ?_) (λ _ => ?_)
 ·exact (Ok.setI h0 (by dsimp only; omega)).bind λ z hz => Ok.pure (.inr (by
   rw [hz]
   exact Iq hp (by simp) (Mf hp.run ⟨by dsimp only; omega, ht, by dsimp only; omega, by dsimp only; omega⟩)))
 ·exact (Ok.setI h0 (by dsimp only; omega)).bind λ z hz => Ok.pure (.inr (by
   rw [hz]
   exact Iq hp (by simp) (Mf hp.run ⟨by dsimp only; omega, ht, by dsimp only; omega, by dsimp only; omega⟩)))
theorem A2g {b : Aa} (h : Au b) {p : Ab} (hp : As b p) {t : Int} {i : Int} (h0 : 0 <= i) (h1 : i < b.Ac.length) : Ok (Nr ⟨b, p, t⟩ i) (Xr b) := by
 have hn := hp.nso
 unfold Nr
 refine (Ok.getI h0 (by dsimp only; omega)).bind λ u hu => ?_
 have hr := hp.run u (af hu)
 refine Ok.bind (P := λ _ => True) (Ok.gT (λ _ => Tz h hp.ncl t h0 h1) λ _ => trivial) λ _ _ => ?_
 refine Ok.cond (λ _ => Ok.pure (.inl (by simp))) (λ _ => (Ok.setI h0 (by dsimp only; omega)).bind λ z hz => Ok.pure (.inr ?_))
 rw [hz]
 exact Iq hp (by simp) (Mf hp.run ⟨by dsimp only; omega, hr.2⟩)
theorem Ay2 {b : Aa} {p : Ab} (hp : As b p) {t : Int} {i v : Int} (h0 : 0 <= i) (h1 : i < b.Af.length) : Ok (Nq ⟨b, p, t⟩ i v) (Xr b) := by
 have hn := hp.nli
 unfold Nq
 refine Ok.bind (P := λ y => 0 <= v -> b.Af[i.toNat]? = some y) (Ok.guard (λ _ => (Ok.getI h0 h1).mono λ y hy _ => hy) λ hg hv => (hg ⟨by simp; omega, trivial⟩).elim) λ c hc => ?_
 refine Ok.cond (λ _ => Ok.pure (.inl (by simp))) (λ hr => ?_)
 simp only [Aiu, bt, decide_eq_false_iff_not] at hr
 have hc := hc (by omega)
 refine (Ok.getB h0 (by dsimp only; omega)).bind λ _ _ => (Ok.setI h0 (by dsimp only; omega)).bind λ z hz => Ok.pure (.inr ?_)
 subst hz
 exact {
  ncl := hp.ncl
  nso := hp.nso
  nli := by simpa using hp.nli
  run := hp.run
  lim := λ k m y hk hy => by
   dsimp only at hk
   rw [ao] at hk
   split at hk
   ·rename_i e
    split at hk
    ·cases hk
     rw [← e, hc] at hy; cases hy; omega
    ·cases hk
   ·exact hp.lim k m y hk hy
  one := hp.one
  brk := hp.brk }
theorem A2o (x : Int) : 0 <= Eg x /\ Eg x <= 3599 := by
 have := Lw (x := x) (n := 3600) (by omega)
 unfold Eg
 by_cases h : Int.tmod x 3600 < 0
 ·rw [decide_eq_true h, cond_true, A8 (by omega)]; omega
 ·rw [decide_eq_false h, cond_false]; omega
theorem A2a {b : Aa} (h : Au b) {p : Ab} (hp : As b p) : Ok (Zy b p) λ y => As b y.1 /\ y.1.Ag = p.Ag /\ y.2 = 0 := by
 have hs := h.sol
 have hn := hp.nso
 unfold Zy
 rw [Cm h hp, Cv h hp]
 simp only [aa]
 refine Ok.cond (λ hc => by simp at hc) (λ _ => ?_)
 refine Ok.andThen (A := λ s => s.length = p.Ac.length /\ ∀ x, x ∈ s -> Cx x) (B := λ (_ : Unit) => False) ?_ (λ s hs => Ok.pure ⟨Iq hp hs.1 hs.2, rfl, rfl⟩) (λ _ h => h.elim)
 refine Ok.foldI0 (I := λ _ s => s.length = p.Ac.length /\ ∀ x, x ∈ s -> Cx x) ⟨rfl, hp.run⟩ (λ j x s hx hs => ?_) λ s hs => hs
 have hj := (ab.1 hx).1
 have hcnt : cnt 0 j = (j : Int) := Cz (by omega)
 unfold Xe
 rw [hcnt]
 refine Ok.cond (λ _ => ?_) (λ _ => Ok.next hs)
 refine (Ok.getI (by omega) (by omega)).bind λ u hu => (Ok.setI (by omega) (by omega)).bind λ z hz => Ok.next ?_
 have hr := hs.2 u (af hu)
 rw [hz]
 exact ⟨by simpa using hs.1, Mf hs.2 ⟨hr.1, hr.2.1, hr.2.2.1, A2o _⟩⟩
theorem Amq {b : Aa} (h : Au b) {p : Ab} (hp : As b p) (t : Int) : Ok (Lg ⟨b, p, t⟩) λ y => As b y.Aw := by
 have hso := h.sol
 unfold Lg
 refine (A2a h hp).bind λ ⟨q, e⟩ hq => ?_
 dsimp only at hq ⊢
 obtain ⟨hq, _, _⟩ := hq
 have hn := hq.nso
 refine Ok.andThen (A := λ s => s.2.length = q.Ac.length /\ ∀ x, x ∈ s.2 -> Cx x) (B := λ (_ : Unit) => False) ?_ (λ s hs => Ok.pure (Iq hq hs.1 hs.2)) (λ _ h => h.elim)
 refine Ok.whileN (λ s => (0 <= s.1 /\ s.1 <= (q.Ac.length : Int)) /\ s.2.length = q.Ac.length /\ ∀ x, x ∈ s.2 -> Cx x) (λ s => ((q.Ac.length : Int) - s.1).toNat) _ _ ?_ ?_ ?_
 ·exact ⟨by dsimp only; omega, rfl, hq.run⟩
 ·dsimp only; omega
 ·rintro ⟨i, s⟩ ⟨⟨h1, h2⟩, h3, h4⟩
  dsimp only at h1 h2 h3 h4
  unfold Ot Y4
  dsimp only
  refine Ok.cond (λ hc => ?_) (λ _ => Ok.brk ⟨h3, h4⟩)
  simp only [decide_eq_true_eq] at hc
  have e1 : w64 (i + 1) = i + 1 := A8 (by omega)
  refine (Ok.getI h1 (by omega)).bind λ u hu => ?_
  have hr := h4 u (af hu)
  refine Ok.bind (P := λ _ => True) (Ok.gT (λ _ => Tz h hq.ncl t h1 (by omega)) λ _ => trivial) λ _ _ => ?_
  refine Ok.bind (P := λ _ => True) (Ok.gT (λ _ => Ok.getB h1 (by omega)) λ _ => trivial) λ _ _ => ?_
  rw [e1]
  refine Ok.cond (λ _ => ?_) (λ _ => Ok.next ⟨⟨by dsimp only; omega, h3, h4⟩, by dsimp only; omega⟩)
  refine (Ok.setI h1 (by omega)).bind λ z hz => Ok.next ⟨⟨by dsimp only; omega, ?_, ?_⟩, by dsimp only; omega⟩
  ·dsimp only; rw [hz]; simpa using h3
  ·dsimp only; rw [hz]; exact Mf h4 ⟨by dsimp only; omega, hr.2⟩
theorem bet {x lo hi : Int} (h : lo <= x /\ x <= hi) : B5 x lo hi = true := (Jg x lo hi).2 h
def ofL (b : Aa) (q : Aj -> Bool) : List Int := (b.Ad.zipIdx.filter λ z => q z.1).map λ z => (z.2 : Int)
theorem Ag9 {b : Aa} (h : Au b) (k i : Int) : F77 b k i = some (ofL b λ x => L8 k i x) := by
 have hb := h.brl
 refine Ok.eq ?_
 unfold F77
 refine Ok.andThen (A := λ s => s = ofL b λ x => L8 k i x) (B := λ (_ : Unit) => False) ?_ (λ s hs => Ok.pure hs) (λ _ h => h.elim)
 refine Ok.foldI0 (I := λ j s => s = ((b.Ad.zipIdx.take j).filter λ z => L8 k i z.1).map λ z => (z.2 : Int)) rfl (λ j x s hx hs => ?_) λ s hs => ?_
 ·have hj := (ab.1 hx).1
  have hcnt : cnt 0 j = (j : Int) := Cz (by omega)
  have hz : b.Ad.zipIdx[j]? = some (x, j) := by rw [List.getElem?_zipIdx, hx]; simp
  have hsl : s.length <= j := by
   rw [hs, aw]
   exact aA (bp _ _) (by simp; omega)
  unfold Akr
  rw [hcnt, Bk hz, bj, bM, ← hs]
  refine Ok.cond (λ hq => ?_) (λ hq => Ok.next (by simp [hq]))
  exact (Ok.appI (by simp; omega)).bind λ y hy => Ok.next (by rw [hy]; simp [hq])
 ·rw [hs, show b.Ad.length = b.Ad.zipIdx.length from by simp, aD]; rfl
theorem Afs (q : Aj -> Bool) : ∀ (l : List Aj) (k : Nat), ((l.zipIdx k).filter λ z => q z.1).length = (l.filter q).length
 | [], _ => rfl
 | x :: l, k => by
  simp only [List.zipIdx_cons, bk]
  split <;> simp [Afs q l (k + 1)]
theorem A2n (b : Aa) (q : Aj -> Bool) : (ofL b q).length = (b.Ad.filter q).length := by
 unfold ofL
 rw [aw, Afs]
theorem Aym (k : Int) (hk : k ≠ 1) (i : Int) (x : Aj) : L8 k i x = (x.Kind == k && x.B == i) := by
 unfold L8
 have : (k == 1) = false := beq_eq_false_iff_ne.2 hk
 rw [this]; simp
theorem zK {b : Aa} {k : Int} (hk : k ≠ 1) (i : Nat) : (ofL b λ x => L8 k (i : Int) x).length = (brs b.Ad k i).length := by
 rw [A2n]
 unfold brs
 congr 1
 exact List.filter_congr λ x _ => Aym k hk i x
theorem Ag4 {b : Aa} (h : Au b) : Alo b = some true := by
 have hs := h.sol
 have hc := h.col
 have hb := h.buses
 have hbl := h.brl
 refine Ok.eq ?_
 unfold Alo
 rw [C4 b.Ad 0 λ j x hj => ?_]
 ·rw [show ∀ (f : Unit -> Option Bool), andThen (some (Ctl.next ()) : Option (Ctl Unit Bool)) some f = f () from λ _ => rfl]
  refine Ok.andThen (A := λ _ => True) (B := λ (_ : Bool) => False) ?_ (λ _ _ => ?_) (λ _ h => h.elim)
  ·refine Ok.whileN (λ s => 0 <= s /\ s <= (b.Ac.length : Int)) (λ s => ((b.Ac.length : Int) - s).toNat) _ (0 : Int) (by omega) (by omega) ?_
   rintro i ⟨h1, h2⟩
   unfold Aa2 Aon
   refine Ok.cond (λ hq => ?_) (λ _ => Ok.brk trivial)
   simp only [decide_eq_true_eq] at hq
   obtain ⟨n, rfl⟩ : ∃ n : Nat, i = (n : Int) := ⟨i.toNat, by omega⟩
   rw [Ag9 h]
   simp only [aa]
   have hone := h.one n (by omega)
   rw [zK (by decide), hone, A8 (by omega)]
   refine Ok.cond (λ hc => by simp at hc) (λ _ => Ok.next ⟨by omega, by omega⟩)
  ·refine Ok.andThen (A := λ _ => True) (B := λ (_ : Bool) => False) ?_ (λ _ _ => Ok.pure rfl) (λ _ h => h.elim)
   refine Ok.whileN (λ s => 0 <= s /\ s <= (b.Af.length : Int)) (λ s => ((b.Af.length : Int) - s).toNat) _ (0 : Int) (by omega) (by omega) ?_
   rintro i ⟨h1, h2⟩
   unfold Aa1 Aom
   refine Ok.cond (λ hq => ?_) (λ _ => Ok.brk trivial)
   simp only [decide_eq_true_eq] at hq
   obtain ⟨n, rfl⟩ : ∃ n : Nat, i = (n : Int) := ⟨i.toNat, by omega⟩
   rw [Ag9 h]
   simp only [aa]
   have hany := h.any n (by omega)
   have hpos : 0 < (brs b.Ad 3 n).length := List.length_pos_iff.2 hany
   rw [zK (by decide), A8 (by omega)]
   refine Ok.cond (λ hc => ?_) (λ _ => Ok.next ⟨by omega, by omega⟩)
   simp only [decide_eq_true_eq] at hc; omega
 ·have hjl := (ab.1 hj).1
  obtain ⟨⟨a0, a1⟩, hk⟩ := h.br x (af hj)
  rw [aH]
  have hcnt : cnt 0 j = (j : Int) := Cz (by omega)
  have e1 : w64 (b.Al - 1) = b.Al - 1 := A8 (by omega)
  have e2 : w64 (x.A + 1) = x.A + 1 := A8 (by omega)
  have e3 : w64 ((b.Ac.length : Int) - 1) = (b.Ac.length : Int) - 1 := A8 (by omega)
  have e4 : w64 ((b.Af.length : Int) - 1) = (b.Af.length : Int) - 1 := A8 (by omega)
  unfold Aa3 Awm Awl Awk
  rw [e1, e2, e3, e4, hcnt, bet (x := x.A) (by omega)]
  simp only [aZ, cond_false]
  rcases hk with ⟨hk, h1, h2⟩ | ⟨hk, h1, h2⟩ | ⟨hk, h1, h2⟩
  ·rw [hk, bet (x := x.B) (lo := x.A + 1) (by omega)]; rfl
  ·rw [hk, bet (x := x.B) (lo := 0) (hi := (b.Ac.length : Int) - 1) (by omega)]; rfl
  ·rw [hk, bet (x := x.B) (lo := 0) (hi := (b.Af.length : Int) - 1) (by omega)]
   have hcut : cutI b.Ad 0 (j : Int) = some (b.Ad.take j) := by
    refine Ok.eq ((Ok.cutI (by omega) (by omega) (by omega)).mono λ y hy => ?_)
    rw [hy]; simp
   show ((cutI b.Ad 0 (j : Int)).bind λ y9 => andThen (foldI (Xi x) y9 0 ()) (λ v => some (Ctl.ret v)) λ z1 => some (Ctl.next ())) = some (Ctl.next ())
   rw [hcut]
   simp only [aa]
   rw [C4 _ 0 λ m y hy => ?_]
   ·rfl
   ·have hml : m < j := by
     have := (ab.1 hy).1
     simp only [aO] at this; omega
    have hyb : b.Ad[m]? = some y := by
     rw [an, if_pos hml] at hy; exact hy
    unfold Xi
    have hne : Aiw x y = false := by
     unfold Aiw
     rw [bX]
     intro e
     simp only [bC, ac, beq_iff_eq] at e
     obtain ⟨e1, e2, e3⟩ := e
     have hn := h.nodup x.B.toNat
     have hsplit : b.Ad = b.Ad.take j ++ (x :: b.Ad.drop (j + 1)) := by
      conv => lhs; rw [← cm j b.Ad]
      rw [cE hjl]
      have : b.Ad[j] = x := by
       rw [ae hjl] at hj; cases hj; rfl
      rw [this]
     rw [hsplit, Gq, bM] at hn
     have hBn : x.B = (x.B.toNat : Int) := by omega
     have hmem1 : y.A ∈ (brs (b.Ad.take j) 3 x.B.toNat).map (·.A) := by
      refine aq.2 ⟨y, ?_, rfl⟩
      unfold brs
      refine ax.2 ⟨af hy, ?_⟩
      rw [e1, hk, e3, ← hBn]; simp
     have hmem2 : x.A ∈ (brs (x :: b.Ad.drop (j + 1)) 3 x.B.toNat).map (·.A) := by
      refine aq.2 ⟨x, ?_, rfl⟩
      unfold brs
      refine ax.2 ⟨ai, ?_⟩
      rw [hk, ← hBn]; simp
     exact (List.nodup_append.1 hn).2.2 _ hmem1 _ hmem2 e2
    rw [hne]; rfl
theorem Al7 {b : Aa} (h : Au b) : Aln b = some true := by
 unfold Aln
 rw [C4 b.Ac 0 λ j x hj => ?_]
 ·rfl
 ·obtain ⟨h1, h2, h3⟩ := h.so x (af hj)
  unfold Aa0 Awj
  rw [bet h1, bet h2, bet h3]; rfl
theorem Aeu {b : Aa} (h : Au b) : Alm b = some true := by
 have hcl := h.col
 unfold Alm
 rw [C4 b.Af 0 λ j x hj => ?_]
 ·rfl
 ·obtain ⟨h1, h2, h3, h4, h5, h6, h7⟩ := h.co j x hj
  have hjl := (ab.1 hj).1
  rw [aH]
  have hcnt : cnt 0 j = (j : Int) := Cz (by omega)
  unfold Aaz Awi
  rw [bet h1, bet h2, bet h3, bet h4]
  have hd : decide ((x.Needs.length : Int) > 4) = false := by simp; omega
  rw [hd]
  simp only [aZ, Bool.or_false, cond_false]
  rw [C4 x.Needs 0 λ m n hm => ?_]
  ·rfl
  ·have hml := (ab.1 hm).1
   rw [aH]
   have hcm : cnt 0 m = (m : Int) := Cz (by omega)
   have hn := h6 n (af hm)
   unfold Aay Awh
   rw [hcnt, hcm, A8 (n := (j : Int) - 1) (by omega), bet (x := n) (by omega)]
   cases m with
   | zero => rfl
   | succ m =>
    obtain ⟨a, ha⟩ : ∃ a, x.Needs[m]? = some a := ⟨_, ae (by omega)⟩
    have hlt := h7 m a n ha hm
    have e : w64 (((m + 1 : Nat) : Int) - 1) = (m : Int) := by rw [A8 (by omega)]; omega
    have hp : decide (((m + 1 : Nat) : Int) > 0) = true := decide_eq_true (by omega)
    have hq : decide (a >= n) = false := by simp; omega
    rw [e, Bl ha, hp]
    simp [A4, Dk, hq]
theorem Ayj {b : Aa} (h : Au b) : Aly b = some 0 := by
 have h1 := h.buses
 have h2 := h.brl
 have h3 := h.sol
 have h4 := h.col
 have h5 := h.phase
 have h6 := h.freq
 unfold Aly
 rw [Ag4 h, Al7 h, Aeu h]
 have e : Ai8 b = false := by
  rw [bX]; intro e
  simp [Ai8] at e; omega
 have e2 : Ai7 b true true true = false := by
  rw [bX]; intro e
  simp [Ai7] at e; omega
 rw [e]
 simp only [cond_false, aa]
 have g1 : (A4 [(!true, false)] (some true) default : Option Bool) = some true := rfl
 have g2 : (A4 [(!true || !true, false)] (some true) default : Option Bool) = some true := rfl
 rw [g1, aa, g2, aa, e2]; rfl
theorem Abm (i : Nat) (C : List Bool) : ∀ (l : List Aj) (c : List Bool) (k : Nat), C.drop k = c -> l.length = c.length ->
  (((l.zipIdx k).filter λ z => z.1.Kind == 3 && z.1.B == (i : Int)).filter λ z => C.getD z.2 false).length = (Ci l c i).length
 | [], _, _, _, _ => by simp [Ci]
 | x :: l, [], _, _, h => by simp at h
 | x :: l, v :: c, k, hd, h => by
  have hv : C[k]? = some v := by
   have := congrArg (·[0]?) hd
   simpa [al] using this
  have hd' : C.drop (k + 1) = c := by rw [← bI, hd]; rfl
  have ih := Abm i C l c (k + 1) hd' (by simpa using h)
  have hg : C.getD k false = v := by simp [List.getD, hv]
  simp only [List.zipIdx_cons, bk, Ci, bx] at ih ⊢
  cases hq : (x.Kind == 3 && x.B == (i : Int)) with
  | false => simpa only [Bool.false_and, bN, if_false] using ih
  | true =>
   simp only [if_true, bk, hg]
   cases v with
   | false => simpa only [Bool.and_false, bN, if_false] using ih
   | true => simpa only [Bool.and_self, if_true, aU, Nat.add_right_cancel_iff] using ih
theorem Ix {b : Aa} (h : Au b) {p : Ab} (hp : As b p) : F53 b p = some 0 := by
 have h3 := h.sol
 have h4 := h.col
 have hbl := h.brl
 have hncl := hp.ncl
 have hnso := hp.nso
 have hnli := hp.nli
 refine Ok.eq ?_
 unfold F53
 rw [Ayj h]
 simp only [aa]
 refine Ok.cond (λ hc => by simp at hc) (λ _ => Ok.cond (λ hc => ?_) (λ _ => ?_))
 ·simp [A1v, hncl, hnso, hnli] at hc
 rw [C4 p.Ac 0 λ j x hj => ?_]
 ·rw [show ∀ (f : Unit -> Option Int), andThen (some (Ctl.next ()) : Option (Ctl Unit Int)) some f = f () from λ _ => rfl]
  rw [C4 p.Aq 0 λ j x hj => ?_]
  ·rw [show ∀ (f : Unit -> Option Int), andThen (some (Ctl.next ()) : Option (Ctl Unit Int)) some f = f () from λ _ => rfl]
   have hlen := hp.brk.len
   refine Ok.cond (λ hc => ?_) (λ _ => ?_)
   ·simp only [decide_eq_true_eq] at hc; omega
   rw [C4 p.Ao 0 λ j x hj => ?_]
   ·rw [show ∀ (f : Unit -> Option Int), andThen (some (Ctl.next ()) : Option (Ctl Unit Int)) some f = f () from λ _ => rfl]
    refine Ok.andThen (A := λ _ => True) (B := λ (_ : Int) => False) ?_ (λ _ _ => Ok.pure rfl) (λ _ h => h.elim)
    refine Ok.whileN (λ s => 0 <= s /\ s <= (b.Af.length : Int)) (λ s => ((b.Af.length : Int) - s).toNat) _ (0 : Int) (by omega) (by omega) ?_
    rintro i ⟨g1, g2⟩
    unfold Akw A1s
    refine Ok.cond (λ hq => ?_) (λ _ => Ok.brk trivial)
    simp only [decide_eq_true_eq] at hq
    obtain ⟨n, rfl⟩ : ∃ n : Nat, i = (n : Int) := ⟨i.toNat, by omega⟩
    rw [Ag9 h]
    simp only [aa]
    have hone := hp.one n (by omega)
    have hz : ofL b (λ x => L8 3 (n : Int) x) = ((b.Ad.zipIdx.filter λ z => z.1.Kind == 3 && z.1.B == (n : Int)).map λ z => (z.2 : Int)) := by
     unfold ofL
     congr 1
     exact List.filter_congr λ z _ => Aym 3 (by decide) n z.1
    have hzf := Abm n p.Ag b.Ad p.Ag 0 rfl (by omega)
    rw [hz]
    have hin : ∀ z, z ∈ (b.Ad.zipIdx.filter λ z => z.1.Kind == 3 && z.1.B == (n : Int)) -> z.2 < p.Ag.length := by
     rintro ⟨x, j⟩ hm
     have := (ax.1 hm).1
     rw [cF] at this
     have := (ab.1 this).1
     dsimp only; omega
    have hsz : (b.Ad.zipIdx.filter λ z => z.1.Kind == 3 && z.1.B == (n : Int)).length <= 24 := aA (bp _ _) (by simpa using hbl)
    generalize hm : (b.Ad.zipIdx.filter λ z => z.1.Kind == 3 && z.1.B == (n : Int)) = m at hin hsz hzf
    refine (Ok.foldI0 (xs := m.map λ z => (z.2 : Int)) (I := λ j s => s = (((m.take j).filter λ z => p.Ag.getD z.2 false).length : Int)) (A := λ s => s = ((m.filter λ z => p.Ag.getD z.2 false).length : Int)) (B := λ (_ : Unit) => False) rfl (λ j x s hx hs => ?_) λ s hs => ?_).inner (λ s hs => ?_) (λ _ h => h.elim)
    ·rw [aB, Option.map_eq_some_iff] at hx
     obtain ⟨z, hz, rfl⟩ := hx
     have hzl := hin z (af hz)
     obtain ⟨v, hv⟩ : ∃ v, p.Ag[z.2]? = some v := ⟨_, ae hzl⟩
     have hg : p.Ag.getD z.2 false = v := by simp [List.getD, hv]
     have hle : ((m.take j).filter λ z => p.Ag.getD z.2 false).length <= 24 := aA (bp _ _) (by simp; omega)
     unfold Akv
     rw [Bl hv, Bk hz, bj]
     simp only [aa]
     refine Ok.cond (λ hq => Ok.next ?_) (λ hq => Ok.next ?_)
     ·rw [hs, A8 (by omega), bk, hg, if_pos hq]
      simp
     ·rw [hs, bk, hg, if_neg (ff hq)]
      simp
    ·rw [aw, aD] at hs; exact hs
    ·rw [hs, hzf, A8 (by omega)]
     refine Ok.cond (λ hc => ?_) (λ _ => Ok.next ⟨by omega, by omega⟩)
     simp only [decide_eq_true_eq] at hc; omega
   ·have hjl := (ab.1 hj).1
    rw [aH]
    have hcnt : cnt 0 j = (j : Int) := Cz (by omega)
    unfold Akx A1t
    rw [(qU h x).2 (hp.brk.mem x (af hj)), hcnt]
    cases j with
    | zero => rfl
    | succ j =>
     obtain ⟨a, ha⟩ : ∃ a, p.Ao[j]? = some a := ⟨_, ae (by omega)⟩
     have hlt := hp.brk.asc j a x ha hj
     have e : w64 (((j + 1 : Nat) : Int) - 1) = (j : Int) := by rw [A8 (by omega)]; omega
     have hpz : decide (((j + 1 : Nat) : Int) > 0) = true := decide_eq_true (by omega)
     have hb : Abj a x = true := by
      unfold Abj
      unfold P7 at hlt
      simp only [aF, ac, decide_eq_true_eq, beq_iff_eq]
      exact hlt
     rw [e, Bl ha, hpz]
     simp [A4, Dk, hb]
  ·have hjl := (ab.1 hj).1
   rw [aH]
   have hcnt : cnt 0 j = (j : Int) := Cz (by omega)
   obtain ⟨c, hc⟩ : ∃ c, b.Af[j]? = some c := ⟨_, ae (by omega)⟩
   unfold Aky
   rw [hcnt, Bl hc]
   simp only [aa]
   rw [bet (hp.lim j x c hj hc)]; rfl
 ·have hr := hp.run x (af hj)
  unfold Akz A1u
  rw [bet hr.1, bet hr.2.1, bet hr.2.2.1, bet hr.2.2.2]; rfl
theorem Avp {l : List Am} {n : Nat} {x : Am} (h : l[n]? = some x) : D5 (l.take n ++ l.drop (n + 1)) n x = l := by
 have hn := (ab.1 h).1
 have ht : (l.take n).length = n := by simp; omega
 unfold D5
 rw [cr (by omega), List.take_take, Nat.min_self, List.drop_append_of_le_length (by omega), List.drop_of_length_le (by omega), cw]
 conv => rhs; rw [← cm n l]
 rw [cE hn]
 have : l[n] = x := by rw [ae hn] at h; cases h; rfl
 rw [this]
theorem Ld {l : List Am} {n j : Nat} (hn : n < l.length) {y : Am} (h : (l.take n ++ l.drop (n + 1))[j]? = some y) : (j < n /\ l[j]? = some y) \/ (n <= j /\ l[j + 1]? = some y) := by
 have ht : (l.take n).length = n := by simp; omega
 rw [bO] at h
 split at h
 ·rename_i h1
  rw [ht] at h1
  rw [an, if_pos h1] at h
  exact .inl ⟨h1, h⟩
 ·rename_i h1
  rw [ht] at h1 h
  rw [al] at h
  refine .inr ⟨by omega, ?_⟩
  rw [← h]; congr 1; omega
theorem Azo {b : Aa} (h : Au b) {l : List Am} (hl : D8 b l) {n : Nat} (hn : n < l.length) : D8 b (l.take n ++ l.drop (n + 1)) := by
 have hs := Hd h hl
 have hsm : ∀ y, y ∈ l -> Ck y := λ y hy => (hl.mem y hy).small h
 have hlen := hl.len
 refine ⟨by simp; omega, λ y hy => ?_, λ j y z hy hz => ?_⟩
 ·rcases au.1 hy with hy | hy
  ·exact hl.mem y (bf hy)
  ·exact hl.mem y (ce hy)
 ·rcases Ld hn hy with ⟨a1, a2⟩ | ⟨a1, a2⟩ <;> rcases Ld hn hz with ⟨b1, b2⟩ | ⟨b1, b2⟩
  ·exact hl.asc j y z a2 b2
  ·exact (Ae4 (hsm y (af a2)) (hsm z (af b2))).2 (hs j (j + 1 + 1) y z (by omega) a2 b2)
  ·omega
  ·exact hl.asc (j + 1) y z a2 b2
theorem Azp {b : Aa} (h : Au b) {l : List Am} (hl : D8 b l) {n : Nat} {x : Am} (hx : l[n]? = some x) : At (l.take n ++ l.drop (n + 1)) x n /\ (l.take n ++ l.drop (n + 1))[n]? ≠ some x := by
 have hs := Hd h hl
 have hn := (ab.1 hx).1
 refine ⟨⟨by simp; omega, λ j y hj hy => ?_, λ j y hj hy => ?_⟩, λ e => ?_⟩
 ·rcases Ld hn hy with ⟨_, a2⟩ | ⟨a1, _⟩
  ·exact hs j n y x hj a2 hx
  ·omega
 ·rcases Ld hn hy with ⟨a1, _⟩ | ⟨_, a2⟩
  ·omega
  ·have := hs n (j + 1) x y (by omega) hx a2; omega
 ·rcases Ld hn e with ⟨a1, _⟩ | ⟨_, a2⟩
  ·omega
  ·have := hs n (n + 1) x x (by omega) hx a2; omega
theorem A24 {b : Aa} (h : Au b) {p : Ab} (hp : As b p) (t : Int) {x : Am} (hx : Cb b x) (v : Bool) : Ok (Gc ⟨b, p, t⟩ x v) (Xr b) := by
 obtain ⟨n, hat⟩ := A9v h hp.brk hx
 have hlen := hp.brk.len
 have hsearch := N6 (Hd h hp.brk) (λ y hy => (hp.brk.mem y hy).small h) (hx.small h) (by omega)
 have hbad : ∀ (hv : (p.Ao[n]? = some x) ↔ v = true), Ok (Gc ⟨b, p, t⟩ x v) (Xr b) := by
  intro hv
  unfold Gc
  refine hsearch.bind λ y hy => ?_
  obtain ⟨m, e1, hat2, hf⟩ := hy
  have e2 := hat.uniq hat2
  subst e2
  have : y.2 = v := by
   rw [bz]; exact hf.trans hv
  rw [this]
  exact Ok.cond (λ _ => Ok.pure (.inl (by simp))) (λ hc => by simp at hc)
 by_cases hin : p.Ao[n]? = some x
 ·cases v with
  | true => exact hbad ⟨λ _ => rfl, λ _ => hin⟩
  | false =>
   have hn := (ab.1 hin).1
   have he := Azp h hp.brk hin
   have hq : As b ⟨p.Ag, p.Ac, p.Aq, p.Ao.take n ++ p.Ao.drop (n + 1)⟩ := { ncl := hp.ncl, nso := hp.nso, nli := hp.nli, run := hp.run, lim := hp.lim, one := hp.one, brk := Azo h hp.brk hn }
   have := A2r h (p := ⟨p.Ag, p.Ac, p.Aq, p.Ao.take n ++ p.Ao.drop (n + 1)⟩) hq.brk (q := p) hx t he.1 he.2 (by simp; omega) (Avp hin).symm hp.nso
   rw [this]
   refine Ok.pure (.inr ?_)
   exact Iq hq (Ua _ _ _) (Ah7 hp.run (λ hk => by have := hp.nso; unfold Cb at hx; omega) (by omega))
 ·cases v with
  | false => exact hbad ⟨λ e => absurd e hin, λ e => by cases e⟩
  | true =>
   by_cases hl : p.Ao.length < 32
   ·rw [A25 h hp hx t hat hin hl]
    exact Ok.pure (.inr (Aq9 h hp hx hat hin hl))
   ·unfold Gc
    refine hsearch.bind λ y _ => Ok.cond (λ _ => Ok.pure (.inl (by simp))) (λ _ => Ok.cond (λ _ => Ok.pure (.inl (by simp))) (λ hc => ?_))
    simp [Re] at hc; omega
def A51 : Ab := ⟨[], [], [], []⟩
theorem Ay5 {b : Aa} (a : Ap) : Ok (Abd b a) λ y => y = true -> ((a.Kind = 1 \/ a.Kind = 2) -> Cb b ⟨2, a.Unit⟩) /\ ((a.Kind = 3 \/ a.Kind = 4) -> Cb b ⟨1, a.Unit⟩) /\ (a.Kind = 5 -> Cb b ⟨4, a.Unit⟩) /\ ((a.Kind = 8 \/ a.Kind = 9) -> Cb b ⟨a.Value, a.Unit⟩) := by
 unfold Abd
 refine Ok.andThen (A := λ z => z = true ↔ (a.Kind = 1 \/ a.Kind = 2)) (B := λ (_ : Unit) => False) ?_ (λ z hz => ?_) (λ _ h => h.elim)
 ·unfold Abc
  refine Ok.cond (λ hk => Ok.nextE ?_) (λ hk => Ok.nextE ?_)
  ·simp only [beq_iff_eq] at hk ⊢; omega
  ·simp only [beq_eq_false_iff_ne, ne_eq] at hk
   simp only [beq_iff_eq]; omega
 refine Ok.cond (λ hq => Ok.pure λ hk => ?_) (λ hq => ?_)
 ·have := hz.1 hq
  have hk := (M3 b _ _).1 hk
  exact ⟨λ _ => hk, λ e => by omega, λ e => by omega, λ e => by omega⟩
 have hn12 : ¬ (a.Kind = 1 \/ a.Kind = 2) := λ e => by rw [hz.2 e] at hq; cases hq
 refine Ok.andThen (A := λ z => z = true ↔ (a.Kind = 3 \/ a.Kind = 4)) (B := λ (_ : Unit) => False) ?_ (λ z hz => ?_) (λ _ h => h.elim)
 ·unfold Abb
  refine Ok.cond (λ hk => Ok.nextE ?_) (λ hk => Ok.nextE ?_)
  ·simp only [beq_iff_eq] at hk ⊢; omega
  ·simp only [beq_eq_false_iff_ne, ne_eq] at hk
   simp only [beq_iff_eq]; omega
 refine Ok.cond (λ hq => Ok.pure λ hk => ?_) (λ hq => ?_)
 ·have := hz.1 hq
  have hk := (M3 b _ _).1 hk
  exact ⟨λ e => by omega, λ _ => hk, λ e => by omega, λ e => by omega⟩
 have hn34 : ¬ (a.Kind = 3 \/ a.Kind = 4) := λ e => by rw [hz.2 e] at hq; cases hq
 refine Ok.cond (λ hq => Ok.pure λ hk => ?_) (λ hq5 => Ok.cond (λ hq => Ok.pure λ _ => ?_) (λ hq6 => Ok.cond (λ hq => Ok.pure λ hk => ?_) (λ hq8 => Ok.cond (λ hq => Ok.pure λ hk => ?_) (λ hq9 => Ok.pure λ _ => ?_))))
 ·simp only [beq_iff_eq] at hq
  have hk := (M3 b _ _).1 hk
  exact ⟨λ e => by omega, λ e => by omega, λ _ => hk, λ e => by omega⟩
 ·simp only [beq_iff_eq] at hq
  exact ⟨λ e => by omega, λ e => by omega, λ e => by omega, λ e => by omega⟩
 ·have hk := (M3 b _ _).1 hk
  simp only [beq_iff_eq] at hq
  exact ⟨λ e => by omega, λ e => by omega, λ e => by omega, λ _ => hk⟩
 ·have hk := (M3 b _ _).1 hk
  simp only [beq_iff_eq] at hq
  exact ⟨λ e => by omega, λ e => by omega, λ e => by omega, λ _ => hk⟩
 ·simp only [beq_eq_false_iff_ne, ne_eq] at hq5 hq8 hq9
  exact ⟨λ e => by omega, λ e => by omega, λ e => by omega, λ e => by omega⟩
theorem A9o {b : Aa} (h : Au b) {p : Ab} (hp : As b p) {t : Int} (ht : 0 <= t /\ t <= 2147483648) {a : Ap} (hk : 1 <= a.Kind /\ a.Kind <= 9)
  (hw : ((a.Kind = 1 \/ a.Kind = 2) -> Cb b ⟨2, a.Unit⟩) /\ ((a.Kind = 3 \/ a.Kind = 4) -> Cb b ⟨1, a.Unit⟩) /\ (a.Kind = 5 -> Cb b ⟨4, a.Unit⟩) /\ ((a.Kind = 8 \/ a.Kind = 9) -> Cb b ⟨a.Value, a.Unit⟩)) : Ok (Ip ⟨b, p, t⟩ a) (Xr b) := by
 obtain ⟨w1, w2, w3, w4⟩ := hw
 unfold Cb at w2 w3
 dsimp only at w2 w3
 unfold Ip
 refine Ok.cond (λ _ => (Az0 h hp _).bind λ y hy => Ok.pure hy) (λ q1 => ?_)
 refine Ok.cond (λ _ => (A2m h hp _).bind λ y hy => Ok.pure hy) (λ q2 => ?_)
 refine Ok.cond (λ _ => (Ayz h hp _ _).bind λ y hy => Ok.pure hy) (λ q6 => ?_)
 refine Ok.cond (λ q => ?_) (λ q3 => ?_)
 ·simp only [beq_iff_eq] at q
  exact (Ayc h hp ht (by omega) (by omega)).bind λ y hy => Ok.pure hy
 refine Ok.cond (λ q => ?_) (λ q4 => ?_)
 ·simp only [beq_iff_eq] at q
  exact (A2g h hp (by omega) (by omega)).bind λ y hy => Ok.pure hy
 refine Ok.cond (λ q => ?_) (λ q5 => ?_)
 ·simp only [beq_iff_eq] at q
  exact (Ay2 hp (by omega) (by omega)).bind λ y hy => Ok.pure hy
 refine Ok.cond (λ _ => (Amq h hp t).bind λ y hy => Ok.pure (.inr hy)) (λ q7 => ?_)
 simp only [beq_eq_false_iff_ne, ne_eq] at q1 q2 q3 q4 q5 q6 q7
 exact (A24 h hp t (w4 (by omega)) _).bind λ y hy => Ok.pure hy
theorem A78 {b : Aa} (h : Au b) {p : Ab} (hp : As b p) (t : Int) (a : Ap) : Ok (F83 b p t a) λ y => (y.2 ≠ 0 /\ y.1 = A51) \/ (y.2 = 0 /\ As b y.1) := by
 unfold F83
 rw [Cm h hp, Cv h hp]
 simp only [aa]
 refine Ok.cond (λ hc => by simp at hc) (λ _ => Ok.cond (λ _ => Ok.pure (.inl ⟨by simp, rfl⟩)) (λ hr => ?_))
 simp only [Arp, bt, decide_eq_false_iff_not] at hr
 refine (Ay5 a).bind λ y hy => Ok.cond (λ _ => Ok.pure (.inl ⟨by simp, rfl⟩)) (λ hk => ?_)
 simp only [cy] at hk
 refine (A9o h hp (by omega) (by omega) (hy hk)).bind λ z hz => Ok.cond (λ hc => Ok.pure (.inl ⟨by simpa using hc, rfl⟩)) (λ hc => ?_)
 simp only [bne_eq_false_iff_eq] at hc
 rcases hz with hz | hz
 ·exact absurd hc hz
 ·exact Ok.pure (.inr ⟨rfl, hz⟩)
theorem A8j {b : Aa} (h : Au b) {s : Ah} (hs : Bu s) : Ok (F33 s b) λ y => Bu y.2 := by
 have hbu := h.buses
 have hbl := h.brl
 have hso := h.sol
 have hco := h.col
 unfold F33
 refine (Hq hs 1 9 (by omega) (by omega) (by omega)).bind λ y hy => ?_
 refine Ok.andThen (A := λ _ => True) (B := λ (_ : Unit) => False) ?_ (λ z _ => ?_) (λ _ h => h.elim)
 ·unfold Ak6
  exact Ok.cond (λ _ => Ok.nextE trivial) (λ _ => Ok.nextE trivial)
 refine Ok.cond (λ _ => ?_) (λ _ => ?_)
 ·exact (Uz hy.1 _ (by rw [A8 (by omega)]; omega)).bind λ u hu => Ok.pure hu.1
 refine Ok.andThen (A := λ _ => True) (B := λ (_ : Unit) => False) ?_ (λ z _ => ?_) (λ _ h => h.elim)
 ·unfold Ak5
  exact Ok.cond (λ _ => Ok.nextE trivial) (λ _ => Ok.nextE trivial)
 refine Ok.cond (λ _ => ?_) (λ _ => Ok.cond (λ _ => ?_) (λ _ => Ok.cond (λ _ => ?_) (λ _ => Ok.cond (λ _ => ?_) (λ _ => Ok.cond (λ _ => ?_) (λ _ => Ok.pure hy.1)))))
 ·exact (Uz hy.1 _ (by rw [A8 (by omega)]; omega)).bind λ u hu => Ok.pure hu.1
 ·exact (Uz hy.1 _ (by rw [A8 (by omega)]; omega)).bind λ u hu => (D7 hu.1 _ (by simp) (by simp)).bind λ v hv => Ok.pure hv.1
 ·exact (Uz hy.1 _ (by rw [A8 (by omega)]; omega)).bind λ u hu => (Uz hu.1 _ (by rw [A8 (by omega)]; omega)).bind λ v hv => Ok.pure hv.1
 ·exact (Hq hy.1 1 4 (by omega) (by omega) (by omega)).bind λ u hu => (Uz hu.1 _ (by omega)).bind λ v hv => Ok.pure hv.1
 ·exact (Hq hy.1 1 4 (by omega) (by omega) (by omega)).bind λ u hu => (Uz hu.1 _ (by omega)).bind λ v hv => Ok.pure hv.1
abbrev Dd := List (Aj × Bool)
def Tie (L : Dd) (i j : Nat) : Prop := ∃ z, z ∈ L /\ z.1.Kind = 1 /\ z.2 = true /\ ((z.1.A.toNat = i /\ z.1.B.toNat = j) \/ (z.1.A.toNat = j /\ z.1.B.toNat = i))
theorem Tie.symm {L : Dd} {i j : Nat} (h : Tie L i j) : Tie L j i := by
 obtain ⟨z, h1, h2, h3, h4⟩ := h
 exact ⟨z, h1, h2, h3, h4.symm⟩
inductive Dl (L : Dd) (i : Nat) : Nat -> Nat -> Prop
 | refl : Dl L i 0 i
 | stay {r j : Nat} : Dl L i r j -> Dl L i (r + 1) j
 | step {r j k : Nat} : Dl L i r j -> Tie L j k -> Dl L i (r + 1) k
def C8 (L : Dd) (i j : Nat) : Prop := ∃ r, Dl L i r j
theorem C8.refl (L : Dd) (i : Nat) : C8 L i i := ⟨0, .refl⟩
theorem C8.tie {L : Dd} {i j k : Nat} (h : C8 L i j) (t : Tie L j k) : C8 L i k := by
 obtain ⟨r, h⟩ := h; exact ⟨r + 1, h.step t⟩
theorem C8.trans {L : Dd} {i j k : Nat} (h : C8 L i j) (h2 : C8 L j k) : C8 L i k := by
 obtain ⟨r, h2⟩ := h2
 induction h2 with
 | refl => exact h
 | stay _ ih => exact ih
 | step _ t ih => exact ih.tie t
theorem C8.symm {L : Dd} {i j : Nat} (h : C8 L i j) : C8 L j i := by
 obtain ⟨r, h⟩ := h
 induction h with
 | refl => exact .refl L i
 | stay _ ih => exact ih
 | step _ t ih => exact (C8.tie (.refl L _) t.symm).trans ih
theorem Dl.le {L : Dd} {i j r s : Nat} (h : Dl L i r j) (hs : r <= s) : Dl L i s j := by
 induction s with
 | zero =>
  have : r = 0 := by omega
  subst this; exact h
 | succ s ih =>
  by_cases e : r = s + 1
  ·subst e; exact h
  ·exact (ih (by omega)).stay
open Classical in
noncomputable def cn (p : Nat -> Prop) : Nat -> Nat
 | 0 => 0
 | n + 1 => cn p n + if p n then 1 else 0
theorem A1j (p : Nat -> Prop) : ∀ n, cn p n <= n
 | 0 => ar _
 | n + 1 => by have := A1j p n; unfold cn; split <;> omega
theorem Aah {p q : Nat -> Prop} : ∀ n, (∀ k, k < n -> p k -> q k) -> cn p n <= cn q n
 | 0, _ => ar _
 | n + 1, h => by
  have := Aah n λ k hk => h k (by omega)
  have h1 := h n (by omega)
  unfold cn
  by_cases hp : p n
  ·rw [if_pos hp, if_pos (h1 hp)]; omega
  ·rw [if_neg hp]; split <;> omega
theorem Arl {p q : Nat -> Prop} : ∀ n, (∀ k, k < n -> p k -> q k) -> cn p n = cn q n -> ∀ k, k < n -> q k -> p k
 | 0, _, _, k, hk, _ => by omega
 | n + 1, h, e, k, hk, hq => by
  have hm := Aah n λ k hk => h k (by omega)
  have h1 := h n (by omega)
  unfold cn at e
  by_cases hp : p n
  ·rw [if_pos hp, if_pos (h1 hp)] at e
   by_cases ek : k = n
   ·subst ek; exact hp
   ·exact Arl n (λ k hk => h k (by omega)) (by omega) k (by omega) hq
  ·rw [if_neg hp] at e
   by_cases hqn : q n
   ·rw [if_pos hqn] at e; omega
   ·rw [if_neg hqn] at e
    by_cases ek : k = n
    ·subst ek; exact absurd hq hqn
    ·exact Arl n (λ k hk => h k (by omega)) (by omega) k (by omega) hq
def Afb (L : Dd) (n : Nat) : Prop := ∀ i j, Tie L i j -> i < n /\ j < n
theorem uF {L : Dd} {n i j : Nat} (hL : Afb L n) (_ : i < n) (h : C8 L i j) : Dl L i n j := by
 have hst : ∃ r, r <= n /\ ∀ k, k < n -> Dl L i (r + 1) k -> Dl L i r k := by
  by_cases hex : ∃ r, r <= n /\ ∀ k, k < n -> Dl L i (r + 1) k -> Dl L i r k
  ·exact hex
  exfalso
  have hgrow : ∀ r, r <= n -> cn (Dl L i r) n < cn (Dl L i (r + 1)) n := by
   intro r hr
   have hm := Aah (p := Dl L i r) (q := Dl L i (r + 1)) n λ k _ h => h.stay
   rcases Nat.lt_or_eq_of_le hm with h | h
   ·exact h
   ·exact absurd ⟨r, hr, Arl n (λ k _ h => h.stay) h⟩ hex
  have hge : ∀ r, r <= n + 1 -> r <= cn (Dl L i r) n := by
   intro r
   induction r with
   | zero => intro _; omega
   | succ r ih => intro hr; have := ih (by omega); have := hgrow r (by omega); omega
  have h1 := hge (n + 1) (ar _)
  have h2 := A1j (Dl L i (n + 1)) n
  omega
 obtain ⟨r, hr, hs⟩ := hst
 obtain ⟨s, h⟩ := h
 have key : ∀ s k, Dl L i s k -> Dl L i r k := by
  intro s k h
  induction h with
  | refl => exact Dl.refl.le (by omega)
  | stay _ ih => exact ih
  | step h0 t ih => exact hs _ (hL _ _ t).2 (ih.step t)
 exact (key s j h).le hr
def B7 (b : Aa) (p : Ab) : Dd := b.Ad.zip p.Ag
theorem yA {b : Aa} (h : Au b) (p : Ab) : Afb (B7 b p) b.Al.toNat := by
 rintro i j ⟨z, hz, hk, _, he⟩
 have := h.br z.1 (b9 hz).1
 unfold R9 at this
 omega
theorem A5t {s : List Int} {i : Nat} (h : i < s.length) : s[i]? = some (s.getD i 0) := by
 rw [ae h]; simp [List.getD, ae h]
theorem T2 {s : List Int} {z : Aj × Bool} {i : Nat} (hi : i < s.length) : (Ew s z).getD i 0 = if (z.1.Kind = 1 /\ z.2 = true) /\ (i = z.1.A.toNat \/ i = z.1.B.toNat) then min (s.getD z.1.A.toNat 0) (s.getD z.1.B.toNat 0) else s.getD i 0 := by
 unfold Ew
 by_cases hk : z.1.Kind = 1 /\ z.2 = true
 ·rw [if_pos hk]
  by_cases hB : i = z.1.B.toNat
  ·rw [if_pos ⟨hk, .inr hB⟩]
   simp [List.getD, ← hB, hi]
  ·by_cases hA : i = z.1.A.toNat
   ·rw [if_pos ⟨hk, .inl hA⟩]
    have h1 : ¬ z.1.B.toNat = i := λ e => hB e.symm
    simp only [List.getD, aK h1]
    rw [← hA, bA hi]; rfl
   ·rw [if_neg (λ e => e.2.elim hA hB)]
    have h1 : ¬ z.1.B.toNat = i := λ e => hB e.symm
    have h2 : ¬ z.1.A.toNat = i := λ e => hA e.symm
    simp only [List.getD, aK h1, aK h2]
 ·rw [if_neg hk, if_neg (λ e => hk e.1)]
def Lab (L : Dd) (s : List Int) : Prop := ∀ i, i < s.length -> C8 L (s.getD i 0).toNat i
theorem Ava {L : Dd} {s : List Int} (h : Lab L s) {z : Aj × Bool} (hz : z ∈ L) (hr : z.1.Kind = 1 -> z.1.A.toNat < s.length /\ z.1.B.toNat < s.length) : Lab L (Ew s z) := by
 intro i hi
 rw [Ee] at hi
 rw [T2 hi]
 split
 ·rename_i hc
  obtain ⟨⟨hk, hv⟩, hab⟩ := hc
  obtain ⟨ha, hb⟩ := hr hk
  have tAB : Tie L z.1.A.toNat z.1.B.toNat := ⟨z, hz, hk, hv, .inl ⟨rfl, rfl⟩⟩
  have c1 := h _ ha
  have c2 := h _ hb
  rcases Int.le_total (s.getD z.1.A.toNat 0) (s.getD z.1.B.toNat 0) with e | e
  ·rw [Int.min_eq_left e]
   rcases hab with rfl | rfl
   ·exact c1
   ·exact c1.tie tAB
  ·rw [Int.min_eq_right e]
   rcases hab with rfl | rfl
   ·exact c2.tie tAB.symm
   ·exact c2
 ·exact h i hi
theorem Q7 {L : Dd} {n : Nat} : ∀ (l : Dd) (s : List Int), s.length = n -> (∀ z, z ∈ l -> z ∈ L /\ (z.1.Kind = 1 -> z.1.A.toNat < n /\ z.1.B.toNat < n)) -> Lab L s -> Lab L (Dh l s)
 | [], _, _, _, h => h
 | z :: l, s, hs, hz, h => Q7 l (Ew s z) (by rw [Ee]; exact hs) (λ y hy => hz y (ah _ hy)) (Ava h (hz z ai).1 (by rw [hs]; exact (hz z ai).2))
theorem T3 {s : List Int} (z : Aj × Bool) {i : Nat} (hi : i < s.length) : (Ew s z).getD i 0 <= s.getD i 0 := by
 rw [T2 hi]
 split
 ·rename_i hc
  rcases hc.2 with rfl | rfl
  ·exact Int.min_le_left _ _
  ·exact Int.min_le_right _ _
 ·exact Int.le_refl _
theorem Q8 : ∀ (l : Dd) (s : List Int) {i : Nat}, i < s.length -> (Dh l s).getD i 0 <= s.getD i 0
 | [], _, _, _ => Int.le_refl _
 | z :: l, s, i, hi => Int.le_trans (Q8 l (Ew s z) (by rw [Ee]; exact hi)) (T3 z hi)
theorem qR : ∀ (l : Dd) (s : List Int) {z : Aj × Bool}, z ∈ l -> z.1.Kind = 1 -> z.2 = true -> z.1.A.toNat < s.length -> z.1.B.toNat < s.length -> ∀ i, i = z.1.A.toNat \/ i = z.1.B.toNat -> (Dh l s).getD i 0 <= min (s.getD z.1.A.toNat 0) (s.getD z.1.B.toNat 0)
 | [], _, _, h, _, _, _, _, _, _ => by cases h
 | y :: l, s, z, hz, hk, hv, ha, hb, i, hi => by
  show (Dh l (Ew s y)).getD i 0 <= _
  have hil : i < s.length := by rcases hi with rfl | rfl <;> assumption
  by_cases e : z = y
  ·subst e
   refine Int.le_trans (Q8 l _ (by rw [Ee]; exact hil)) ?_
   rw [T2 hil, if_pos ⟨⟨hk, hv⟩, hi⟩]
   exact Int.le_refl _
  ·have hz' : z ∈ l := by
    rcases ag.1 hz with h | h
    ·exact absurd h e
    ·exact h
   refine Int.le_trans (qR l (Ew s y) hz' hk hv (by rw [Ee]; exact ha) (by rw [Ee]; exact hb) i hi) ?_
   have h1 := T3 y ha
   have h2 := T3 y hb
   omega
theorem Tl {n i : Nat} (h : i < n) : (Dg n).getD i 0 = (i : Int) := by
 simp [Dg, List.getD, bG h]
theorem Aq4 {L : Dd} {n : Nat} (hL : Afb L n) : ∀ r i j, i < n -> j < n -> Dl L j r i -> ((List.range r).foldl (λ s _ => Dh L s) (Dg n)).getD i 0 <= (j : Int) := by
 intro r
 have hlen : ∀ r, ((List.range r).foldl (λ s _ => Dh L s) (Dg n)).length = n := by
  intro r
  induction r with
  | zero => simp [Dg]
  | succ r ih => rw [bR, aR]; simp only [bF, List.foldl_nil, Fj]; exact ih
 induction r with
 | zero =>
  intro i j hi hj h
  cases h
  show (Dg n).getD i 0 <= _
  rw [Tl hi]
  exact Int.le_refl _
 | succ r ih =>
  intro i j hi hj h
  have hrl := hlen r
  rw [bR, aR]
  simp only [bF, List.foldl_nil]
  generalize (List.range r).foldl (λ s _ => Dh L s) (Dg n) = s at *
  cases h with
  | stay h => exact Int.le_trans (Q8 L s (by omega)) (ih i j hi hj h)
  | step h t =>
   rename_i k
   have hk := hL _ _ t
   have h1 := ih k j hk.1 hj h
   obtain ⟨z, hz, hz1, hz2, he⟩ := t
   have hA : z.1.A.toNat < s.length := by omega
   have hB : z.1.B.toNat < s.length := by omega
   have h2 := qR L s hz hz1 hz2 hA hB i (by omega)
   rcases he with ⟨e1, e2⟩ | ⟨e1, e2⟩
   ·rw [e1] at h2; omega
   ·rw [e2] at h2; omega
theorem Gj {b : Aa} (h : Au b) (p : Ab) {i j : Nat} (hi : i < b.Al.toNat) (hj : j < b.Al.toNat) : (A7 b p).getD i 0 = (A7 b p).getD j 0 ↔ C8 (B7 b p) i j := by
 have hL := yA h p
 have hlen := Is b p
 have hlab : Lab (B7 b p) (A7 b p) := by
  have hz : ∀ z, z ∈ B7 b p -> z ∈ B7 b p /\ (z.1.Kind = 1 -> z.1.A.toNat < b.Al.toNat /\ z.1.B.toNat < b.Al.toNat) := by
   intro z hz
   refine ⟨hz, λ hk => ?_⟩
   have := h.br z.1 (b9 hz).1
   unfold R9 at this
   omega
  have key : ∀ (xs : List Nat) (s : List Int), s.length = b.Al.toNat -> Lab (B7 b p) s -> Lab (B7 b p) (xs.foldl (λ s _ => Dh (b.Ad.zip p.Ag) s) s) := by
   intro xs
   induction xs with
   | nil => intro s _ h; exact h
   | cons x xs ih => intro s hl h; exact ih _ (by rw [Fj]; exact hl) (Q7 _ s hl hz h)
  refine key _ _ (by simp [Dg]) ?_
  intro k hk
  have hk' : k < b.Al.toNat := by simpa [Dg] using hk
  rw [Tl hk']
  exact .refl _ k
 have hlow : ∀ i j, i < b.Al.toNat -> j < b.Al.toNat -> C8 (B7 b p) j i -> (A7 b p).getD i 0 <= (j : Int) := λ i j hi hj hc => Aq4 hL _ i j hi hj (uF hL hj hc)
 have hlo := T4 h p
 have hrange : ∀ i, i < b.Al.toNat -> 0 <= (A7 b p).getD i 0 /\ ((A7 b p).getD i 0).toNat < b.Al.toNat := by
  intro i hi
  have := hlo i _ (A5t (by omega))
  omega
 constructor
 ·intro e
  have c1 := hlab i (by omega)
  have c2 := hlab j (by omega)
  rw [e] at c1
  exact c1.symm.trans c2
 ·intro hc
  have r1 := hrange i hi
  have r2 := hrange j hj
  have c1 := hlab i (by omega)
  have c2 := hlab j (by omega)
  have l1 := hlow j _ hj r1.2 (c1.trans hc)
  have l2 := hlow i _ hi r2.2 (c2.trans hc.symm)
  omega
def Fw (s : List Bool) (z : Aj × Bool) : List Bool :=
 if (z.1.Kind = 1 /\ z.2 = true) /\ (s.getD z.1.A.toNat false || s.getD z.1.B.toNat false) = true then (s.set z.1.A.toNat true).set z.1.B.toNat true else s
theorem E5 (s : List Bool) (z : Aj × Bool) : (Fw s z).length = s.length := by unfold Fw; split <;> simp
def Gt (L : Dd) (s : List Bool) : List Bool := L.foldl Fw s
theorem Lj : ∀ (l : Dd) (s : List Bool), (Gt l s).length = s.length
 | [], _ => rfl
 | z :: l, s => by show (Gt l (Fw s z)).length = _; rw [Lj l, E5]
theorem Ayh {s : List Bool} {m i : Nat} (hi : i < s.length) : (s.set m true).getD i false = (decide (m = i) || s.getD i false) := by
 by_cases e : m = i
 ·subst e; simp [List.getD, hi]
 ·simp [List.getD, aK e, e]
theorem K4 {s : List Bool} {z : Aj × Bool} {i : Nat} (hi : i < s.length) : (Fw s z).getD i false = true ↔ s.getD i false = true \/ (((z.1.Kind = 1 /\ z.2 = true) /\ (s.getD z.1.A.toNat false || s.getD z.1.B.toNat false) = true) /\ (i = z.1.A.toNat \/ i = z.1.B.toNat)) := by
 unfold Fw
 split
 ·rename_i hc
  rw [Ayh (by simpa using hi), Ayh hi, aF, aF, decide_eq_true_iff, decide_eq_true_iff]
  constructor
  ·rintro (e | e | e)
   ·exact .inr ⟨hc, .inr e.symm⟩
   ·exact .inr ⟨hc, .inl e.symm⟩
   ·exact .inl e
  ·rintro (e | ⟨_, e | e⟩)
   ·exact .inr (.inr e)
   ·exact .inr (.inl e.symm)
   ·exact .inl e.symm
 ·rename_i hc
  exact ⟨.inl, λ e => e.elim id λ e => absurd e.1 hc⟩
def Got (L : Dd) (n : Nat) (s : List Bool) : Prop := ∀ i, i < s.length -> s.getD i false = true -> C8 L n i
theorem Aun {L : Dd} {n : Nat} {s : List Bool} (h : Got L n s) {z : Aj × Bool} (hz : z ∈ L) (hr : z.1.Kind = 1 -> z.1.A.toNat < s.length /\ z.1.B.toNat < s.length) : Got L n (Fw s z) := by
 intro i hi e
 rw [E5] at hi
 rcases (K4 hi).1 e with e | ⟨⟨⟨hk, hv⟩, ho⟩, hab⟩
 ·exact h i hi e
 ·obtain ⟨ha, hb⟩ := hr hk
  have t : Tie L z.1.A.toNat z.1.B.toNat := ⟨z, hz, hk, hv, .inl ⟨rfl, rfl⟩⟩
  simp only [aF] at ho
  rcases ho with ho | ho
  ·have c := h _ ha ho
   rcases hab with rfl | rfl
   ·exact c
   ·exact c.tie t
  ·have c := h _ hb ho
   rcases hab with rfl | rfl
   ·exact c.tie t.symm
   ·exact c
theorem jX {L : Dd} {n m : Nat} : ∀ (l : Dd) (s : List Bool), s.length = m -> (∀ z, z ∈ l -> z ∈ L /\ (z.1.Kind = 1 -> z.1.A.toNat < m /\ z.1.B.toNat < m)) -> Got L n s -> Got L n (Gt l s)
 | [], _, _, _, h => h
 | z :: l, s, hs, hz, h => jX l (Fw s z) (by rw [E5]; exact hs) (λ y hy => hz y (ah _ hy)) (Aun h (hz z ai).1 (by rw [hs]; exact (hz z ai).2))
theorem Qu : ∀ (l : Dd) (s : List Bool) {i : Nat}, i < s.length -> s.getD i false = true -> (Gt l s).getD i false = true
 | [], _, _, _, h => h
 | z :: l, s, _, hi, h => Qu l (Fw s z) (by rw [E5]; exact hi) ((K4 hi).2 (.inl h))
theorem jW : ∀ (l : Dd) (s : List Bool) {z : Aj × Bool}, z ∈ l -> z.1.Kind = 1 -> z.2 = true -> z.1.A.toNat < s.length -> z.1.B.toNat < s.length -> (s.getD z.1.A.toNat false || s.getD z.1.B.toNat false) = true -> ∀ i, i = z.1.A.toNat \/ i = z.1.B.toNat -> (Gt l s).getD i false = true
 | [], _, _, h, _, _, _, _, _, _, _ => by cases h
 | y :: l, s, z, hz, hk, hv, ha, hb, ho, i, hi => by
  show (Gt l (Fw s y)).getD i false = true
  have hil : i < s.length := by rcases hi with rfl | rfl <;> assumption
  by_cases e : z = y
  ·subst e
   exact Qu l _ (by rw [E5]; exact hil) ((K4 hil).2 (.inr ⟨⟨⟨hk, hv⟩, ho⟩, hi⟩))
  ·have hz' : z ∈ l := by
    rcases ag.1 hz with h | h
    ·exact absurd h e
    ·exact h
   refine jW l (Fw s y) hz' hk hv (by rw [E5]; exact ha) (by rw [E5]; exact hb) ?_ i hi
   simp only [aF] at ho ⊢
   exact ho.imp (λ e => (K4 ha).2 (.inl e)) (λ e => (K4 hb).2 (.inl e))
def K5 (L : Dd) (r : Nat) (s : List Bool) : List Bool := (List.range r).foldl (λ s _ => Gt L s) s
theorem Ks (L : Dd) (r : Nat) (s : List Bool) : K5 L (r + 1) s = Gt L (K5 L r s) := by
 unfold K5; rw [bR, aR]; rfl
theorem Ht (L : Dd) (s : List Bool) : ∀ r, (K5 L r s).length = s.length
 | 0 => rfl
 | r + 1 => by rw [Ks, Lj, Ht L s r]
theorem Ap9 {L : Dd} {n m : Nat} (hL : Afb L m) {s : List Bool} (hs : s.length = m) (hn : s.getD n false = true) : ∀ r i, i < m -> Dl L n r i -> (K5 L r s).getD i false = true := by
 intro r
 induction r with
 | zero => intro i _ h; cases h; exact hn
 | succ r ih =>
  intro i hi h
  rw [Ks]
  have hl := Ht L s r
  cases h with
  | stay h => exact Qu L _ (by omega) (ih i hi h)
  | step h t =>
   rename_i k
   have hk := hL _ _ t
   have h1 := ih k hk.1 h
   obtain ⟨z, hz, hz1, hz2, he⟩ := t
   refine jW L _ hz hz1 hz2 (by omega) (by omega) ?_ i (by omega)
   rcases he with ⟨e1, _⟩ | ⟨_, e2⟩
   ·rw [e1, h1]; rfl
   ·rw [e2, h1]; simp
def Jh (b : Aa) (p : Ab) (n : Nat) : List Int := ((List.range b.Al.toNat).filter λ i => (A7 b p).getD i 0 == (A7 b p).getD n 0).map λ (i : Nat) => (i : Int)
theorem Ayk {b : Aa} (h : Au b) {p : Ab} (hp : As b p) {n : Nat} (hn : n < b.Al.toNat) : Alx b p (n : Int) = some (Jh b p n) := by
 have hbu := h.buses
 have hbl := h.brl
 have hncl := hp.ncl
 have hL := yA h p
 refine Ok.eq ?_
 unfold Alx
 refine (Ok.mkI (by omega) (by omega)).bind λ y hy => ?_
 have hyl : y.length = b.Al.toNat := by rw [hy]; simp
 refine (Ok.getB (by omega) (by omega)).bind λ _ _ => (Ok.setI (by omega) (by omega)).bind λ z hz => ?_
 rw [az] at hz
 have hzl : z.length = b.Al.toNat := by rw [hz]; simpa using hyl
 have hzn : z.getD n false = true := by rw [hz]; simp [List.getD, hyl, hn]
 have hzg : Got (B7 b p) n z := by
  intro i hi e
  have hiy : i < y.length := by omega
  rw [hz, Ayh hiy] at e
  simp only [aF, decide_eq_true_eq] at e
  rcases e with e | e
  ·subst e; exact .refl _ _
  ·rw [hy] at e; simp [List.getD, show i < b.Al.toNat by omega] at e
 clear hz
 refine Ok.andThen (A := λ s => s = K5 (B7 b p) b.Al.toNat z) (B := λ (_ : Unit) => False) ?_ (λ s hs => ?_) (λ _ h => h.elim)
 ·refine Ok.foldI0 (I := λ j s => s = K5 (B7 b p) j z) rfl (λ j x s hx hs => ?_) λ s hs => by rw [hs, hzl]
  unfold Abi
  have hsl : s.length = b.Al.toNat := by rw [hs, Ht, hzl]
  refine (Ok.foldI0 (I := λ k r => r = Gt ((B7 b p).take k) s) (A := λ r => r = Gt (B7 b p) s) (B := λ (_ : Unit) => False) rfl (λ k u r hu hr => ?_) λ r hr => ?_).inner (λ r hr => Ok.next (by rw [hr, hs, Ks])) (λ _ h => h.elim)
  ·have hk := (ab.1 hu).1
   have hcnt : cnt 0 k = (k : Int) := Cz (by omega)
   have hrl : r.length = b.Al.toNat := by rw [hr, Lj, hsl]
   obtain ⟨⟨a0, a1⟩, hkind⟩ := h.br u (af hu)
   obtain ⟨v, hv⟩ : ∃ v, p.Ag[k]? = some v := ⟨_, ae (by omega)⟩
   have hzk : (B7 b p)[k]? = some (u, v) := by unfold B7; rw [List.getElem?_zip_eq_some]; exact ⟨hu, hv⟩
   have hnext : Gt ((B7 b p).take (k + 1)) s = Fw r (u, v) := by
    rw [Bk hzk, Gt, aR, hr]; rfl
   rw [hnext]
   have hB : u.Kind = 1 -> 0 <= u.B /\ u.B < b.Al := λ e => by omega
   unfold Abh
   rw [hcnt, Bl hv]
   by_cases k1 : u.Kind = 1
   ·have h2 := hB k1
    obtain ⟨ga, hga⟩ : ∃ ga, r[u.A.toNat]? = some ga := ⟨_, ae (by omega)⟩
    obtain ⟨gb, hgb⟩ : ∃ gb, r[u.B.toNat]? = some gb := ⟨_, ae (by omega)⟩
    have hda : r.getD u.A.toNat false = ga := by simp [List.getD, hga]
    have hdb : r.getD u.B.toNat false = gb := by simp [List.getD, hgb]
    have ea : getI r u.A = some ga := by have := Bl hga; rwa [aP a0] at this
    have eb : getI r u.B = some gb := by have := Bl hgb; rwa [aP h2.1] at this
    rw [beq_iff_eq.2 k1]
    refine Ok.bind (P := λ w => w = v) (Ok.guard (λ _ => Ok.pure rfl) λ hn => (hn ⟨rfl, trivial⟩).elim) λ w hw => ?_
    subst hw
    cases w with
    | false =>
     refine Ok.bind (P := λ _ => True) (Ok.gT (λ _ => Ok.getB a0 (by omega)) λ _ => trivial) λ _ _ => ?_
     refine Ok.bind (P := λ _ => True) (Ok.gT (λ _ => Ok.getB h2.1 (by omega)) λ _ => trivial) λ _ _ => ?_
     refine Ok.cond (λ hq => by simp [Ul] at hq) (λ _ => Ok.next ?_)
     unfold Fw
     rw [if_neg (by simp)]
    | true =>
     rw [ea, eb]
     refine Ok.bind (P := λ w => w = ga) (Ok.guard (λ _ => Ok.pure rfl) λ hn => (hn ⟨rfl, trivial⟩).elim) λ w hw => ?_
     subst hw
     refine Ok.bind (P := λ x => (w || x) = (w || gb)) (Ok.guard (λ _ => Ok.pure rfl) λ hn => ?_) λ x hx => ?_
     ·cases w with
      | true => rfl
      | false => exact (hn ⟨rfl, rfl, trivial⟩).elim
     have hc8 : Ul u true w x = (w || gb) := by
      unfold Ul
      rw [hx, beq_iff_eq.2 k1]; rfl
     rw [hc8]
     refine Ok.cond (λ hq => ?_) (λ hq => Ok.next ?_)
     ·refine Ok.bind (P := λ _ => True) (Ok.triv rfl) λ _ _ => (Ok.setI a0 (by omega)).bind λ r1 e1 => ?_
      refine (Ok.getB h2.1 (by rw [e1]; simp; omega)).bind λ _ _ => (Ok.setI h2.1 (by rw [e1]; simp; omega)).bind λ r2 e2 => Ok.next ?_
      rw [e2, e1]
      unfold Fw
      rw [if_pos ⟨⟨k1, rfl⟩, by rw [hda, hdb]; exact hq⟩]
     ·unfold Fw
      rw [if_neg (λ e => by have := e.2; rw [hda, hdb, hq] at this; cases this)]
   ·have k0 : (u.Kind == 1) = false := beq_eq_false_iff_ne.2 k1
    rw [k0]
    refine Ok.bind (P := λ _ => True) (Ok.guard (λ hg => absurd hg.1 (by simp)) λ _ => trivial) λ y7 _ => ?_
    refine Ok.bind (P := λ _ => True) (Ok.guard (λ hg => absurd hg.1 (by simp)) λ _ => trivial) λ y9 _ => ?_
    refine Ok.bind (P := λ _ => True) (Ok.guard (λ hg => absurd hg.1 (by simp)) λ _ => trivial) λ y11 _ => ?_
    refine Ok.cond (λ hq => by simp [Ul, k0] at hq) (λ _ => Ok.next ?_)
    unfold Fw
    rw [if_neg (λ e => k1 e.1.1)]
  ·have : b.Ad.length = (B7 b p).length := by unfold B7; rw [List.length_zip]; omega
   rw [hr, this, aD]
 ·have hsl : s.length = b.Al.toNat := by rw [hs, Ht, hzl]
  have hval : ∀ i, i < b.Al.toNat -> s.getD i false = ((A7 b p).getD i 0 == (A7 b p).getD n 0) := by
   intro i hi
   rw [bz, beq_iff_eq, Gj h p hi hn]
   have hg : ∀ r, Got (B7 b p) n (K5 (B7 b p) r z) := by
    intro r
    induction r with
    | zero => exact hzg
    | succ r ih =>
     rw [Ks]
     refine jX (m := b.Al.toNat) _ _ (by rw [Ht, hzl]) (λ y hy => ⟨hy, λ hk => ?_⟩) ih
     have := h.br y.1 (b9 hy).1
     unfold R9 at this
     omega
   constructor
   ·intro e
    rw [hs] at e
    exact (hg _ i (by rw [Ht, hzl]; exact hi) e).symm
   ·intro c
    rw [hs]
    exact Ap9 hL hzl hzn _ i hi (uF hL hn c.symm)
  refine Ok.andThen (A := λ y => y = Jh b p n) (B := λ (_ : Unit) => False) ?_ (λ y hy => Ok.pure hy) (λ _ h => h.elim)
  refine Ok.foldI0 (I := λ j y => y = ((List.range j).filter λ i => (A7 b p).getD i 0 == (A7 b p).getD n 0).map λ (i : Nat) => (i : Int)) rfl (λ j x y hx hy => ?_) λ y hy => ?_
  ·have hj := (ab.1 hx).1
   have hcnt : cnt 0 j = (j : Int) := Cz (by omega)
   have hv := hval j (by omega)
   have hxd : s.getD j false = x := by simp [List.getD, hx]
   rw [hxd] at hv
   have hyl2 : y.length <= j := by rw [hy]; exact Dn _ j
   rw [Fo, ← hy]
   unfold Abg
   refine Ok.cond (λ hq => ?_) (λ hq => Ok.next ?_)
   ·refine (Ok.appI (by simp; omega)).bind λ w hw => Ok.next ?_
    rw [hw, hcnt, if_pos (by rw [← hv]; exact hq)]
   ·rw [if_neg (by rw [← hv, hq]; simp), aS]
  ·rw [hy, hsl]; rfl
def ofZ (b : Aa) (k i : Int) : List (Aj × Nat) := b.Ad.zipIdx.filter λ z => z.1.Kind == k && z.1.B == i
theorem Aqj {b : Aa} {k : Int} (hk : k ≠ 1) (i : Int) : (ofL b λ x => L8 k i x) = (ofZ b k i).map λ z => (z.2 : Int) := by
 unfold ofL ofZ
 congr 1
 exact List.filter_congr λ z _ => Aym k hk i z.1
theorem Wc {b : Aa} {k i : Int} {z : Aj × Nat} (h : z ∈ ofZ b k i) : b.Ad[z.2]? = some z.1 := by
 have := (ax.1 h).1
 rwa [cF] at this
theorem Afr (q : Aj -> Bool) (C : List Bool) : ∀ (l : List Aj) (c : List Bool) (k : Nat), C.drop k = c -> l.length = c.length ->
  (((l.zipIdx k).filter λ z => q z.1).find? λ z => C.getD z.2 false).map (·.1) = ((l.zip c).find? λ z => q z.1 && z.2).map (·.1)
 | [], _, _, _, _ => by simp
 | x :: l, [], _, _, h => by simp at h
 | x :: l, v :: c, k, hd, h => by
  have hv : C[k]? = some v := by
   have := congrArg (·[0]?) hd
   simpa [al] using this
  have hd' : C.drop (k + 1) = c := by rw [← bI, hd]; rfl
  have ih := Afr q C l c (k + 1) hd' (by simpa using h)
  have hg : C.getD k false = v := by simp [List.getD, hv]
  simp only [List.zipIdx_cons, bk, bx, cC]
  cases hq : q x with
  | false => simpa only [Bool.false_and, bN, if_false] using ih
  | true =>
   simp only [if_true, cC, hg, a9]
   cases v with
   | false => exact ih
   | true => rfl
theorem Ahp {b : Aa} {p : Ab} (hc : p.Ag.length = b.Ad.length) (k i : Int) : Ed b p k i = ((ofZ b k i).find? λ z => p.Ag.getD z.2 false).map (·.1.A) := by
 have := Afr (λ x => x.Kind == k && x.B == i) p.Ag b.Ad p.Ag 0 rfl (by omega)
 unfold Ed ofZ
 have h2 := congrArg (Option.map (·.A)) this
 simp only [Option.map_map] at h2
 exact h2.symm
theorem uG {b : Aa} {p : Ab} (hc : p.Ag.length = b.Ad.length) {k i : Int} {z : Aj × Nat} (h : z ∈ ofZ b k i) : p.Ag[z.2]? = some (p.Ag.getD z.2 false) := by
 have := (ab.1 (Wc h)).1
 rw [ae (by omega)]
 simp [List.getD, ae (show z.2 < p.Ag.length by omega)]
theorem Ga {b : Aa} (h : Au b) {p : Ab} (hp : As b p) (i : Int) : F27 b p i = some (D2 (Dc b p i)) := by
 have hn := hp.nso
 have hc := hp.ncl
 refine Ok.eq ?_
 unfold F27
 rw [Ix h hp]
 simp only [aa]
 by_cases hi : 0 <= i /\ i < b.Ac.length
 ·obtain ⟨x, hx⟩ : ∃ x, p.Ac[i.toNat]? = some x := ⟨_, ae (by omega)⟩
  have hg : getI p.Ac i = some x := by have := Bl hx; rwa [aP hi.1] at this
  have hd : p.Ac.getD i.toNat default = x := by simp [List.getD, hx]
  have hcond : ((((0 : Int) != 0) || (decide (i < 0))) || (decide (i >= (b.Ac.length : Int)))) = false := by
   rw [bX]; intro e; simp at e; omega
  rw [hcond, hg]
  refine Ok.bind (P := λ y => y = x) (Ok.guard (λ _ => Ok.pure rfl) λ hn => (hn ⟨rfl, trivial⟩).elim) λ y hy => ?_
  subst hy
  refine Ok.cond (λ hq => Ok.pure ?_) (λ hq => ?_)
  ·simp only [Afa, hcond, aY, bne_iff_ne, ne_eq] at hq
   unfold Dc
   rw [if_neg (λ e => by rw [hd] at e; exact hq e.2.2)]; rfl
  ·simp only [Afa, hcond, aY, bne_eq_false_iff_eq] at hq
   have hcon : Dc b p i = Ed b p 2 i := by
    unfold Dc
    rw [if_pos ⟨hi.1, by omega, by rw [hd]; exact hq⟩]
   rw [Ag9 h, Aqj (by decide), hcon, Ahp hc]
   simp only [aa]
   obtain ⟨n, rfl⟩ : ∃ n : Nat, i = (n : Int) := ⟨i.toNat, by omega⟩
   have hlen := zK (b := b) (k := 2) (by decide) n
   rw [Aqj (by decide), h.one n (by omega), aw] at hlen
   obtain ⟨z, hz⟩ := List.length_eq_one_iff.1 hlen
   have hzm : z ∈ ofZ b 2 (n : Int) := by rw [hz]; exact ai
   have hcz := uG hc hzm
   have hbz := Wc hzm
   rw [hz]
   show Ok ((getI [(z.2 : Int)] 0).bind _) _
   rw [show getI [(z.2 : Int)] 0 = some (z.2 : Int) from rfl]
   simp only [aa, Bl hcz, cC, List.find?_nil]
   cases hv : p.Ag.getD z.2 false with
   | false => exact Ok.pure rfl
   | true =>
    simp only [aZ, cond_false, Bl hbz, aa]
    exact Ok.pure rfl
 ·refine Ok.bind (P := λ _ => True) (Ok.guard (λ hg => ?_) λ _ => trivial) λ y _ => ?_
  ·have := hg.1
   simp at this; omega
  refine Ok.cond (λ hq => Ok.pure ?_) (λ hq => ?_)
  ·unfold Dc
   rw [if_neg (λ e => hi (by omega))]; rfl
  ·simp [Afa] at hq; omega
theorem Azn {b : Aa} (h : Au b) {p : Ab} (hp : As b p) {i : Int} (h0 : 0 <= i) (h1 : i < b.Af.length) : F48 b p i = some (D2 (Ed b p 3 i)) := by
 have hc := hp.ncl
 refine Ok.eq ?_
 unfold F48
 rw [Ix h hp]
 simp only [aa]
 refine Ok.cond (λ hq => ?_) (λ _ => ?_)
 ·simp [A1w] at hq; omega
 rw [Ag9 h, Aqj (by decide), Ahp hc]
 simp only [aa]
 have key : ∀ (m : List (Aj × Nat)) (k : Nat), (∀ z, z ∈ m -> b.Ad[z.2]? = some z.1 /\ p.Ag[z.2]? = some (p.Ag.getD z.2 false)) ->
   foldI (vF b p) (m.map λ z => (z.2 : Int)) k () = match m.find? λ z => p.Ag.getD z.2 false with
    | some z => some (.ret (z.1.A, true))
    | none => some (.next ()) := by
  intro m
  induction m with
  | nil => intro k _; rfl
  | cons z m ih =>
   intro k hm
   obtain ⟨e1, e2⟩ := hm z ai
   simp only [bB, foldI, vF, Bl e1, Bl e2, aa, cC]
   cases p.Ag.getD z.2 false with
   | true => rfl
   | false => exact ih (k + 1) λ y hy => hm y (ah _ hy)
 rw [key _ 0 λ z hz => ⟨Wc hz, uG hc hz⟩]
 cases (ofZ b 3 i).find? λ z => p.Ag.getD z.2 false with
 | none => exact Ok.pure rfl
 | some z => exact Ok.pure rfl
theorem qQ (l : List Int) (x : Int) : F55 l x = some (l.any (· == x)) := by
 unfold F55
 have : ∀ (l : List Int) (k : Nat), foldI (vE x) l k () = bif l.any (· == x) then some (.ret true) else some (.next ()) := by
  intro l
  induction l with
  | nil => intro k; rfl
  | cons y l ih =>
   intro k
   simp only [foldI, vE, List.any_cons]
   cases hy : (y == x) with
   | true => rfl
   | false => simp only [cond_false, aY]; exact ih (k + 1)
 rw [this]
 cases l.any (· == x) <;> rfl
theorem Agm {b : Aa} {p : Ab} {n : Nat} {a : Int} (h0 : 0 <= a) (h1 : a < b.Al) : (Jh b p n).any (· == a) = ((A7 b p).getD a.toNat 0 == (A7 b p).getD n 0) := by
 rw [bz, List.any_eq_true]
 constructor
 ·rintro ⟨x, hx, e⟩
  rw [beq_iff_eq] at e; subst e
  obtain ⟨i, hi, rfl⟩ := aq.1 hx
  rw [az]
  exact (ax.1 hi).2
 ·intro e
  refine ⟨a, aq.2 ⟨a.toNat, ax.2 ⟨aV.2 (by omega), e⟩, by omega⟩, by simp⟩
theorem E0 {b : Aa} (h : Au b) (p : Ab) {n : Nat} (hn : n < b.Al.toNat) : 0 <= (A7 b p).getD n 0 /\ ((A7 b p).getD n 0).toNat <= n /\ (((A7 b p).getD n 0).toNat : Int) = (A7 b p).getD n 0 := by
 have := T4 h p n _ (A5t (by rw [Is]; exact hn))
 omega
theorem An6 {b : Aa} (h : Au b) {p : Ab} (hp : As b p) {n : Nat} (hn : n < b.Al.toNat) : F54 b p (n : Int) = some (isl b p ((A7 b p).getD n 0).toNat, true) := by
 have hso := h.sol
 have hco := h.col
 have hg := E0 h p hn
 refine Ok.eq ?_
 unfold F54
 rw [Ix h hp]
 simp only [aa]
 refine Ok.cond (λ hc => ?_) (λ _ => ?_)
 ·simp [A1r] at hc; omega
 rw [Ayk h hp hn]
 simp only [aa]
 refine Ok.andThen (A := λ s => s.2 = Fl b p b.Ac.length ((A7 b p).getD n 0).toNat) (B := λ (_ : Unit) => False) ?_ (λ s hs => ?_) (λ _ h => h.elim)
 ·refine Ok.whileN (λ s => (0 <= s.1 /\ s.1 <= (b.Ac.length : Int)) /\ s.2 = Fl b p s.1.toNat ((A7 b p).getD n 0).toNat) (λ s => ((b.Ac.length : Int) - s.1).toNat) _ _ ?_ ?_ ?_
  ·exact ⟨by dsimp only; omega, rfl⟩
  ·dsimp only; omega
  ·rintro ⟨i, s⟩ ⟨⟨g1, g2⟩, g3⟩
   dsimp only at g1 g2 g3
   unfold Aku A1q
   dsimp only
   have hsl : s.length <= i.toNat := by rw [g3]; exact Dn _ _
   refine Ok.cond (λ hq => ?_) (λ hq => Ok.brk ?_)
   ·simp only [decide_eq_true_eq] at hq
    have e1 : w64 (i + 1) = i + 1 := A8 (by omega)
    have e2 : (i + 1).toNat = i.toNat + 1 := by omega
    have e3 : ((i.toNat : Nat) : Int) = i := by omega
    rw [e1, Ga h hp]
    simp only [aa, qQ]
    have hnext : Fl b p (i.toNat + 1) ((A7 b p).getD n 0).toNat = s ++ if (Fm b p (Dc b p i) == some (((A7 b p).getD n 0).toNat : Int)) = true then [i] else [] := by
     unfold Fl at g3 ⊢
     rw [Fo, ← g3, e3]
    have hskip : (Fm b p (Dc b p i) == some (((A7 b p).getD n 0).toNat : Int)) = false -> Ok (some (.next (i + 1, s)) : Option (Ctl (Int × List Int) Unit)) (Fk (λ s' => ((0 <= s'.1 /\ s'.1 <= (b.Ac.length : Int)) /\ s'.2 = Fl b p s'.1.toNat ((A7 b p).getD n 0).toNat) /\ ((b.Ac.length : Int) - s'.1).toNat < ((b.Ac.length : Int) - i).toNat) (λ s => s.2 = Fl b p b.Ac.length ((A7 b p).getD n 0).toNat) (λ _ => False)) := by
     intro hf
     refine Ok.next ⟨⟨by dsimp only; omega, ?_⟩, by dsimp only; omega⟩
     dsimp only
     rw [e2, hnext, hf]; simp
    cases hco : Dc b p i with
    | none =>
     refine Ok.bind (P := λ _ => True) (Ok.guard (λ hg => absurd hg.1 (by simp [D2])) λ _ => trivial) λ y _ => ?_
     refine Ok.cond (λ hq => by simp [D2] at hq) (λ _ => hskip (by rw [hco]; rfl))
    | some a =>
     have ha := E7 h hco
     refine Ok.bind (P := λ y => y = (Jh b p n).any (· == a)) (Ok.guard (λ _ => Ok.pure rfl) λ hn => (hn ⟨rfl, trivial⟩).elim) λ y hy => ?_
     rw [Agm ha.1 ha.2] at hy
     have hgr : (Fm b p (Dc b p i) == some (((A7 b p).getD n 0).toNat : Int)) = ((A7 b p).getD a.toNat 0 == (A7 b p).getD n 0) := by
      rw [hco, hg.2.2]; rfl
     refine Ok.cond (λ hq => ?_) (λ hq => ?_)
     ·simp only [D2, a9] at hq
      refine (Ok.appI (by simp; omega)).bind λ w hw => Ok.next ⟨⟨by dsimp only; omega, ?_⟩, by dsimp only; omega⟩
      dsimp only
      rw [e2, hnext, hgr, ← hy, hq, hw]; rfl
     ·simp only [D2, a9] at hq
      exact hskip (by rw [hgr, ← hy, hq])
   ·simp only [decide_eq_false_iff_not] at hq
    dsimp only
    rw [g3]
    have : i.toNat = b.Ac.length := by omega
    rw [this]
 ·refine Ok.andThen (A := λ s => s.2 = Gw b p b.Af.length ((A7 b p).getD n 0).toNat) (B := λ (_ : Unit) => False) ?_ (λ t ht => Ok.pure ?_) (λ _ h => h.elim)
  ·refine Ok.whileN (λ s => (0 <= s.1 /\ s.1 <= (b.Af.length : Int)) /\ s.2 = Gw b p s.1.toNat ((A7 b p).getD n 0).toNat) (λ s => ((b.Af.length : Int) - s.1).toNat) _ _ ?_ ?_ ?_
   ·exact ⟨by dsimp only; omega, rfl⟩
   ·dsimp only; omega
   ·rintro ⟨i, s⟩ ⟨⟨g1, g2⟩, g3⟩
    dsimp only at g1 g2 g3
    unfold Akt A1p
    dsimp only
    have hsl : s.length <= i.toNat := by rw [g3]; exact Dn _ _
    refine Ok.cond (λ hq => ?_) (λ hq => Ok.brk ?_)
    ·simp only [decide_eq_true_eq] at hq
     have e1 : w64 (i + 1) = i + 1 := A8 (by omega)
     have e2 : (i + 1).toNat = i.toNat + 1 := by omega
     have e3 : ((i.toNat : Nat) : Int) = i := by omega
     rw [e1, Azn h hp g1 hq]
     simp only [aa, qQ]
     have hnext : Gw b p (i.toNat + 1) ((A7 b p).getD n 0).toNat = s ++ if (Fm b p (Ed b p 3 i) == some (((A7 b p).getD n 0).toNat : Int)) = true then [i] else [] := by
      unfold Gw at g3 ⊢
      rw [Fo, ← g3, e3]
     have hskip : (Fm b p (Ed b p 3 i) == some (((A7 b p).getD n 0).toNat : Int)) = false -> Ok (some (.next (i + 1, s)) : Option (Ctl (Int × List Int) Unit)) (Fk (λ s' => ((0 <= s'.1 /\ s'.1 <= (b.Af.length : Int)) /\ s'.2 = Gw b p s'.1.toNat ((A7 b p).getD n 0).toNat) /\ ((b.Af.length : Int) - s'.1).toNat < ((b.Af.length : Int) - i).toNat) (λ s => s.2 = Gw b p b.Af.length ((A7 b p).getD n 0).toNat) (λ _ => False)) := by
      intro hf
      refine Ok.next ⟨⟨by dsimp only; omega, ?_⟩, by dsimp only; omega⟩
      dsimp only
      rw [e2, hnext, hf]; simp
     cases hco : Ed b p 3 i with
     | none =>
      refine Ok.bind (P := λ _ => True) (Ok.guard (λ hg => absurd hg.1 (by simp [D2])) λ _ => trivial) λ y _ => ?_
      refine Ok.cond (λ hq => by simp [D2] at hq) (λ _ => hskip (by rw [hco]; rfl))
     | some a =>
      have ha := Yp h hco
      refine Ok.bind (P := λ y => y = (Jh b p n).any (· == a)) (Ok.guard (λ _ => Ok.pure rfl) λ hn => (hn ⟨rfl, trivial⟩).elim) λ y hy => ?_
      rw [Agm ha.1 ha.2] at hy
      have hgr : (Fm b p (Ed b p 3 i) == some (((A7 b p).getD n 0).toNat : Int)) = ((A7 b p).getD a.toNat 0 == (A7 b p).getD n 0) := by
       rw [hco, hg.2.2]; rfl
      refine Ok.cond (λ hq => ?_) (λ hq => ?_)
      ·simp only [D2, a9] at hq
       refine (Ok.appI (by simp; omega)).bind λ w hw => Ok.next ⟨⟨by dsimp only; omega, ?_⟩, by dsimp only; omega⟩
       dsimp only
       rw [e2, hnext, hgr, ← hy, hq, hw]; rfl
      ·simp only [D2, a9] at hq
       exact hskip (by rw [hgr, ← hy, hq])
    ·simp only [decide_eq_false_iff_not] at hq
     dsimp only
     rw [g3]
     have : i.toNat = b.Af.length := by omega
     rw [this]
  ·rw [hs, ht]
   unfold isl D6 Jh
   rw [hg.2.2]
def Hn (b : Aa) (p : Ab) (f : Nat) : Bool := (A7 b p).getD f 0 == (f : Int)
theorem H6 {b : Aa} (h : Au b) (p : Ab) {n : Nat} (hn : n < b.Al.toNat) : Hn b p ((A7 b p).getD n 0).toNat = true := by
 have hg := E0 h p hn
 unfold Hn
 rw [beq_iff_eq, hg.2.2]
 have hm : ((A7 b p).getD n 0).toNat < b.Al.toNat := by omega
 have hL := yA h p
 have hself : C8 (B7 b p) ((A7 b p).getD n 0).toNat n := by
  have hlab : ∀ (xs : List Nat) (s : List Int), s.length = b.Al.toNat -> Lab (B7 b p) s -> Lab (B7 b p) (xs.foldl (λ s _ => Dh (b.Ad.zip p.Ag) s) s) := by
   intro xs
   induction xs with
   | nil => intro s _ h; exact h
   | cons x xs ih =>
    intro s hl h2
    refine ih _ (by rw [Fj]; exact hl) (Q7 _ s hl (λ z hz => ⟨hz, λ hk => ?_⟩) h2)
    have := h.br z.1 (b9 hz).1
    unfold R9 at this
    omega
  refine hlab (List.range b.Al.toNat) (Dg b.Al.toNat) (by simp [Dg]) ?_ n ?_
  ·intro k hk
   rw [Tl (by simpa [Dg] using hk)]
   exact .refl _ k
  ·have := Is b p
   unfold A7 at this
   rw [this]; exact hn
 exact (Gj h p hm hn).2 hself
theorem Azl {b : Aa} (h : Au b) (p : Ab) {f : Nat} (hf : f < b.Al.toNat) : I1 (isl b p f) = Hn b p f := by
 rw [bz]
 unfold I1 isl D6
 simp only [bg, beq_eq_false_iff_ne, ne_eq, aw]
 constructor
 ·intro e
  have hne : (List.range b.Al.toNat).filter (λ i => (A7 b p).getD i 0 == (f : Int)) ≠ [] := λ e2 => e (by rw [e2]; rfl)
  obtain ⟨i, hi⟩ := List.exists_mem_of_ne_nil _ hne
  obtain ⟨h1, h2⟩ := ax.1 hi
  rw [beq_iff_eq] at h2
  have := H6 h p (aV.1 h1)
  rw [h2, az] at this
  exact this
 ·intro e e2
  have hm : f ∈ (List.range b.Al.toNat).filter (λ i => (A7 b p).getD i 0 == (f : Int)) := ax.2 ⟨aV.2 hf, e⟩
  have := List.length_pos_iff.2 (List.ne_nil_of_mem hm)
  omega
def Kv (b : Aa) (p : Ab) (n : Nat) : List Nat := (List.range n).filter (Hn b p)
theorem Gv {b : Aa} (h : Au b) (p : Ab) : Bm b p = (Kv b p b.Al.toNat).map (isl b p) := by
 unfold Bm Kv
 rw [List.filter_map]
 congr 1
 exact List.filter_congr λ f hf => Azl h p (aV.1 hf)
theorem Atn {b : Aa} (h : Au b) (p : Ab) {n : Nat} (hn : n < b.Al.toNat) : ∃ m : Nat, (Jh b p n)[0]? = some (m : Int) /\ (m = n ↔ Hn b p n = true) := by
 have hg := E0 h p hn
 have hm : ((A7 b p).getD n 0).toNat < b.Al.toNat := by omega
 have hgg := H6 h p hn
 unfold Hn at hgg
 rw [beq_iff_eq, hg.2.2] at hgg
 have hfind : (List.range b.Al.toNat).find? (λ i => (A7 b p).getD i 0 == (A7 b p).getD n 0) = some ((A7 b p).getD n 0).toNat := by
  rw [List.find?_range_eq_some]
  refine ⟨by rw [beq_iff_eq]; exact hgg, aV.2 hm, λ j hj => ?_⟩
  simp only [bg, beq_eq_false_iff_ne, ne_eq]
  intro e
  have := E0 h p (n := j) (by omega)
  omega
 refine ⟨((A7 b p).getD n 0).toNat, ?_, ?_⟩
 ·unfold Jh
  rw [aB, ← List.head?_eq_getElem?, List.head?_filter, hfind]; rfl
 ·unfold Hn
  rw [beq_iff_eq]; omega
theorem Ahv {b : Aa} (h : Au b) {p : Ab} (hp : As b p) : F25 b p = some (Bm b p) := by
 have hbu := h.buses
 rw [Gv h]
 refine Ok.eq ?_
 unfold F25
 rw [Ix h hp]
 simp only [aa]
 refine Ok.cond (λ hc => by simp at hc) (λ _ => ?_)
 refine Ok.andThen (A := λ s => s.2 = (Kv b p b.Al.toNat).map (isl b p)) (B := λ (_ : Unit) => False) ?_ (λ s hs => Ok.pure hs) (λ _ h => h.elim)
 refine Ok.whileN (λ s => (0 <= s.1 /\ s.1 <= b.Al) /\ s.2 = (Kv b p s.1.toNat).map (isl b p)) (λ s => (b.Al - s.1).toNat) _ _ ?_ ?_ ?_
 ·exact ⟨by dsimp only; omega, rfl⟩
 ·dsimp only; omega
 ·rintro ⟨i, s⟩ ⟨⟨g1, g2⟩, g3⟩
  dsimp only at g1 g2 g3
  unfold Ak9
  dsimp only
  refine Ok.cond (λ hq => ?_) (λ hq => Ok.brk ?_)
  ·simp only [decide_eq_true_eq] at hq
   obtain ⟨n, rfl⟩ : ∃ n : Nat, i = (n : Int) := ⟨i.toNat, by omega⟩
   have hn : n < b.Al.toNat := by omega
   have e1 : w64 ((n : Int) + 1) = (n : Int) + 1 := A8 (by omega)
   have e2 : ((n : Int) + 1).toNat = n + 1 := by omega
   have hg := E0 h p hn
   obtain ⟨m, hm, hmn⟩ := Atn h p hn
   have hbuses : (isl b p ((A7 b p).getD n 0).toNat).Al = Jh b p n := by
    unfold isl D6 Jh
    rw [hg.2.2]
   rw [az] at g3
   have hsl : s.length <= n := by
    rw [g3, aw]
    exact aA (bp _ _) (by simp)
   have hnext : Kv b p (n + 1) = Kv b p n ++ if Hn b p n = true then [n] else [] := by
    unfold Kv
    rw [bR, bj]
    congr 1
    cases hq : Hn b p n <;> simp [hq]
   rw [e1, An6 h hp hn]
   simp only [aa, hbuses]
   have hg0 : getI (Jh b p n) 0 = some (m : Int) := Bl (j := 0) hm
   rw [hg0]
   simp only [aa]
   refine Ok.cond (λ hq => ?_) (λ hq => Ok.next ⟨⟨by dsimp only; omega, ?_⟩, by dsimp only; omega⟩)
   ·simp only [beq_iff_eq] at hq
    have hle := hmn.1 (by omega)
    refine (Ok.appI (by simp; omega)).bind λ w hw => Ok.next ⟨⟨by dsimp only; omega, ?_⟩, by dsimp only; omega⟩
    dsimp only
    have hgn : ((A7 b p).getD n 0).toNat = n := by
     unfold Hn at hle
     rw [beq_iff_eq] at hle; omega
    rw [e2, hnext, if_pos hle, hw, g3, bM, hgn]; rfl
   ·simp only [beq_eq_false_iff_ne, ne_eq] at hq
    have hle : ¬ Hn b p n = true := λ e => hq (by rw [hmn.2 e])
    dsimp only
    rw [e2, hnext, if_neg hle, aS, g3]
  ·simp only [decide_eq_false_iff_not] at hq
   dsimp only
   have : i.toNat = b.Al.toNat := by omega
   rw [g3, this]
theorem Amd {b : Aa} (h : Au b) {p : Ab} (hp : As b p) : Alu b p = some (⟨p.Ag, C6 b p, p.Aq, p.Ao⟩, 0) := by
 have hn := hp.nso
 refine Ok.eq ?_
 unfold Alu
 rw [Ix h hp]
 simp only [aa]
 refine Ok.cond (λ hc => by simp at hc) (λ _ => ?_)
 refine Ok.bind (P := λ y => y = ⟨p.Ag, C6 b p, p.Aq, p.Ao⟩) ?_ λ y hy => Ok.pure (by rw [hy])
 unfold As6
 rw [A3c h hp, Ahv h hp]
 simp only [aa]
 refine Ok.andThen (A := λ s => s = C6 b p) (B := λ (_ : Unit) => False) ?_ (λ s hs => Ok.pure (by rw [hs])) (λ _ h => h.elim)
 refine Ok.foldI0 (I := λ j s => s = ((Bm b p).take j).foldl (Cw p) p.Ac) rfl (λ j x s hx hs => ?_) λ s hs => ?_
 ·have hi := Pw (af hx)
  have hl : s.length = p.Ac.length := by rw [hs, Kw]
  have hnext : ((Bm b p).take (j + 1)).foldl (Cw p) p.Ac = Cw p s x := by rw [Bk hx, aR, ← hs]; rfl
  rw [hnext]
  unfold Abf
  cases hsrc : x.Ac with
  | nil => exact Ok.next (by unfold Cw; rw [hsrc])
  | cons m l =>
   have hm := hi m (by rw [hsrc]; exact ai)
   obtain ⟨u, hu⟩ : ∃ u, p.Ac[m.toNat]? = some u := ⟨_, ae (by omega)⟩
   have hgu : getI p.Ac m = some u := by have := Bl hu; rwa [aP hm.1] at this
   have hd : p.Ac.getD m.toNat default = u := by simp [List.getD, hu]
   have hf : Cw p s x = Ek u (m :: l) s := by unfold Cw; rw [hsrc]; simp only [hd]
   rw [hf]
   have hin : ∀ k, k ∈ m :: l -> 0 <= k /\ k < p.Ac.length := λ k hk => by
    have := hi k (by rw [hsrc]; exact hk)
    omega
   refine (Ok.foldI0 (I := λ k r => r = Ek u ((m :: l).take k) s) (A := λ r => r = Ek u (m :: l) s) (B := λ (_ : Unit) => False) rfl (λ k n r hk hr => ?_) λ r hr => by rw [hr, aD]).inner (λ r hr => Ok.next hr) (λ _ h => h.elim)
   have hnk := hin n (af hk)
   have hrl : r.length = p.Ac.length := by rw [hr, G2, hl]
   unfold Abe
   rw [hsrc, show getI (m :: l) 0 = some m from rfl]
   simp only [aa, hgu]
   refine (Ok.getI hnk.1 (by omega)).bind λ v hv => (Ok.setI hnk.1 (by omega)).bind λ r1 e1 => ?_
   have hvg : r1[n.toNat]? = some (⟨v.State, v.Since, u.An, v.Phase⟩ : Ae) := by rw [e1, bA (by omega)]
   refine Ok.bind (P := λ w => w = (⟨v.State, v.Since, u.An, v.Phase⟩ : Ae)) ((Ok.getI hnk.1 (by rw [e1]; simp; omega)).mono λ w hw => by rw [hvg] at hw; cases hw; rfl) λ w hw => ?_
   refine (Ok.setI hnk.1 (by rw [e1]; simp; omega)).bind λ r2 e2 => Ok.next ?_
   have hdv : r.getD n.toNat default = v := by simp [List.getD, hv]
   rw [Abv hk, ← hr, hdv, e2, e1, hw, List.set_set]; rfl
 ·rw [aD] at hs; exact hs
theorem Ayf {ss : List Ae} {n : Nat} (h : n < ss.length) : ss.set n (ss.getD n default) = ss := by
 apply bE
 intro i
 rw [ao]
 split
 ·rename_i e; subst e
  simp [List.getD, ae h]
 ·rfl
theorem Abw {B3 : Ae} : ∀ (idx : List Int) (ss : List Ae), (∀ i, i ∈ idx -> i.toNat < ss.length /\ X9 B3 (ss.getD i.toNat default) = ss.getD i.toNat default) -> Ek B3 idx ss = ss
 | [], _, _ => rfl
 | i :: idx, ss, h => by
  obtain ⟨h1, h2⟩ := h i ai
  show Ek B3 idx (ss.set i.toNat (X9 B3 (ss.getD i.toNat default))) = ss
  rw [h2, Ayf h1]
  exact Abw idx ss λ j hj => h j (ah _ hj)
theorem M_ {ss : List Ae} {m n : Nat} {y : Ae} : (ss.set m y).getD n default = if m = n /\ m < ss.length then y else ss.getD n default := by
 unfold List.getD
 rw [ao]
 by_cases e : m = n
 ·subst e
  by_cases hl : m < ss.length
  ·simp [hl]
  ·simp [hl]
 ·simp [e]
theorem Lx (B3 : Ae) : ∀ (idx : List Int) (ss : List Ae) (n : Nat), ((Ek B3 idx ss).getD n default).State = (ss.getD n default).State
 | [], _, _ => rfl
 | i :: idx, ss, n => by
  show ((Ek B3 idx _).getD n default).State = _
  rw [Lx B3 idx, M_]
  split
  ·rename_i e; rw [← e.1]; rfl
  ·rfl
theorem Yd {B3 : Ae} : ∀ (idx : List Int) (ss : List Ae) {n : Nat}, (∀ i, i ∈ idx -> i.toNat ≠ n) -> (Ek B3 idx ss).getD n default = ss.getD n default
 | [], _, _, _ => rfl
 | i :: idx, ss, n, h => by
  show (Ek B3 idx _).getD n default = _
  rw [Yd idx _ (λ j hj => h j (ah _ hj)), M_, if_neg (λ e => h i ai e.1)]
theorem Amx {B3 : Ae} : ∀ (idx : List Int) (ss : List Ae) {n : Nat}, n < ss.length -> (∃ i, i ∈ idx /\ i.toNat = n) -> ((Ek B3 idx ss).getD n default).An = B3.An /\ ((Ek B3 idx ss).getD n default).Phase = B3.Phase
 | [], _, _, _, h => by obtain ⟨_, h, _⟩ := h; cases h
 | i :: idx, ss, n, hn, h => by
  by_cases hr : ∃ j, j ∈ idx /\ j.toNat = n
  ·exact Amx idx _ (by simpa using hn) hr
  ·have hi : i.toNat = n := by
    obtain ⟨j, hj, e⟩ := h
    rcases ag.1 hj with rfl | hj
    ·exact e
    ·exact absurd ⟨j, hj, e⟩ hr
   have : (Ek B3 (i :: idx) ss).getD n default = X9 B3 (ss.getD i.toNat default) := by
    show (Ek B3 idx _).getD n default = _
    rw [Yd idx _ (λ j hj e => hr ⟨j, hj, e⟩), M_, if_pos ⟨hi, by omega⟩]
   rw [this]; exact ⟨rfl, rfl⟩
def Du (b : Aa) (p : Ab) : Prop := ∀ x, x ∈ Bm b p -> ∀ i j, i ∈ x.Ac -> j ∈ x.Ac ->
 (p.Ac.getD i.toNat default).An = (p.Ac.getD j.toNat default).An /\ (p.Ac.getD i.toNat default).Phase = (p.Ac.getD j.toNat default).Phase
theorem T7 {b : Aa} {p : Ab} (hn : p.Ac.length = b.Ac.length) (h : Du b p) : C6 b p = p.Ac := by
 have key : ∀ l : List Ai, (∀ x, x ∈ l -> x ∈ Bm b p) -> l.foldl (Cw p) p.Ac = p.Ac := by
  intro l
  induction l with
  | nil => intro _; rfl
  | cons x l ih =>
   intro hl
   have hx := hl x ai
   have hst : Cw p p.Ac x = p.Ac := by
    unfold Cw
    split
    ·rfl
    ·rename_i i r e
     refine Abw _ _ λ j hj => ?_
     have hj2 := Pw hx j hj
     have ha := h x hx i j (by rw [e]; exact ai) hj
     refine ⟨by omega, ?_⟩
     unfold X9
     rw [ha.1, ha.2]
   rw [bF, hst]
   exact ih λ y hy => hl y (ah _ hy)
 exact key _ λ _ hx => hx
theorem Amc (p : Ab) (s : List Ae) (x : Ai) (n : Nat) : ((Cw p s x).getD n default).State = (s.getD n default).State := by
 unfold Cw
 split
 ·rfl
 ·exact Lx _ _ _ _
theorem Lm (b : Aa) (p : Ab) (n : Nat) : ((C6 b p).getD n default).State = (p.Ac.getD n default).State := by
 have key : ∀ (l : List Ai) (s : List Ae), ((l.foldl (Cw p) s).getD n default).State = (s.getD n default).State := by
  intro l
  induction l with
  | nil => intro s; rfl
  | cons x l ih => intro s; rw [bF, ih, Amc]
 exact key _ _
theorem Aew {b : Aa} {p q : Ab} (hc : q.Ag = p.Ag) (hl : q.Ac.length = p.Ac.length) (hs : ∀ n : Nat, (q.Ac.getD n default).State = (p.Ac.getD n default).State) : Bm b q = Bm b p := by
 have hled : ∀ k i, Ed b q k i = Ed b p k i := λ k i => by unfold Ed; rw [hc]
 have hgr : A7 b q = A7 b p := by unfold A7; rw [hc]
 have hcon : ∀ i, Dc b q i = Dc b p i := λ i => by unfold Dc; rw [hled, hl, hs]
 have hgo : ∀ o, Fm b q o = Fm b p o := λ o => by unfold Fm; rw [hgr]
 have hisl : isl b q = isl b p := by
  funext f
  unfold isl D6 Fl Gw
  simp only [hgr, hled, hcon, hgo]
 unfold Bm
 rw [hisl]
theorem I6 {b : Aa} {p : Ab} {f : Nat} {i : Int} : i ∈ (isl b p f).Ac ↔ ∃ k : Nat, i = (k : Int) /\ k < b.Ac.length /\ Fm b p (Dc b p (k : Int)) = some (f : Int) := by
 constructor
 ·intro h
  obtain ⟨k, hk, e⟩ := aq.1 h
  obtain ⟨h1, h2⟩ := ax.1 hk
  exact ⟨k, e.symm, aV.1 h1, by rwa [beq_iff_eq] at h2⟩
 ·rintro ⟨k, e, h1, h2⟩
  exact aq.2 ⟨k, ax.2 ⟨aV.2 h1, by rw [beq_iff_eq]; exact h2⟩, e.symm⟩
theorem Ayd {b : Aa} {p : Ab} {f g : Nat} (hfg : f ≠ g) {i j : Int} (hi : i ∈ (isl b p f).Ac) (hj : j ∈ (isl b p g).Ac) : i.toNat ≠ j.toNat := by
 obtain ⟨k, rfl, _, e1⟩ := I6.1 hi
 obtain ⟨m, rfl, _, e2⟩ := I6.1 hj
 rw [az, az]
 intro e; subst e
 rw [e1] at e2
 have := bq e2
 exact hfg (by omega)
def Ae5 (b : Aa) (p : Ab) (f : Nat) : Ae := p.Ac.getD ((isl b p f).Ac.headD 0).toNat default
theorem Ah2 {b : Aa} {p : Ab} {n : Nat} : ∀ (fs : List Nat) (s : List Ae), (∀ f, f ∈ fs -> ∀ i, i ∈ (isl b p f).Ac -> i.toNat ≠ n) -> ((fs.map (isl b p)).foldl (Cw p) s).getD n default = s.getD n default
 | [], _, _ => rfl
 | f :: fs, s, h => by
  rw [bB, bF, Ah2 fs _ (λ g hg => h g (ah _ hg))]
  have hf := h f ai
  unfold Cw
  split
  ·rfl
  ·exact Yd _ _ hf
theorem Aab {b : Aa} {p : Ab} (hn : p.Ac.length = b.Ac.length) : ∀ (fs : List Nat) (s : List Ae), s.length = p.Ac.length -> fs.Nodup -> ∀ f, f ∈ fs -> ∀ i, i ∈ (isl b p f).Ac ->
  (((fs.map (isl b p)).foldl (Cw p) s).getD i.toNat default).An = (Ae5 b p f).An /\ (((fs.map (isl b p)).foldl (Cw p) s).getD i.toNat default).Phase = (Ae5 b p f).Phase
 | [], _, _, _, _, h, _, _ => by cases h
 | g :: fs, s, hs, hnd, f, hf, i, hi => by
  obtain ⟨h1, h2⟩ := List.nodup_cons.1 hnd
  rw [bB, bF]
  by_cases e : f = g
  ·subst e
   rw [Ah2 fs _ (λ k hk j hj => Ayd (λ e => h1 (by rw [← e]; exact hk)) hj hi)]
   obtain ⟨k, rfl, hk, _⟩ := I6.1 hi
   unfold Cw
   split
   ·rename_i e; rw [e] at hi; cases hi
   ·rename_i m r e
    have : Ae5 b p f = p.Ac.getD m.toNat default := by unfold Ae5; rw [e]; rfl
    rw [this]
    exact Amx _ _ (by rw [az]; omega) ⟨_, hi, rfl⟩
  ·rcases ag.1 hf with h | hf
   ·exact absurd h e
   ·exact Aab hn fs _ (by rw [Na]; exact hs) h2 f hf i hi
theorem Ki {b : Aa} (h : Au b) {p : Ab} (hn : p.Ac.length = b.Ac.length) : Du b ⟨p.Ag, C6 b p, p.Aq, p.Ao⟩ := by
 have hisl : Bm b ⟨p.Ag, C6 b p, p.Aq, p.Ao⟩ = Bm b p := Aew rfl (F7 b p) (Lm b p)
 intro x hx i j hi hj
 rw [hisl, Gv h] at hx
 obtain ⟨f, hf, rfl⟩ := aq.1 hx
 have hnd : (Kv b p b.Al.toNat).Nodup := (List.nodup_range).sublist List.filter_sublist
 have hfl : C6 b p = ((Kv b p b.Al.toNat).map (isl b p)).foldl (Cw p) p.Ac := by
  rw [← Gv h]; rfl
 have e1 := Aab hn _ p.Ac rfl hnd f hf i hi
 have e2 := Aab hn _ p.Ac rfl hnd f hf j hj
 dsimp only
 rw [hfl]
 exact ⟨e1.1.trans e2.1.symm, e1.2.trans e2.2.symm⟩
def Aqy (b : Aa) (p : Ab) (n : Nat) : Bool := decide (((isl b p ((A7 b p).getD n 0).toNat).Ac.length : Int) > 0)
theorem Um {b : Aa} {p : Ab} {n f : Nat} (hn : n < b.Al.toNat) : (isl b p f).Al.any ((n : Int) == ·) = ((A7 b p).getD n 0 == (f : Int)) := by
 rw [bz, List.any_eq_true]
 constructor
 ·rintro ⟨x, hx, e⟩
  rw [beq_iff_eq] at e; subst e
  obtain ⟨i, hi, e⟩ := aq.1 hx
  have : i = n := by omega
  subst this
  exact (ax.1 hi).2
 ·intro e
  exact ⟨n, aq.2 ⟨n, ax.2 ⟨aV.2 hn, e⟩, rfl⟩, by simp⟩
theorem of_eq {b : Aa} (h : Au b) {p : Ab} (hp : As b p) {n : Nat} (hn : n < b.Al.toNat) : Gs b p (n : Int) = some (isl b p ((A7 b p).getD n 0).toNat, true) := by
 have hg := E0 h p hn
 have hbu := h.buses
 unfold Gs
 rw [H4 h hp, Gv h]
 simp only [aa]
 have key : ∀ (fs : List Nat) (k : Nat), foldI (Mu (n : Int)) (fs.map (isl b p)) k () = if ((A7 b p).getD n 0).toNat ∈ fs then some (.ret (isl b p ((A7 b p).getD n 0).toNat, true)) else some (.next ()) := by
  intro fs
  induction fs with
  | nil => intro k; rfl
  | cons f fs ih =>
   intro k
   have hbl : (isl b p f).Al.length <= 9223372036854775807 := by
    have := Dn (λ i => (A7 b p).getD i 0 == (f : Int)) b.Al.toNat
    simp only [isl, D6]
    omega
   simp only [bB, foldI, Mu, Dj _ _ hbl, aa, Um hn]
   by_cases e : (A7 b p).getD n 0 = (f : Int)
   ·have e2 : ((A7 b p).getD n 0).toNat = f := by omega
    rw [beq_iff_eq.2 e, e2, if_pos ai]; rfl
   ·have e2 : ((A7 b p).getD n 0).toNat ≠ f := by omega
    rw [beq_eq_false_iff_ne.2 e]
    simp only [cond_false]
    rw [ih]
    by_cases hm : ((A7 b p).getD n 0).toNat ∈ fs
    ·rw [if_pos hm, if_pos (ah _ hm)]
    ·rw [if_neg hm, if_neg (λ hh => (ag.1 hh).elim e2 hm)]
 have hm : ((A7 b p).getD n 0).toNat ∈ Kv b p b.Al.toNat := ax.2 ⟨aV.2 (by omega), H6 h p hn⟩
 rw [key, if_pos hm]
 rfl
theorem zX {b : Aa} (h : Au b) {p : Ab} (hp : As b p) {n : Nat} (hn : n < b.Al.toNat) : Vy b p (n : Int) = some (Aqy b p n) := by
 unfold Vy
 rw [of_eq h hp hn]
 simp [Aqy]
theorem Amo {b : Aa} (h : Au b) {s : Ah} (hs : Bu s) : Ok (vC s b) λ y => (As b y.1 /\ Du b y.1 /\ y.1.Ao.length <= 4) /\ Bu y.2 := by
 unfold vC
 refine (A0n h hs).bind λ y hy => ?_
 rw [Amd h hy.1.1]
 exact Ok.pure ⟨⟨Iq hy.1.1 (F7 b _) (L5 hy.1.1), Ki h hy.1.1.nso, hy.1.2⟩, hy.2⟩
theorem A0o {b : Aa} (h : Au b) {s : Ah} (hs : Bu s) : Ok (vG s b) λ y => ((∀ t, Ic b t y.1) /\ (5 <= y.1.Time /\ y.1.Time <= 20) /\ y.1.A6 = [] /\ y.1.Power.Ao.length <= 4) /\ Bu y.2 := by
 have hbu := h.buses
 unfold vG
 refine (Hq hs 5 20 (by omega) (by omega) (by omega)).bind λ y hy => (Amo h hy.1).bind λ z hz => ?_
 refine Ok.andThen (A := λ s => Bu ⟨s.2.1, s.2.2.1⟩ /\ s.2.2.2.length = b.Al.toNat /\ ∀ x, x ∈ s.2.2.2 -> (-1 <= x.High /\ x.High <= 4) /\ -1 <= x.Low /\ x.Low <= 4) (B := λ (_ : Unit) => False) ?_ (λ s hs => ?_) (λ _ h => h.elim)
 ·refine Ok.whileN (λ s => (0 <= s.1 /\ s.1 <= b.Al) /\ Bu ⟨s.2.1, s.2.2.1⟩ /\ (s.2.2.2.length : Int) = s.1 /\ ∀ x, x ∈ s.2.2.2 -> (-1 <= x.High /\ x.High <= 4) /\ -1 <= x.Low /\ x.Low <= 4) (λ s => (b.Al - s.1).toNat) _ _ ?_ ?_ ?_
  ·exact ⟨by dsimp only; omega, hz.2, by simp, λ x hx => by cases hx⟩
  ·dsimp only; omega
  ·rintro ⟨i, L, a, l⟩ ⟨⟨g1, g2⟩, g3, g4, g5⟩
   dsimp only at g1 g2 g3 g4 g5
   unfold Zx
   dsimp only
   refine Ok.cond (λ hq => ?_) (λ hq => Ok.brk ?_)
   ·simp only [decide_eq_true_eq] at hq
    have e1 : w64 (i + 1) = i + 1 := A8 (by omega)
    rw [e1]
    refine (Hq g3 (-1) 4 (by omega) (by omega) (by omega)).bind λ u hu => (Hq hu.1 (-1) 4 (by omega) (by omega) (by omega)).bind λ v hv => (Ok.appI (by simp; omega)).bind λ w hw => Ok.next ?_
    refine ⟨⟨by dsimp only; omega, hv.1, by rw [hw]; simp; omega, λ x hx => ?_⟩, by dsimp only; omega⟩
    rw [hw] at hx
    rcases au.1 hx with hx | hx
    ·exact g5 x hx
    ·simp only [bn] at hx
     subst hx
     exact ⟨hu.2, hv.2⟩
   ·simp only [decide_eq_false_iff_not] at hq
    exact ⟨g3, by dsimp only; omega, g5⟩
 ·refine Ok.pure ⟨⟨λ t => ?_, hy.2, rfl, hz.1.2.2⟩, hs.1⟩
  exact {
   st := hz.1.1
   fol := T7 hz.1.1.nso hz.1.2.1
   time := by have := hy.2; dsimp only; omega
   nro := hs.2.1
   ros := λ x hx => by
    have := hs.2.2 x hx
    have := hy.2
    unfold Fc
    dsimp only
    omega }
theorem Ax8 {s : Ah} (hs : Bu s) : Ok (F9 s) λ y => A8h y.1 /\ Jd y.2.1 /\ ((∀ t, Ic y.1 t y.2.2.1) /\ (5 <= y.2.2.1.Time /\ y.2.2.1.Time <= 20) /\ y.2.2.1.A6 = [] /\ y.2.2.1.Power.Ao.length <= 4) /\ Bu y.2.2.2 := by
 unfold F9
 exact (A01 hs).bind λ b hb => (A0k hb.2).bind λ y hy => (A0o hb.1.ok hy.2).bind λ p hp => Ok.pure ⟨hb.1, hy.1, hp.1, hp.2⟩
theorem Nf {b : Aa} {i : Nat} (h : i < b.Af.length) : b.Af[i]? = some (b.Af.getD i default) := by
 rw [ae h]; simp [List.getD, ae h]
theorem Aod {p : Ab} {i : Nat} (h : i < p.Aq.length) : p.Aq[i]? = some (p.Aq.getD i 0) := by
 rw [ae h]; simp [List.getD, ae h]

theorem Uk {b : Aa} {p : Ab} (hp : As b p) {j : Nat} (hj : j < b.Ad.length) : p.Ag[j]? = some (p.Ag.getD j false) := by
 have := hp.ncl
 rw [ae (by omega)]; simp [List.getD, ae (show j < p.Ag.length by omega)]
theorem Ni {b : Aa} {j : Nat} {x : Aj} (hx : b.Ad[j]? = some x) : b.Ad.getD j default = x := by simp [List.getD, hx]
def D0 (p : Ab) (x : Aj) : Bool :=
 brk p.Ao 3 x.A || (if x.Kind = 1 then brk p.Ao 3 x.B else if x.Kind = 2 then brk p.Ao 1 x.B || ((p.Ac.getD x.B.toNat default).State != 2) else brk p.Ao 4 x.B)
theorem A3i {b : Aa} {p : Ab} (hp : As b p) (k n : Int) (acts : List Ap) : Lf k n ⟨b, p, acts⟩ = some (brk p.Ao k n, ⟨b, p, acts⟩) := by
 have := hp.brk.len
 unfold Lf
 rw [E2 (by dsimp only; omega)]; rfl
theorem Av3 {b : Aa} (h : Au b) {p : Ab} (hp : As b p) (acts : List Ap) {x : Aj} (hx : x ∈ b.Ad) : Ve ⟨b, p, acts⟩ x = some (D0 p x, ⟨b, p, acts⟩) := by
 have hbr := (h.br x hx).2
 have hns := hp.nso
 unfold Ve D0
 simp only [A3i hp, aa]
 cases brk p.Ao 3 x.A with
 | true => rfl
 | false =>
  simp only [cond_false, aY]
  rcases hbr with ⟨hk, _⟩ | ⟨hk, h0, h1⟩ | ⟨hk, _⟩
  ·rw [hk]; rfl
  ·rw [hk]
   have e : p.Ac[x.B.toNat]? = some (p.Ac.getD x.B.toNat default) := by
    rw [ae (by omega)]; simp [List.getD, ae (show x.B.toNat < p.Ac.length by omega)]
   have e2 : getI p.Ac x.B = some (p.Ac.getD x.B.toNat default) := by
    unfold getI; rw [decide_eq_true h0]; exact e
   rw [e2]
   cases brk p.Ao 1 x.B <;> rfl
  ·rw [hk]; rfl
def Di (b : Aa) (C : List Bool) (q : Aj -> Bool) (n : Nat) : List Int := ((List.range n).filter λ i => C.getD i false && q (b.Ad.getD i default)).map λ (i : Nat) => (i : Int)
theorem H7 {b : Aa} {C : List Bool} {q : Aj -> Bool} {n : Nat} {i : Int} : i ∈ Di b C q n ↔ ∃ k : Nat, i = (k : Int) /\ k < n /\ C.getD k false = true /\ q (b.Ad.getD k default) = true := by
 unfold Di
 simp only [aq, ax, aV, ac]
 constructor
 ·rintro ⟨k, ⟨h1, h2, h3⟩, rfl⟩; exact ⟨k, rfl, h1, h2, h3⟩
 ·rintro ⟨k, rfl, h1, h2, h3⟩; exact ⟨k, ⟨h1, h2, h3⟩, rfl⟩
theorem Gm (b : Aa) (C : List Bool) (q : Aj -> Bool) (n : Nat) : (Di b C q n).length <= n := Dn _ n
def Gh (C : List Bool) (l : List Int) : List Bool := l.foldl (λ c i => c.set i.toNat false) C
def Ly (l : List Int) : List Ap := l.map λ i => ⟨2, i, 0⟩
theorem Oa : ∀ (l : List Int) (C : List Bool), (Gh C l).length = C.length
 | [], _ => rfl
 | i :: l, C => by
  show (Gh (C.set i.toNat false) l).length = _
  rw [Oa l]; simp
theorem Aqg (C : List Bool) (l : List Int) (i : Int) : Gh C (l ++ [i]) = (Gh C l).set i.toNat false := by
 unfold Gh; rw [aR]; rfl
theorem Acz : ∀ (l : List Int) (C : List Bool) (k : Nat), (Gh C l).getD k false = (C.getD k false && !l.any λ i => i.toNat == k)
 | [], _, _ => by simp [Gh]
 | i :: l, C, k => by
  show (Gh (C.set i.toNat false) l).getD k false = _
  rw [Acz l]
  simp only [List.any_cons]
  by_cases e : i.toNat = k
  ·subst e
   have : (C.set i.toNat false).getD i.toNat false = false := by
    simp only [List.getD, ao]
    by_cases hl : i.toNat < C.length
    ·simp [hl]
    ·simp [hl]
   rw [this]; simp
  ·have : (C.set i.toNat false).getD k false = C.getD k false := by
    simp only [List.getD, ao, if_neg e]
   rw [this]
   have e2 : (i.toNat == k) = false := by simpa using e
   rw [e2, aY]
theorem Ag8 {b : Aa} : ∀ (l : List Int) {p : Ab}, As b p -> As b ⟨Gh p.Ag l, p.Ac, p.Aq, p.Ao⟩
 | [], _, hp => hp
 | i :: l, p, hp => Ag8 l (p := ⟨p.Ag.set i.toNat false, p.Ac, p.Aq, p.Ao⟩) (Aqh hp i.toNat)
theorem Ayt {b : Aa} {p : Ab} {acts : List Ap} (ha : acts.length <= 1000000) {i : Int} (h0 : 0 <= i) (h1 : i < p.Ag.length) : Nn ⟨b, p, acts⟩ i = some ⟨b, ⟨p.Ag.set i.toNat false, p.Ac, p.Aq, p.Ao⟩, acts ++ [⟨2, i, 0⟩]⟩ := by
 refine Ok.eq ?_
 unfold Nn
 refine (Ok.getI h0 h1).bind λ _ _ => (Ok.setI h0 h1).bind λ y hy => (Ok.appI (by simp; omega)).bind λ z hz => Ok.pure ?_
 rw [hy, hz]
theorem Yl {b : Aa} {p : Ab} {acts : List Ap} {l : List Int} (ha : acts.length + l.length <= 1000000) (hl : ∀ i, i ∈ l -> 0 <= i /\ i < p.Ag.length) :
  Ok (foldI Oo l 0 (b.Al, b.Ad, b.Ac, b.Af, b.Phase, b.An, p.Ag, p.Ac, p.Aq, p.Ao, acts)) (Dt (λ s => s = (b.Al, b.Ad, b.Ac, b.Af, b.Phase, b.An, Gh p.Ag l, p.Ac, p.Aq, p.Ao, acts ++ Ly l)) λ (_ : Unit) => False) := by
 refine Ok.foldI0 (I := λ j s => s = (b.Al, b.Ad, b.Ac, b.Af, b.Phase, b.An, Gh p.Ag (l.take j), p.Ac, p.Aq, p.Ao, acts ++ Ly (l.take j))) (by simp [Gh, Ly]) (λ j i s hi hs => ?_) λ s hs => ?_
 ·have hj := (ab.1 hi).1
  have hin := hl i (af hi)
  subst hs
  unfold Oo
  have e := Ayt (b := b) (p := ⟨Gh p.Ag (l.take j), p.Ac, p.Aq, p.Ao⟩) (acts := acts ++ Ly (l.take j)) (by simp [Ly]; omega) hin.1 (by rw [Oa]; exact hin.2)
  refine Ok.bind (P := λ y => y = _) (Ok.of_eq e rfl) λ y hy => Ok.next ?_
  subst hy
  rw [Bk hi, Aqg]
  simp [Ly]
 ·rw [aD] at hs; exact hs
def acA (b : Aa) (C : List Bool) (q : Aj -> Bool) : List Ap := Ly (Di b C q b.Ad.length)
def acC (b : Aa) (C : List Bool) (q : Aj -> Bool) : List Bool := Gh C (Di b C q b.Ad.length)
theorem W5 (b : Aa) (C : List Bool) (q : Aj -> Bool) : (acA b C q).length <= b.Ad.length := by
 unfold acA Ly
 rw [aw]; exact Gm b C q _
theorem Ajd {b : Aa} {p : Ab} (hp : As b p) (q : Aj -> Bool) : As b ⟨acC b p.Ag q, p.Ac, p.Aq, p.Ao⟩ := Ag8 _ hp
theorem A3o (b : Aa) (C : List Bool) (q : Aj -> Bool) {k : Nat} (hk : k < b.Ad.length) : (acC b C q).getD k false = (C.getD k false && !q (b.Ad.getD k default)) := by
 unfold acC
 rw [Acz]
 cases hc : C.getD k false with
 | false => rfl
 | true =>
  rw [a9, a9]
  congr 1
  rw [bz, List.any_eq_true]
  constructor
  ·rintro ⟨i, hi, e⟩
   obtain ⟨m, rfl, _, _, hq⟩ := H7.1 hi
   have : m = k := by simpa using e
   subst this; exact hq
  ·intro hq
   exact ⟨(k : Int), H7.2 ⟨k, rfl, hk, hc, hq⟩, by simp⟩
theorem Q9 {b : Aa} {C : List Bool} {q : Aj -> Bool} {j : Nat} {x : Aj} (hx : b.Ad[j]? = some x) : Di b C q (j + 1) = Di b C q j ++ if (C.getD j false && q x) = true then [(j : Int)] else [] := by
 unfold Di
 rw [Fo, Ni hx]
theorem Atg {b : Aa} (h : Au b) {p : Ab} (hp : As b p) {acts : List Ap} (ha : acts.length <= 1000) : Vk ⟨b, p, acts⟩ = some ⟨b, ⟨acC b p.Ag (D0 p), p.Ac, p.Aq, p.Ao⟩, acts ++ acA b p.Ag (D0 p)⟩ := by
 have hbl := h.brl
 have hnc := hp.ncl
 refine Ok.eq ?_
 unfold Vk
 refine Ok.andThen (A := λ s => s = (b.Al, b.Ad, b.Ac, b.Af, b.Phase, b.An, Di b p.Ag (D0 p) b.Ad.length, p.Ag, p.Ac, p.Aq, p.Ao, acts)) (B := λ (_ : Unit) => False) ?_ (λ s hs => ?_) (λ _ h => h.elim)
 ·refine Ok.foldI0 (I := λ j s => s = (b.Al, b.Ad, b.Ac, b.Af, b.Phase, b.An, Di b p.Ag (D0 p) j, p.Ag, p.Ac, p.Aq, p.Ao, acts)) rfl (λ j x s hx hs => ?_) λ s hs => hs
  have hj : j < b.Ad.length := (ab.1 hx).1
  have hfl := Gm b p.Ag (D0 p) j
  have hfs := Q9 (C := p.Ag) (q := D0 p) hx
  subst hs
  unfold Vj
  rw [Cz (by omega), Bl (Uk hp hj)]
  simp only [aa]
  have hd := Av3 h hp acts (af hx)
  cases hC : p.Ag.getD j false with
  | false =>
   rw [hC] at hfs
   refine Ok.next ?_
   rw [hfs]; simp
  | true =>
   rw [hC] at hfs
   refine Ok.bind (P := λ y => y = (D0 p x, (⟨b, p, acts⟩ : Ay))) (Ok.of_eq hd rfl) λ y hy => ?_
   subst hy
   cases hq : D0 p x with
   | false =>
    rw [hq] at hfs
    refine Ok.next ?_
    rw [hfs]; simp
   | true =>
    rw [hq] at hfs
    refine Ok.bind (P := λ y => y = Di b p.Ag (D0 p) j ++ [(j : Int)]) (Ok.appI (by simp; omega)) λ y hy => Ok.next ?_
    rw [hy, hfs]; simp
 ·subst hs
  have hfl := Gm b p.Ag (D0 p) b.Ad.length
  refine Ok.andThen (Yl (b := b) (p := p) (acts := acts) (l := Di b p.Ag (D0 p) b.Ad.length) (by omega) λ i hi => ?_) (λ s hs => ?_) (λ _ h => h.elim)
  ·obtain ⟨k, rfl, hk, _⟩ := H7.1 hi
   omega
  ·subst hs
   exact Ok.pure rfl
def Fq (b : Aa) (p : Ab) (x : Aj) : Bool := x.Kind == 3 && !Aqy b p x.A.toNat
theorem A3b {b : Aa} (h : Au b) {p : Ab} (hp : As b p) (acts : List Ap) {x : Aj} (hx : x ∈ b.Ad) : Vd x ⟨b, p, acts⟩ = some (Fq b p x, ⟨b, p, acts⟩) := by
 have hA := (h.br x hx).1
 have hl := zX h hp (n := x.A.toNat) (by omega)
 rw [aP hA.1] at hl
 unfold Vd Fq
 rw [hl]
 cases x.Kind == 3 <;> rfl
theorem Atf {b : Aa} (h : Au b) {p : Ab} (hp : As b p) {acts : List Ap} (ha : acts.length <= 1000) : Vi ⟨b, p, acts⟩ = some ⟨b, ⟨acC b p.Ag (Fq b p), p.Ac, p.Aq, p.Ao⟩, acts ++ acA b p.Ag (Fq b p)⟩ := by
 have hbl := h.brl
 have hnc := hp.ncl
 refine Ok.eq ?_
 unfold Vi
 refine Ok.andThen (A := λ s => s = (b.Al, b.Ad, b.Ac, b.Af, b.Phase, b.An, Di b p.Ag (Fq b p) b.Ad.length, p.Ag, p.Ac, p.Aq, p.Ao, acts)) (B := λ (_ : Unit) => False) ?_ (λ s hs => ?_) (λ _ h => h.elim)
 ·refine Ok.foldI0 (I := λ j s => s = (b.Al, b.Ad, b.Ac, b.Af, b.Phase, b.An, Di b p.Ag (Fq b p) j, p.Ag, p.Ac, p.Aq, p.Ao, acts)) rfl (λ j x s hx hs => ?_) λ s hs => hs
  have hj : j < b.Ad.length := (ab.1 hx).1
  have hfl := Gm b p.Ag (Fq b p) j
  have hfs := Q9 (C := p.Ag) (q := Fq b p) hx
  subst hs
  unfold Vh
  rw [Cz (by omega), Bl (Uk hp hj)]
  simp only [aa]
  have hd := A3b h hp acts (af hx)
  cases hC : p.Ag.getD j false with
  | false =>
   rw [hC] at hfs
   refine Ok.next ?_
   rw [hfs]; simp
  | true =>
   rw [hC] at hfs
   refine Ok.bind (P := λ y => y = (Fq b p x, (⟨b, p, acts⟩ : Ay))) (Ok.of_eq hd rfl) λ y hy => ?_
   subst hy
   cases hq : Fq b p x with
   | false =>
    rw [hq] at hfs
    refine Ok.next ?_
    rw [hfs]; simp
   | true =>
    rw [hq] at hfs
    refine Ok.bind (P := λ y => y = Di b p.Ag (Fq b p) j ++ [(j : Int)]) (Ok.appI (by simp; omega)) λ y hy => Ok.next ?_
    rw [hy, hfs]; simp
 ·subst hs
  have hfl := Gm b p.Ag (Fq b p) b.Ad.length
  refine Ok.andThen (Yl (b := b) (p := p) (acts := acts) (l := Di b p.Ag (Fq b p) b.Ad.length) (by omega) λ i hi => ?_) (λ s hs => ?_) (λ _ h => h.elim)
  ·obtain ⟨k, rfl, hk, _⟩ := H7.1 hi
   omega
  ·subst hs
   exact Ok.pure rfl
def Uj (b : Aa) (p : Ab) : Ab := ⟨acC b p.Ag (D0 p), p.Ac, p.Aq, p.Ao⟩
def Arn (b : Aa) (p : Ab) : Ab := ⟨acC b (Uj b p).Ag (Fq b (Uj b p)), p.Ac, p.Aq, p.Ao⟩
def J0 (b : Aa) (p : Ab) : Ab := ⟨(Arn b p).Ag, C6 b (Arn b p), p.Aq, p.Ao⟩
def Ui (b : Aa) (p : Ab) : List Ap := acA b p.Ag (D0 p) ++ acA b (Uj b p).Ag (Fq b (Uj b p))
theorem Aol {b : Aa} {p : Ab} (hp : As b p) : As b (Uj b p) := Ajd hp _
theorem Wy {b : Aa} {p : Ab} (hp : As b p) : As b (Arn b p) := Ajd (Aol hp) _
theorem Wx {b : Aa} {p : Ab} (hp : As b p) : As b (J0 b p) := Iq (Wy hp) (F7 b _) (L5 (Wy hp))
theorem Arm {b : Aa} (h : Au b) {p : Ab} (hp : As b p) : Du b (J0 b p) := Ki h (Wy hp).nso
theorem Aiq (b : Aa) (p : Ab) : (Ui b p).length <= 2 * b.Ad.length := by
 have h1 := W5 b p.Ag (D0 p)
 have h2 := W5 b (Uj b p).Ag (Fq b (Uj b p))
 unfold Ui
 rw [aJ]; omega
theorem Az2 {b : Aa} (h : Au b) {p : Ab} (hp : As b p) : Vq ⟨b, p, []⟩ = some ⟨b, J0 b p, Ui b p⟩ := by
 have hbl := h.brl
 have hl := W5 b p.Ag (D0 p)
 unfold Vq
 rw [Atg h hp (by simp)]
 simp only [aa, cw]
 have e2 := Atf h (Aol hp) (acts := acA b p.Ag (D0 p)) (by omega)
 have e3 := Oe h (Wy hp)
 refine Ok.eq ?_
 refine Ok.bind (P := λ y => y = _) (Ok.of_eq e2 rfl) λ y hy => ?_
 subst hy
 refine Ok.bind (P := λ y => y = _) (Ok.of_eq e3 rfl) λ y hy => ?_
 subst hy
 exact Ok.pure rfl
theorem Avc {l : List Int} {m k : Nat} {v : Int} : (l.set m v).getD k 0 = if m = k /\ m < l.length then v else l.getD k 0 := by
 simp only [List.getD, ao]
 by_cases e : m = k
 ·subst e
  by_cases hl : m < l.length
  ·simp [hl]
  ·simp [hl]
 ·simp [e]
def InC (n : Nat) (d : List Int) : Prop := d.length = n /\ ∀ x, x ∈ d -> 0 <= x /\ x < (n : Int)
theorem InC.get {n : Nat} {d : List Int} (h : InC n d) {j : Int} (h0 : 0 <= j) (h1 : j < n) : Ok (getI d j) λ v => 0 <= v /\ v < (n : Int) := (Ok.getI h0 (by have := h.1; omega)).mono λ _ hv => h.2 _ (af hv)
theorem InC.set {n : Nat} {d : List Int} (h : InC n d) {j v : Int} (h0 : 0 <= j) (h1 : j < n) (hv : 0 <= v /\ v < (n : Int)) : Ok (setI d j v) (InC n) := (Ok.setI h0 (by have := h.1; omega)).mono λ y hy => by
 subst hy
 refine ⟨by simpa using h.1, λ x hx => ?_⟩
 rcases bK hx with hx | hx
 ·exact h.2 x hx
 ·rw [hx]; exact hv
theorem Azg {b : Aa} (h : Au b) {i : Int} (h0 : 0 <= i) (hi : i < b.Af.length) {d : List Int} (hd : InC b.Af.length d) :
  Ok (whileN (Ol 0 b) 1152921504606846976 (i, d)) (Dt (λ s => InC b.Af.length s.2) λ (_ : Unit) => False) := by
 have hcl := h.col
 refine Ok.whileN (λ s => (0 <= s.1 /\ s.1 <= i) /\ InC b.Af.length s.2) (λ s => s.1.toNat) _ _ ⟨⟨h0, Int.le_refl _⟩, hd⟩ (by dsimp only; omega) ?_
 rintro ⟨j, d⟩ ⟨⟨j0, j1⟩, hI⟩
 dsimp only at j0 j1 hI
 unfold Ol
 dsimp only
 by_cases hj : 0 < j
 ·have e2 : w64 (j - 1) = j - 1 := A8 (by omega)
  rw [e2]
  refine Ok.bind (P := λ v => 0 <= v /\ v < (b.Af.length : Int)) (Ok.guard (λ _ => hI.get (by omega) (by omega)) λ hn => (hn ⟨by simpa using hj, trivial⟩).elim) λ v hv => ?_
  refine Ok.bind (P := λ v => 0 <= v /\ v < (b.Af.length : Int)) (Ok.guard (λ _ => hI.get (by omega) (by omega)) λ hn => (hn ⟨by simpa using hj, trivial⟩).elim) λ u hu => ?_
  refine Ok.bind (P := λ _ => True) (Ok.gT (λ _ => ?_) λ _ => trivial) λ _ _ => ?_
  ·unfold vM
   exact (Ok.getB hv.1 hv.2).bind λ _ _ => (Ok.getB hu.1 hu.2).bind λ _ _ => Ok.pure trivial
  refine Ok.cond (λ _ => ?_) (λ _ => Ok.brk hI)
  refine (hI.get (by omega) (by omega)).bind λ v1 hv1 => (hI.get (by omega) (by omega)).bind λ v2 hv2 => (hI.set (by omega) (by omega) hv1).bind λ d2 hd2 => (hd2.get (by omega) (by omega)).bind λ _ _ => (hd2.set (by omega) (by omega) hv2).bind λ d3 hd3 => Ok.next ⟨⟨⟨by dsimp only; omega, by dsimp only; omega⟩, hd3⟩, by dsimp only; omega⟩
 ·have e1 : j = 0 := by omega
  subst e1
  exact Ok.brk hI
def O2 (b : Aa) : List Int := (Z1 b).getD []
theorem Yk {b : Aa} (h : Au b) : Z1 b = some (O2 b) /\ InC b.Af.length (O2 b) := by
 have hcl := h.col
 have key : Ok (Z1 b) λ y => InC b.Af.length y := by
  unfold Z1
  rw [Air h]
  simp only [aa]
  refine Ok.cond (λ hc => by simp at hc) (λ _ => ?_)
  refine Ok.andThen (A := λ s => InC b.Af.length s.2) (B := λ (_ : Unit) => False) ?_ (λ s hs => ?_) (λ _ h => h.elim)
  ·refine Ok.whileN (λ s => ((0 <= s.1 /\ s.1 <= (b.Af.length : Int)) /\ (s.2.length : Int) = s.1) /\ ∀ x, x ∈ s.2 -> 0 <= x /\ x < (b.Af.length : Int)) (λ s => (100 - s.1).toNat) _ _ ⟨⟨⟨by dsimp only; omega, by dsimp only; omega⟩, by simp⟩, λ x hx => by cases hx⟩ (by dsimp only; omega) ?_
   rintro ⟨z, d⟩ ⟨⟨⟨z0, z1⟩, hl⟩, hd⟩
   dsimp only at z0 z1 hl hd
   unfold Aau Awc
   dsimp only
   refine Ok.cond (λ hq => ?_) (λ hq => Ok.brk ?_)
   ·simp only [decide_eq_true_eq] at hq
    rw [A8 (n := z + 1) (by omega)]
    refine (Ok.appI (by simp; omega)).bind λ y hy => Ok.next ⟨⟨⟨⟨by dsimp only; omega, by dsimp only; omega⟩, by rw [hy]; simp; omega⟩, λ x hx => ?_⟩, by dsimp only; omega⟩
    rw [hy] at hx
    rcases au.1 hx with hx | hx
    ·exact hd x hx
    ·rw [bn] at hx; omega
   ·simp only [decide_eq_false_iff_not] at hq
    exact ⟨by dsimp only; omega, hd⟩
  ·have hn := hs.1
   refine Ok.bind (P := λ y => InC b.Af.length y.1) ?_ λ y hy => Ok.pure hy
   unfold vN vL
   refine Ok.bind (P := λ y => InC b.Af.length y.1) ?_ λ y hy => Ok.pure hy
   refine Ok.andThen (A := λ t => t = ((0 : Int), (20 : Int), s.2, b.Al, b.Ad, b.Ac, b.Af, b.Phase, b.An)) (B := λ (_ : Unit) => False) ?_ (λ t ht => ?_) (λ _ h => h.elim)
   ·refine Ok.whileN (λ t => t = ((0 : Int), (20 : Int), s.2, b.Al, b.Ad, b.Ac, b.Af, b.Phase, b.An)) (λ _ => 0) _ _ rfl (by omega) ?_
    intro t ht
    subst ht
    unfold U3
    dsimp only
    refine Ok.cond (λ hq => ?_) (λ _ => Ok.brk rfl)
    simp only [decide_eq_true_eq] at hq
    omega
   ·subst ht
    dsimp only
    refine Ok.bind (P := λ y => InC b.Af.length y.1) ?_ λ y hy => ?_
    ·unfold U1
     have e1 : w64 (0 + 1) = 1 := by rw [A8 (by omega)]; rfl
     rw [e1]
     refine Ok.andThen (A := λ t => InC b.Af.length t.2) (B := λ (_ : Unit) => False) ?_ (λ t ht => Ok.pure ht) (λ _ h => h.elim)
     refine Ok.whileN (λ t => (1 <= t.1 /\ t.1 <= 50) /\ InC b.Af.length t.2) (λ t => (100 - t.1).toNat) _ _ ⟨⟨by dsimp only; omega, by dsimp only; omega⟩, hs⟩ (by dsimp only; omega) ?_
     rintro ⟨z, d⟩ ⟨⟨z0, z1⟩, hd⟩
     dsimp only at z0 z1 hd
     unfold U0
     dsimp only
     refine Ok.cond (λ hq => ?_) (λ _ => Ok.brk hd)
     simp only [decide_eq_true_eq] at hq
     rw [hn] at hq
     refine Ok.inner (Azg h (by omega) hq hd) (λ t ht => ?_) (λ _ h => h.elim)
     rw [A8 (n := z + 1) (by omega)]
     exact Ok.next ⟨⟨⟨by dsimp only; omega, by dsimp only; omega⟩, ht⟩, by dsimp only; omega⟩
    ·refine Ok.andThen (A := λ _ => True) (B := λ (_ : Unit) => False) ?_ (λ t _ => Ok.pure hy) (λ _ h => h.elim)
     refine Ok.whileN (λ _ => True) (λ _ => 0) _ _ trivial (by omega) ?_
     intro t _
     unfold U2
     refine Ok.cond (λ hq => ?_) (λ _ => Ok.brk trivial)
     simp only [decide_eq_true_eq] at hq
     omega
 obtain ⟨r, e, hr⟩ := key
 have : O2 b = r := by unfold O2; rw [e]; rfl
 rw [this]
 exact ⟨e, hr⟩
theorem A3z {b : Aa} (h : Au b) {c : Int} (hc : c ∈ O2 b) : 0 <= c /\ c < b.Af.length := (Yk h).2.2 c hc
theorem An4 {b : Aa} (h : Au b) : (O2 b).length = b.Af.length := (Yk h).2.1
def Sl (L : List Int) (l : List Int) : Int := l.foldl (λ s c => s + L.getD c.toNat 0) 0
theorem Abq (L : List Int) (l : List Int) (c : Int) : Sl L (l ++ [c]) = Sl L l + L.getD c.toNat 0 := by
 unfold Sl; rw [aR]; rfl
def Cy (b : Aa) (p : Ab) (n : Nat) : Nat := ((A7 b p).getD n 0).toNat
def Hb (b : Aa) (p : Ab) (n : Nat) : Int := if 0 < (isl b p (Cy b p n)).Ac.length then Sl p.Aq (isl b p (Cy b p n)).Af else 0
def Ae0 (b : Aa) : List Int := b.Ac.map (·.Rating)
def M1 (b : Aa) (p : Ab) (n : Nat) : Int := Sl (Ae0 b) (isl b p (Cy b p n)).Ac
theorem A2u {b : Aa} {p : Ab} {f : Nat} {i : Int} (hi : i ∈ (isl b p f).Af) : 0 <= i /\ i < b.Af.length := by
 obtain ⟨k, hk, rfl⟩ := aq.1 hi
 have := aV.1 (ax.1 hk).1
 omega
theorem Kg {b : Aa} {p : Ab} {f : Nat} {i : Int} (hi : i ∈ (isl b p f).Ac) : 0 <= i /\ i < b.Ac.length := by
 obtain ⟨k, hk, rfl⟩ := aq.1 hi
 have := aV.1 (ax.1 hk).1
 omega
theorem Ahn {b : Aa} (h : Au b) {p : Ab} (hp : As b p) {c : Int} (h0 : 0 <= c) (h1 : c < b.Af.length) : getI p.Aq c = some (p.Aq.getD c.toNat 0) /\ 0 <= p.Aq.getD c.toNat 0 /\ p.Aq.getD c.toNat 0 <= (b.Af.getD c.toNat default).Load /\ p.Aq.getD c.toNat 0 <= 50000 := by
 have hn := hp.nli
 obtain ⟨k, rfl⟩ : ∃ k : Nat, c = (k : Int) := ⟨c.toNat, by omega⟩
 rw [az]
 have hg := Nf (b := b) (i := k) (by omega)
 have hl := hp.lim k _ _ (Aod (p := p) (by omega)) hg
 have hc := (h.co k _ hg).1
 exact ⟨Bl (Aod (by omega)), hl.1, hl.2, by omega⟩
theorem Bb9 {b : Aa} {c : Int} (h0 : 0 <= c) (h1 : c < b.Af.length) : getI b.Af c = some (b.Af.getD c.toNat default) := by
 obtain ⟨k, rfl⟩ : ∃ k : Nat, c = (k : Int) := ⟨c.toNat, by omega⟩
 rw [az]
 exact Bl (Nf (by omega))
theorem Wp {b : Aa} (h : Au b) {p : Ab} (hp : As b p) {n : Nat} (hn : n < b.Al.toNat) : U8 b p (n : Int) = some (Hb b p n) /\ 0 <= Hb b p n /\ Hb b p n <= 800000 := by
 have hcl := h.col
 have hlen : (isl b p (Cy b p n)).Af.length <= b.Af.length := Dn _ _
 have key : Ok (U8 b p (n : Int)) λ y => y = Hb b p n /\ 0 <= Hb b p n /\ Hb b p n <= 800000 := by
  unfold U8
  have hof : Gs b p (n : Int) = some (isl b p (Cy b p n), true) := of_eq h hp hn
  rw [hof]
  simp only [aa]
  refine Ok.andThen (A := λ s => s = Hb b p n /\ 0 <= Hb b p n /\ Hb b p n <= 800000) (B := λ (_ : Unit) => False) ?_ (λ s hs => Ok.pure hs) (λ _ h => h.elim)
  by_cases hs : 0 < (isl b p (Cy b p n)).Ac.length
  ·refine Ok.foldI0 (I := λ j s => s = Sl p.Aq ((isl b p (Cy b p n)).Af.take j) /\ 0 <= s /\ s <= 50000 * (j : Int)) ⟨rfl, by omega, by omega⟩ (λ j c s hc hI => ?_) λ s hI => ?_
   ·obtain ⟨h1, h2, h3⟩ := hI
    have hj : j < (isl b p (Cy b p n)).Af.length := (ab.1 hc).1
    have hcm := A2u (af hc)
    obtain ⟨g1, g2, g3, g4⟩ := Ahn h hp hcm.1 hcm.2
    unfold Xf
    have e : decide (((isl b p (Cy b p n)).Ac.length : Int) > 0) = true := decide_eq_true (by omega)
    show Ok (bif decide (((isl b p (Cy b p n)).Ac.length : Int) > 0) then _ else _) _
    rw [e, g1]
    simp only [cond_true, aa]
    rw [A8 (by omega)]
    refine Ok.next ⟨?_, by omega, by omega⟩
    rw [Bk hc, Abq, h1]
   ·rw [aD] at hI
    have e : Hb b p n = Sl p.Aq (isl b p (Cy b p n)).Af := by unfold Hb; rw [if_pos hs]
    rw [e, ← hI.1]
    exact ⟨rfl, hI.2.1, by omega⟩
  ·have e : Hb b p n = 0 := by unfold Hb; rw [if_neg hs]
   rw [e]
   refine Ok.foldI0 (I := λ _ s => s = 0) rfl (λ j c s hc hI => ?_) λ s hI => ⟨hI, by omega, by omega⟩
   unfold Xf
   have e : decide (((isl b p (Cy b p n)).Ac.length : Int) > 0) = false := decide_eq_false (by omega)
   show Ok (bif decide (((isl b p (Cy b p n)).Ac.length : Int) > 0) then _ else _) _
   rw [e]
   exact Ok.next hI
 obtain ⟨r, e, h1, h2⟩ := key
 rw [h1] at e
 exact ⟨e, h2⟩
theorem N9 {b : Aa} (h : Au b) {p : Ab} (hp : As b p) {n : Nat} (hn : n < b.Al.toNat) : U9 b p (n : Int) = some (M1 b p n) /\ 0 <= M1 b p n /\ M1 b p n <= 400000 := by
 have hcl := h.sol
 have hlen : (isl b p (Cy b p n)).Ac.length <= b.Ac.length := Dn _ _
 have key : Ok (U9 b p (n : Int)) λ y => y = M1 b p n /\ 0 <= M1 b p n /\ M1 b p n <= 400000 := by
  unfold U9
  have hof : Gs b p (n : Int) = some (isl b p (Cy b p n), true) := of_eq h hp hn
  rw [hof]
  simp only [aa]
  refine Ok.andThen (A := λ s => s = M1 b p n /\ 0 <= M1 b p n /\ M1 b p n <= 400000) (B := λ (_ : Unit) => False) ?_ (λ s hs => Ok.pure hs) (λ _ h => h.elim)
  refine Ok.foldI0 (I := λ j s => s = Sl (Ae0 b) ((isl b p (Cy b p n)).Ac.take j) /\ 0 <= s /\ s <= 50000 * (j : Int)) ⟨rfl, by omega, by omega⟩ (λ j c s hc hI => ?_) λ s hI => ?_
  ·obtain ⟨h1, h2, h3⟩ := hI
   have hj : j < (isl b p (Cy b p n)).Ac.length := (ab.1 hc).1
   have hcm := Kg (af hc)
   unfold Aat
   refine (Ok.getI hcm.1 hcm.2).bind λ y hy => ?_
   have hr := (h.so y (af hy)).1
   have e : (Ae0 b).getD c.toNat 0 = y.Rating := by simp [Ae0, List.getD, hy]
   rw [A8 (by omega)]
   refine Ok.next ⟨?_, by omega, by omega⟩
   rw [Bk hc, Abq, h1, e]
  ·rw [aD] at hI
   unfold M1
   rw [← hI.1]
   exact ⟨rfl, hI.2.1, by omega⟩
 obtain ⟨r, e, h1, h2⟩ := key
 rw [h1] at e
 exact ⟨e, h2⟩
def Nb (b : Aa) (p : Ab) (n : Nat) : Int := max 0 (Hb b p n - M1 b p n)
theorem Ac2 {b : Aa} (h : Au b) {p : Ab} (hp : As b p) (acts : List Ap) {n : Nat} (hn : n < b.Al.toNat) : P9 ⟨b, p, acts⟩ (n : Int) = some (Nb b p n) := by
 obtain ⟨h1, h2, h3⟩ := Wp h hp hn
 obtain ⟨h4, h5, h6⟩ := N9 h hp hn
 unfold P9
 simp only [h1, h4, aa]
 rw [A8 (by omega)]; rfl
theorem A26 {b : Aa} (h : Au b) {p : Ab} (hp : As b p) {n : Nat} (hn : n < b.Al.toNat) : 0 <= Nb b p n /\ Nb b p n <= 800000 := by
 obtain ⟨h1, h2, h3⟩ := Wp h hp hn
 obtain ⟨h4, h5, h6⟩ := N9 h hp hn
 unfold Nb
 omega
def B1 (p : Ab) (L : List Int) : Ab := ⟨p.Ag, p.Ac, L, p.Ao⟩
def D3 (p : Ab) (C : List Bool) : Ab := ⟨C, p.Ac, p.Aq, p.Ao⟩
def Hc (b : Aa) (p : Ab) (n : Nat) (c : Int) : Int := min (Nb b p n) (p.Aq.getD c.toNat 0 - (b.Af.getD c.toNat default).Least)
def O5 (b : Aa) (p : Ab) (n : Nat) (z : List Int × List Ap) (c : Int) : List Int × List Ap :=
 if 0 < Hc b (B1 p z.1) n c then (z.1.set c.toNat (z.1.getD c.toNat 0 - Hc b (B1 p z.1) n c), z.2 ++ [⟨5, c, z.1.getD c.toNat 0 - Hc b (B1 p z.1) n c⟩]) else z
def Iz (b : Aa) (p : Ab) (n : Nat) (l : List Int) (z : List Int × List Ap) : List Int × List Ap := l.foldl (O5 b p n) z
theorem Abu {b : Aa} {p : Ab} (hp : As b p) {c : Nat} {v : Int} (hv : 0 <= v /\ v <= (b.Af.getD c default).Load) : As b (B1 p (p.Aq.set c v)) where
 ncl := hp.ncl
 nso := hp.nso
 nli := by simp [B1, hp.nli]
 run := hp.run
 lim i n x hn hx := by
  simp only [B1, ao] at hn
  by_cases e : c = i
  ·subst e
   have ex : b.Af.getD c default = x := by simp [List.getD, hx]
   rw [ex] at hv
   rw [if_pos rfl] at hn
   split at hn
   ·cases hn; exact hv
   ·cases hn
  ·rw [if_neg e] at hn
   exact hp.lim i n x hn hx
 one := hp.one
 brk := hp.brk
theorem Aoc {b : Aa} (h : Au b) {p : Ab} {n : Nat} {z : List Int × List Ap} (hz : As b (B1 p z.1)) {c : Int} (h0 : 0 <= c) (h1 : c < b.Af.length) : As b (B1 p (O5 b p n z c).1) := by
 unfold O5
 split
 ·rename_i hl
  obtain ⟨_, g2, g3, _⟩ := Ahn h hz h0 h1
  have hco := (h.co c.toNat _ (Nf (b := b) (i := c.toNat) (by omega))).2.1
  have hm : Hc b (B1 p z.1) n c <= z.1.getD c.toNat 0 - (b.Af.getD c.toNat default).Least := Int.min_le_right _ _
  exact Abu (p := B1 p z.1) hz (c := c.toNat) ⟨by omega, by
   have : (B1 p z.1).Aq.getD c.toNat 0 = z.1.getD c.toNat 0 := rfl
   omega⟩
 ·exact hz
theorem Ahm {b : Aa} (h : Au b) {p : Ab} (hp : As b p) {acts : List Ap} {l : List Int} (hl : ∀ c, c ∈ l -> 0 <= c /\ c < b.Af.length) (ha : acts.length + l.length <= 100000) {n : Nat} (hn : n < b.Al.toNat) :
  Qb ⟨b, p, acts⟩ l (n : Int) = some ⟨b, B1 p (Iz b p n l (p.Aq, acts)).1, (Iz b p n l (p.Aq, acts)).2⟩ /\ As b (B1 p (Iz b p n l (p.Aq, acts)).1) /\ (Iz b p n l (p.Aq, acts)).2.length <= acts.length + l.length := by
 have key : Ok (Qb ⟨b, p, acts⟩ l (n : Int)) λ y => y = ⟨b, B1 p (Iz b p n l (p.Aq, acts)).1, (Iz b p n l (p.Aq, acts)).2⟩ /\ As b (B1 p (Iz b p n l (p.Aq, acts)).1) /\ (Iz b p n l (p.Aq, acts)).2.length <= acts.length + l.length := by
  unfold Qb
  refine Ok.andThen (A := λ s => s = Iz b p n l (p.Aq, acts) /\ As b (B1 p s.1) /\ s.2.length <= acts.length + l.length) (B := λ (_ : Unit) => False) ?_ (λ s hs => ?_) (λ _ h => h.elim)
  ·refine Ok.foldI0 (I := λ j s => s = Iz b p n (l.take j) (p.Aq, acts) /\ As b (B1 p s.1) /\ s.2.length <= acts.length + j) ⟨rfl, hp, by simp⟩ (λ j c s hc hI => ?_) λ s hI => ?_
   ·obtain ⟨h1, h2, h3⟩ := hI
    have hj : j < l.length := (ab.1 hc).1
    have hin := hl c (af hc)
    obtain ⟨g1, g2, g3, g4⟩ := Ahn h h2 hin.1 hin.2
    have hco := (h.co c.toNat _ (Nf (b := b) (i := c.toNat) (by omega))).2.1
    have hcl := (h.co c.toNat _ (Nf (b := b) (i := c.toNat) (by omega))).1
    have hex := A26 h h2 hn
    have hE := Ac2 h h2 s.2 hn
    have hsucc : Iz b p n (l.take (j + 1)) (p.Aq, acts) = O5 b p n s c := by
     rw [Bk hc, h1]; unfold Iz; rw [aR]; rfl
    have hok := Aoc (n := n) h h2 hin.1 hin.2
    have hless : w64 ((B1 p s.1).Aq.getD c.toNat 0 - (b.Af.getD c.toNat default).Least) = (B1 p s.1).Aq.getD c.toNat 0 - (b.Af.getD c.toNat default).Least := A8 (by omega)
    have hlen : s.1.length = b.Af.length := h2.nli
    unfold Va
    refine Ok.bind (P := λ y => y = Nb b (B1 p s.1) n) (Ok.of_eq hE rfl) λ y hy => ?_
    subst hy
    refine Ok.bind (P := λ y => y = (B1 p s.1).Aq.getD c.toNat 0) (Ok.of_eq g1 rfl) λ y hy => ?_
    subst hy
    refine Ok.bind (P := λ y => y = b.Af.getD c.toNat default) (Ok.of_eq (Bb9 hin.1 hin.2) rfl) λ y hy => ?_
    subst hy
    have em : min (Nb b (B1 p s.1) n) (w64 ((B1 p s.1).Aq.getD c.toNat 0 - (b.Af.getD c.toNat default).Least)) = Hc b (B1 p s.1) n c := by rw [hless]; rfl
    have hlb : 0 < Hc b (B1 p s.1) n c -> 0 <= (B1 p s.1).Aq.getD c.toNat 0 - Hc b (B1 p s.1) n c /\ (B1 p s.1).Aq.getD c.toNat 0 - Hc b (B1 p s.1) n c <= 50000 := λ hh => by
     have hm : Hc b (B1 p s.1) n c <= (B1 p s.1).Aq.getD c.toNat 0 - (b.Af.getD c.toNat default).Least := Int.min_le_right _ _
     omega
    refine Ok.cond (λ hq => ?_) (λ hq => ?_)
    ·simp only [Y3, em, decide_eq_true_eq, gt_iff_lt] at hq
     have hb2 := hlb hq
     rw [em, A8 (by omega)]
     have eS : O5 b p n s c = (s.1.set c.toNat (s.1.getD c.toNat 0 - Hc b (B1 p s.1) n c), s.2 ++ [⟨5, c, s.1.getD c.toNat 0 - Hc b (B1 p s.1) n c⟩]) := by unfold O5; rw [if_pos hq]
     refine (Ok.setI hin.1 (by omega)).bind λ y hy => ?_
     subst hy
     refine Ok.bind (P := λ v => v = s.1.getD c.toNat 0 - Hc b (B1 p s.1) n c) ?_ λ v hv => ?_
     ·refine (Ok.getI hin.1 (by rw [bU]; omega)).mono λ v hv => ?_
      rw [bA (by omega)] at hv
      cases hv; rfl
     ·subst hv
      refine (Ok.appI (by simp; omega)).bind λ w hw => Ok.next ?_
      subst hw
      rw [hsucc, eS]
      rw [eS] at hok
      exact ⟨rfl, hok, by simp; omega⟩
    ·simp only [Y3, em, decide_eq_false_iff_not, gt_iff_lt] at hq
     have eS : O5 b p n s c = s := by unfold O5; rw [if_neg hq]
     refine Ok.next ?_
     rw [hsucc, eS]
     exact ⟨rfl, h2, by show s.2.length <= _; omega⟩
   ·rw [aD] at hI
    exact hI
  ·obtain ⟨h1, h2, h3⟩ := hs
   subst h1
   exact Ok.pure ⟨rfl, h2, h3⟩
 obtain ⟨r, e, h1, h2⟩ := key
 rw [h1] at e
 exact ⟨e, h2⟩
def isC (c : Int) (x : Aj) : Bool := x.Kind == 3 && x.B == c
theorem Ate {b : Aa} (h : Au b) {p : Ab} (hp : As b p) {acts : List Ap} (ha : acts.length <= 100000) (c : Int) : Vg ⟨b, p, acts⟩ c = some (⟨b, D3 p (acC b p.Ag (isC c)), acts ++ acA b p.Ag (isC c)⟩, c) := by
 have hbl := h.brl
 have hnc := hp.ncl
 refine Ok.eq ?_
 unfold Vg
 refine Ok.andThen (A := λ s => s = Di b p.Ag (isC c) b.Ad.length) (B := λ (_ : Unit) => False) ?_ (λ s hs => ?_) (λ _ h => h.elim)
 ·refine Ok.foldI0 (I := λ j s => s = Di b p.Ag (isC c) j) rfl (λ j x s hx hs => ?_) λ s hs => hs
  have hj : j < b.Ad.length := (ab.1 hx).1
  have hfl := Gm b p.Ag (isC c) j
  have hfs := Q9 (C := p.Ag) (q := isC c) hx
  subst hs
  unfold Vf
  rw [Cz (by omega), Bl (Uk hp hj)]
  simp only [aa]
  have e : U4 x c = isC c x := rfl
  rw [e, hfs]
  cases (p.Ag.getD j false && isC c x) with
  | false => refine Ok.next ?_; simp
  | true =>
   refine Ok.bind (P := λ y => y = Di b p.Ag (isC c) j ++ [(j : Int)]) (Ok.appI (by simp; omega)) λ y hy => Ok.next ?_
   rw [hy]; simp
 ·subst hs
  have hfl := Gm b p.Ag (isC c) b.Ad.length
  refine Ok.andThen (Yl (b := b) (p := p) (acts := acts) (l := Di b p.Ag (isC c) b.Ad.length) (by omega) λ i hi => ?_) (λ s hs => ?_) (λ _ h => h.elim)
  ·obtain ⟨k, rfl, hk, _⟩ := H7.1 hi
   omega
  ·subst hs
   exact Ok.pure rfl
def Ir (b : Aa) (p : Ab) (n : Nat) (z : List Bool × List Ap) (c : Int) : List Bool × List Ap :=
 if 0 < p.Aq.getD c.toNat 0 /\ 0 < Nb b (D3 p z.1) n then (acC b z.1 (isC c), z.2 ++ acA b z.1 (isC c)) else z
def E9 (b : Aa) (p : Ab) (n : Nat) (l : List Int) (z : List Bool × List Ap) : List Bool × List Ap := l.foldl (Ir b p n) z
theorem Amt {b : Aa} (h : Au b) {p : Ab} (hp : As b p) {acts : List Ap} {l : List Int} (hl : ∀ c, c ∈ l -> 0 <= c /\ c < b.Af.length) (ha : acts.length + 24 * l.length <= 100000) {n : Nat} (hn : n < b.Al.toNat) :
  Qa ⟨b, p, acts⟩ l (n : Int) = some ⟨b, D3 p (E9 b p n l (p.Ag, acts)).1, (E9 b p n l (p.Ag, acts)).2⟩ /\ As b (D3 p (E9 b p n l (p.Ag, acts)).1) /\ (E9 b p n l (p.Ag, acts)).2.length <= acts.length + 24 * l.length := by
 have hbl := h.brl
 have key : Ok (Qa ⟨b, p, acts⟩ l (n : Int)) λ y => y = ⟨b, D3 p (E9 b p n l (p.Ag, acts)).1, (E9 b p n l (p.Ag, acts)).2⟩ /\ As b (D3 p (E9 b p n l (p.Ag, acts)).1) /\ (E9 b p n l (p.Ag, acts)).2.length <= acts.length + 24 * l.length := by
  unfold Qa
  refine Ok.andThen (A := λ s => ∃ z : List Bool × List Ap, s = (b.Al, b.Ad, b.Ac, b.Af, b.Phase, b.An, z.1, p.Ac, p.Aq, p.Ao, z.2) /\ z = E9 b p n l (p.Ag, acts) /\ As b (D3 p z.1) /\ z.2.length <= acts.length + 24 * l.length) (B := λ (_ : Unit) => False) ?_ (λ s hs => ?_) (λ _ h => h.elim)
  ·refine Ok.foldI0 (I := λ j s => ∃ z : List Bool × List Ap, s = (b.Al, b.Ad, b.Ac, b.Af, b.Phase, b.An, z.1, p.Ac, p.Aq, p.Ao, z.2) /\ z = E9 b p n (l.take j) (p.Ag, acts) /\ As b (D3 p z.1) /\ z.2.length <= acts.length + 24 * j) ⟨(p.Ag, acts), rfl, rfl, hp, by simp⟩ (λ j c s hc hI => ?_) λ s hI => ?_
   ·obtain ⟨z, h0, h1, h2, h3⟩ := hI
    subst h0
    have hj : j < l.length := (ab.1 hc).1
    have hin := hl c (af hc)
    obtain ⟨g1, g2, g3, g4⟩ := Ahn h hp hin.1 hin.2
    have hE := Ac2 h h2 z.2 hn
    have hsucc : E9 b p n (l.take (j + 1)) (p.Ag, acts) = Ir b p n z c := by
     rw [Bk hc, h1]; unfold E9; rw [aR]; rfl
    unfold U_
    refine Ok.bind (P := λ y => y = p.Aq.getD c.toNat 0) (Ok.of_eq g1 rfl) λ y hy => ?_
    subst hy
    have stay : ¬ (0 < p.Aq.getD c.toNat 0 /\ 0 < Nb b (D3 p z.1) n) -> ∃ w : List Bool × List Ap, (b.Al, b.Ad, b.Ac, b.Af, b.Phase, b.An, z.1, p.Ac, p.Aq, p.Ao, z.2) = (b.Al, b.Ad, b.Ac, b.Af, b.Phase, b.An, w.1, p.Ac, p.Aq, p.Ao, w.2) /\ w = E9 b p n (l.take (j + 1)) (p.Ag, acts) /\ As b (D3 p w.1) /\ w.2.length <= acts.length + 24 * (j + 1) := λ hh => by
     have eS : Ir b p n z c = z := by unfold Ir; rw [if_neg hh]
     exact ⟨z, rfl, by rw [hsucc, eS], h2, by omega⟩
    cases hq : decide (p.Aq.getD c.toNat 0 > 0) with
    | false =>
     simp only [decide_eq_false_iff_not] at hq
     exact Ok.next (stay λ hh => hq hh.1)
    | true =>
     simp only [decide_eq_true_eq] at hq
     refine Ok.bind (P := λ y => y = Nb b (D3 p z.1) n) (Ok.of_eq hE rfl) λ y hy => ?_
     subst hy
     cases hq2 : decide (Nb b (D3 p z.1) n > 0) with
     | false =>
      simp only [decide_eq_false_iff_not] at hq2
      exact Ok.next (stay λ hh => hq2 hh.2)
     | true =>
      simp only [decide_eq_true_eq] at hq2
      have hS := Ate h h2 (acts := z.2) (by omega) c
      refine Ok.bind (P := λ y => y = _) (Ok.of_eq hS rfl) λ y hy => Ok.next ?_
      subst hy
      have eS : Ir b p n z c = (acC b z.1 (isC c), z.2 ++ acA b z.1 (isC c)) := by unfold Ir; rw [if_pos ⟨hq, hq2⟩]
      refine ⟨(acC b z.1 (isC c), z.2 ++ acA b z.1 (isC c)), rfl, by rw [hsucc, eS], Ajd h2 (isC c), ?_⟩
      have := W5 b z.1 (isC c)
      show (z.2 ++ acA b z.1 (isC c)).length <= _
      rw [aJ]; omega
   ·rw [aD] at hI
    exact hI
  ·obtain ⟨z, h0, h1, h2, h3⟩ := hs
   subst h0; subst h1
   exact Ok.pure ⟨rfl, h2, h3⟩
 obtain ⟨r, e, h1, h2⟩ := key
 rw [h1] at e
 exact ⟨e, h2⟩
def H2 (x : Ai) (c : Int) : Bool := x.Af.any (c == ·)
theorem A08 {x : Ai} (hx : x.Af.length <= 1000) (c : Int) : Qc c x = some (!H2 x c) := by
 unfold Qc
 rw [Dj _ _ (by omega)]; rfl
theorem Ac7 {x : Ai} (hx : x.Af.length <= 1000) : ∀ (l : List Int) (k : Nat), foldI (Ou x) l k () = match l.findIdx? λ c => !H2 x c with
  | some j => some (.ret (cnt 0 (k + j), x))
  | none => some (.next ())
 | [], _ => rfl
 | c :: l, k => by
  simp only [foldI, Ou, A08 hx, aa, List.findIdx?_cons]
  cases hq : (!H2 x c) with
  | true => rfl
  | false =>
   simp only [cond_false, bN, if_false]
   rw [Ac7 hx l (k + 1)]
   cases l.findIdx? λ c => !H2 x c with
   | none => rfl
   | some j =>
    have e : k + 1 + j = k + (j + 1) := by omega
    simp only [bH, e]
theorem A3a {x : Ai} (hx : x.Af.length <= 1000) (l : List Int) (hl : l.length <= 1000) : Vc l x = some (l.filter (H2 x), x) := by
 refine Ok.eq ?_
 unfold Vc vV
 rw [Ac7 hx]
 cases hf : l.findIdx? λ c => !H2 x c with
 | none =>
  rw [cG] at hf
  refine Ok.pure ?_
  have : l.filter (H2 x) = l := by
   rw [cA]
   intro c hc
   have := hf c hc
   simpa using this
  rw [this]
 | some i =>
  rw [cH] at hf
  obtain ⟨hi, hp, hn⟩ := hf
  have e0 : cnt 0 (0 + i) = (i : Int) := by rw [aH]; exact Cz (by omega)
  simp only [e0, andThen, aa]
  refine Ok.cond (λ hc => ?_) (λ _ => ?_)
  ·simp only [beq_iff_eq] at hc; omega
  have e1 : w64 ((i : Int) + 1) = (i : Int) + 1 := A8 (by omega)
  rw [e1]
  refine Ok.andThen (A := λ s => 0 <= s.1 /\ s.1 <= (l.length : Int) /\ s.2.2.length = l.length /\ s.2.2.take s.1.toNat = l.filter (H2 x)) (B := λ (_ : Unit) => False) ?_ ?_ (λ _ h => h.elim)
  ·refine Ok.whileN (λ s => (0 <= s.1 /\ s.1 < s.2.1 /\ s.2.1 <= (l.length : Int)) /\ s.2.2.length = l.length /\ s.2.2.take s.1.toNat = (l.take s.2.1.toNat).filter (H2 x) /\ s.2.2.drop s.2.1.toNat = l.drop s.2.1.toNat) (λ s => ((l.length : Int) - s.2.1).toNat) _ _ ?_ ?_ ?_
   ·refine ⟨by dsimp only; omega, rfl, ?_, rfl⟩
    dsimp only
    have e2 : ((i : Int) + 1).toNat = i + 1 := by omega
    rw [e2, az, Bk (ae hi), bj]
    have h1 : (l.take i).filter (H2 x) = l.take i := by
     rw [cA]
     intro c hc
     obtain ⟨j, hj, rfl⟩ := cz hc
     simp only [aO] at hj
     rw [List.getElem_take]
     have := hn j (by omega)
     simpa using this
    have h2 : H2 x l[i] = false := by simpa using hp
    rw [h1]
    simp [h2]
   ·dsimp only; omega
   ·rintro ⟨a, j, m⟩ ⟨⟨h1, h2, h3⟩, h4, h5, h6⟩
    dsimp only at h1 h2 h3 h4 h5 h6
    unfold Vb Ait
    dsimp only
    refine Ok.cond (λ hq => ?_) (λ hq => ?_)
    ·simp only [decide_eq_true_eq] at hq
     have e1 : w64 (j + 1) = j + 1 := A8 (by omega)
     have e2 : w64 (a + 1) = a + 1 := A8 (by omega)
     have e3 : (j + 1).toNat = j.toNat + 1 := by omega
     have e4 : (a + 1).toNat = a.toNat + 1 := by omega
     refine (Ok.getI (by omega) (by omega)).bind λ y hy => ?_
     have hyl : l[j.toNat]? = some y := by
      have := congrArg (·[0]?) h6
      simp only [al, cj] at this
      rw [← this]; exact hy
     have hdrop : ∀ (q : List Int), q.drop j.toNat = l.drop j.toNat -> q.drop (j.toNat + 1) = l.drop (j.toNat + 1) := λ q hq => by
      rw [← bI, hq, bI]
     rw [A08 hx]
     simp only [aa, Bool.not_not]
     refine Ok.cond (λ hf => ?_) (λ hf => ?_)
     ·refine (Ok.getI (by omega) (by omega)).bind λ _ _ => (Ok.setI (by omega) (by omega)).bind λ z hz => ?_
      rw [e1, e2]
      subst hz
      refine Ok.next ⟨⟨by dsimp only; omega, by simpa using h4, ?_, ?_⟩, by dsimp only; omega⟩
      ·dsimp only
       rw [e3, e4, Bk hyl, bj, ← h5]
       rw [Bk (x := y) (by rw [bA (by omega)])]
       simp [hf, List.take_set_of_le]
      ·dsimp only
       rw [e3, List.drop_set_of_lt (by omega)]
       exact hdrop m h6
     ·rw [e1]
      refine Ok.next ⟨⟨by dsimp only; omega, h4, ?_, ?_⟩, by dsimp only; omega⟩
      ·dsimp only
       rw [e3, Bk hyl, bj, ← h5]
       simp [hf]
      ·dsimp only
       rw [e3]; exact hdrop m h6
    ·simp only [decide_eq_false_iff_not] at hq
     have e : j.toNat = l.length := by omega
     refine Ok.brk ⟨h1, by dsimp only; omega, h4, ?_⟩
     dsimp only
     rw [h5, e, aD]
  ·rintro ⟨a, j, m⟩ ⟨h1, h2, h3, h4⟩
   dsimp only at h1 h2 h3 h4 ⊢
   have hc : (Gn m a.toNat ((Int.toNat (m.length : Int)) - a.toNat) (0 : Int)).length = l.length := by
    simp [Gn]; omega
   refine (Ok.bndI h1 (by omega) (by omega)).bind λ _ _ => (Ok.bndI (by omega) h1 (by rw [hc]; omega)).bind λ _ _ => Ok.pure ?_
   rw [← h4]
   unfold Gn
   rw [Nat.sub_zero, cr (by simp; omega), List.take_take, Nat.min_self]
def Ii (b : Aa) (x : Ai) : List Int := (O2 b).filter (H2 x)
theorem Po {b : Aa} (h : Au b) {x : Ai} {c : Int} (hc : c ∈ Ii b x) : 0 <= c /\ c < b.Af.length := A3z h (ax.1 hc).1
theorem Ag7 {b : Aa} (h : Au b) (x : Ai) : (Ii b x).length <= 16 := by
 have h1 := bp (H2 x) (O2 b)
 have h2 := An4 h
 have h3 := h.col
 unfold Ii; omega
def Rf (x : Ai) : Nat := (x.Al.headD 0).toNat
def G6 (b : Aa) (x : Ai) (z : Ab × List Ap) : List Int × List Ap := Iz b z.1 (Rf x) (Ii b x) (z.1.Aq, z.2)
def Qv (b : Aa) (x : Ai) (z : Ab × List Ap) : List Bool × List Ap := E9 b (B1 z.1 (G6 b x z).1) (Rf x) (Ii b x) (z.1.Ag, (G6 b x z).2)
def Hg (b : Aa) (z : Ab × List Ap) (x : Ai) : Ab × List Ap :=
 if 0 < x.Ac.length then (D3 (B1 z.1 (G6 b x z).1) (Qv b x z).1, (Qv b x z).2) else z
def Hh (b : Aa) (l : List Ai) (z : Ab × List Ap) : Ab × List Ap := l.foldl (Hg b) z
structure Afn (b : Aa) (x : Ai) : Prop where
 cons : x.Af.length <= 16
 ne : x.Al ≠ []
 bus : ∀ n, n ∈ x.Al -> 0 <= n /\ n < b.Al
theorem Ahx {b : Aa} (h : Au b) {p : Ab} {x : Ai} (hx : x ∈ Bm b p) : Afn b x := by
 have hcl := h.col
 unfold Bm at hx
 obtain ⟨h1, h2⟩ := ax.1 hx
 obtain ⟨f, hf, rfl⟩ := aq.1 h1
 have hc : (isl b p f).Af.length <= b.Af.length := Dn _ _
 refine ⟨by omega, λ e => ?_, λ n hn => ?_⟩
 ·unfold I1 at h2
  rw [e] at h2; simp at h2
 ·obtain ⟨k, hk, rfl⟩ := aq.1 hn
  have := aV.1 (ax.1 hk).1
  omega
theorem Y5 {b : Aa} {x : Ai} (hx : Afn b x) : getI x.Al 0 = some ((Rf x : Nat) : Int) /\ Rf x < b.Al.toNat := by
 unfold Rf
 cases hb : x.Al with
 | nil => exact absurd hb hx.ne
 | cons n l =>
  have := hx.bus n (by rw [hb]; exact ai)
  simp only [List.headD_cons]
  refine ⟨?_, by omega⟩
  have e : (n.toNat : Int) = n := by omega
  rw [e]; rfl
theorem A2i {b : Aa} (h : Au b) {p : Ab} (hp : As b p) {acts : List Ap} (ha : acts.length <= 1000) :
  Qd ⟨b, p, acts⟩ = some ⟨b, (Hh b (Bm b p) (p, acts)).1, (Hh b (Bm b p) (p, acts)).2⟩ /\ As b (Hh b (Bm b p) (p, acts)).1 /\ (Hh b (Bm b p) (p, acts)).2.length <= 10000 := by
 have hil := H3 b p
 have hbu := h.buses
 have hcl := h.col
 have hol := An4 h
 have key : Ok (Qd ⟨b, p, acts⟩) λ y => y = ⟨b, (Hh b (Bm b p) (p, acts)).1, (Hh b (Bm b p) (p, acts)).2⟩ /\ As b (Hh b (Bm b p) (p, acts)).1 /\ (Hh b (Bm b p) (p, acts)).2.length <= 10000 := by
  unfold Qd
  simp only [(Yk h).1, aa]
  have hi : F89 b p = some (Bm b p) := H4 h hp
  refine Ok.bind (P := λ y => y = Bm b p) (Ok.of_eq hi rfl) λ y hy => ?_
  subst hy
  refine Ok.andThen (A := λ s => ∃ z : Ab × List Ap, s = (b.Al, b.Ad, b.Ac, b.Af, b.Phase, b.An, z.1.Ag, z.1.Ac, z.1.Aq, z.1.Ao, z.2) /\ z = Hh b (Bm b p) (p, acts) /\ As b z.1 /\ z.2.length <= 10000) (B := λ (_ : Unit) => False) ?_ (λ s hs => ?_) (λ _ h => h.elim)
  ·refine Ok.foldI0 (I := λ j s => ∃ z : Ab × List Ap, s = (b.Al, b.Ad, b.Ac, b.Af, b.Phase, b.An, z.1.Ag, z.1.Ac, z.1.Aq, z.1.Ao, z.2) /\ z = Hh b ((Bm b p).take j) (p, acts) /\ As b z.1 /\ z.2.length <= 1000 + 400 * j) ⟨(p, acts), rfl, rfl, hp, by simpa using ha⟩ (λ j x s hx hI => ?_) λ s hI => ?_
   ·obtain ⟨z, h0, h1, h2, h3⟩ := hI
    subst h0
    have hj : j < (Bm b p).length := (ab.1 hx).1
    have hin := Ahx h (af hx)
    have hsucc : Hh b ((Bm b p).take (j + 1)) (p, acts) = Hg b z x := by
     rw [Bk hx, h1]; unfold Hh; rw [aR]; rfl
    have hc := hin.cons
    have hol2 := Ag7 h x
    obtain ⟨e0, hb0⟩ := Y5 hin
    unfold Vp
    have ecl : Z6 (O2 b) = some (O2 b) := by
     unfold Z6
     rw [Ls (by omega)]
    rw [ecl]
    simp only [aa]
    rw [A3a (by omega) _ (by omega)]
    simp only [aa]
    refine Ok.cond (λ hq => ?_) (λ hq => ?_)
    ·simp only [decide_eq_true_eq] at hq
     rw [e0]
     simp only [aa]
     obtain ⟨l1, l2, l3⟩ := Ahm h h2 (acts := z.2) (l := Ii b x) (λ c hc => Po h hc) (by omega) hb0
     refine Ok.bind (P := λ y => y = _) (Ok.of_eq l1 rfl) λ y hy => ?_
     subst hy
     obtain ⟨t1, t2, t3⟩ := Amt h l2 (acts := (G6 b x z).2) (l := Ii b x) (λ c hc => Po h hc) (by unfold G6; omega) hb0
     refine Ok.bind (P := λ y => y = _) (Ok.of_eq t1 rfl) λ y hy => Ok.next ?_
     subst hy
     have eS : Hg b z x = (D3 (B1 z.1 (G6 b x z).1) (Qv b x z).1, (Qv b x z).2) := by unfold Hg; rw [if_pos (by omega)]
     refine ⟨(D3 (B1 z.1 (G6 b x z).1) (Qv b x z).1, (Qv b x z).2), rfl, by rw [hsucc, eS], t2, ?_⟩
     have t4 : (Qv b x z).2.length <= (G6 b x z).2.length + 24 * (Ii b x).length := t3
     have l4 : (G6 b x z).2.length <= z.2.length + (Ii b x).length := l3
     show (Qv b x z).2.length <= _
     omega
    ·simp only [decide_eq_false_iff_not] at hq
     have eS : Hg b z x = z := by unfold Hg; rw [if_neg (by omega)]
     exact Ok.next ⟨z, rfl, by rw [hsucc, eS], h2, by omega⟩
   ·rw [aD] at hI
    obtain ⟨z, h0, h1, h2, h3⟩ := hI
    exact ⟨z, h0, h1, h2, by omega⟩
  ·obtain ⟨z, h0, h1, h2, h3⟩ := hs
   subst h0; subst h1
   exact Ok.pure ⟨rfl, h2, h3⟩
 obtain ⟨r, e, h1, h2⟩ := key
 rw [h1] at e
 exact ⟨e, h2⟩
def A3y (b : Aa) (p : Ab) : Ab × List Ap := Hh b (Bm b (J0 b p)) (J0 b p, Ui b p)
def Iy (b : Aa) (p : Ab) : Ab := (A3y b p).1
def Em (b : Aa) (p : Ab) : List Ap := (A3y b p).2
theorem Hu {b : Aa} (h : Au b) {p : Ab} (hp : As b p) : Alv b p = some (Iy b p, Em b p, 0) /\ As b (Iy b p) /\ (Em b p).length <= 10000 := by
 have hbl := h.brl
 have hcl := Aiq b p
 obtain ⟨s1, s2, s3⟩ := A2i h (Wx hp) (acts := Ui b p) (by omega)
 refine ⟨?_, s2, s3⟩
 unfold Alv vU vT
 rw [Cm h hp, Cv h hp]
 simp only [aa, bne_self_eq_false, cond_false]
 rw [Az2 h hp]
 simp only [aa]
 rw [s1]
 rfl
theorem A34 (b : Aa) : Abd b ⟨7, 0, 0⟩ = some true := rfl
theorem A0d {b : Aa} (h : Au b) {p : Az} (hp : As b p.Power) (h1 : p.A5.length <= 1000) (h2 : p.A6.length <= 10000000) : F63 b p = some ⟨p, b, [], []⟩ := by
 unfold F63 Alw F84
 rw [Cv h hp, Ls (by omega), Ls (by omega)]
 rfl
theorem A2t {b : Aa} (h : Au b) {r : A1} {p : Ab} (hp : As b p) (h1 : r.states.length <= 10000000) : vB r p = some ⟨r.Av, r.Ak, r.events, r.states ++ [p]⟩ := by
 refine Ok.eq ?_
 unfold vB
 rw [Cv h hp]
 simp only [aa]
 exact (Ok.appI (by simp; omega)).bind λ s hs => Ok.pure (by rw [hs])
theorem Ay6 {b : Aa} (h : Au b) {r : A1} {p : Ab} (hp : As b r.Av.Power) (h1 : r.states.length <= 10000000) : Xd r p = some ⟨r.Av, r.Ak, r.events, r.states ++ [r.Av.Power]⟩ := by
 refine Ok.eq ?_
 unfold Xd
 rw [Cv h hp]
 simp only [aa]
 exact (Ok.appI (by simp; omega)).bind λ s hs => Ok.pure (by rw [hs])
theorem A3x : F13 = some true := by kernel_rfl
theorem Of {α : Type} {f : Nat -> α -> Unit -> Option (Ctl Unit Bool)} {l m : List α} {e : α -> α -> Bool} (he : ∀ x y, e x y = true -> x = y)
  (hf : ∀ (j : Nat) x y, l[j]? = some x -> m[j]? = some y -> f j x () = bif !e x y then some (.ret false) else some (.next ())) (hl : l.length = m.length) :
  Ok (andThen (foldI f l 0 ()) some λ _ => some true) λ v => v = true -> l = m := by
 refine Ok.andThen (A := λ _ => l = m) (B := λ v => v = false) ?_ (λ _ hs => Ok.pure λ _ => hs) (λ v hv => Ok.pure λ hh => by rw [hv] at hh; cases hh)
 refine Ok.foldI0 (I := λ j _ => l.take j = m.take j) rfl (λ j x _ hx hI => ?_) λ _ hI => ?_
 ·have hj := (ab.1 hx).1
  have hy : m[j]? = some (m[j]'(by omega)) := ae (by omega)
  rw [hf j x _ hx hy]
  refine Ok.cond (λ _ => Ok.ret rfl) (λ hq => Ok.next ?_)
  have := he _ _ (by simpa using hq)
  rw [Bk hx, Bk hy, hI, ← this]
 ·rw [aD] at hI
  rw [hI, hl, aD]
theorem A50 {l m : List Bool} (h : l.length <= 1000) : Ok (jB l m) λ v => v = true -> l = m := by
 unfold jB
 refine Ok.cond (λ _ => Ok.pure λ hh => by cases hh) (λ hq => ?_)
 have hl : l.length = m.length := by simp only [bne_eq_false_iff_eq] at hq; omega
 refine Of (e := λ x y => x == y) (λ x y hh => by simpa using hh) (λ j x y hx hy => ?_) hl
 have hj := (ab.1 hx).1
 unfold Xp
 rw [Cz (by omega), Bl hy]; rfl
theorem A5z {l m : List Int} (h : l.length <= 1000) : Ok (Z_ l m) λ v => v = true -> l = m := by
 unfold Z_
 refine Ok.cond (λ _ => Ok.pure λ hh => by cases hh) (λ hq => ?_)
 have hl : l.length = m.length := by simp only [bne_eq_false_iff_eq] at hq; omega
 refine Of (e := λ x y => x == y) (λ x y hh => by simpa using hh) (λ j x y hx hy => ?_) hl
 have hj := (ab.1 hx).1
 unfold Xn
 rw [Cz (by omega), Bl hy]; rfl
theorem A5x {l m : List Ae} (h : l.length <= 1000) : Ok (jA l m) λ v => v = true -> l = m := by
 unfold jA
 refine Ok.cond (λ _ => Ok.pure λ hh => by cases hh) (λ hq => ?_)
 have hl : l.length = m.length := by simp only [bne_eq_false_iff_eq] at hq; omega
 refine Of (e := λ x y => (x.State == y.State) && ((x.Since == y.Since) && ((x.An == y.An) && ((x.Phase == y.Phase) && true)))) (λ x y hh => ?_) (λ j x y hx hy => ?_) hl
 ·simp only [ac, beq_iff_eq] at hh
  obtain ⟨h1, h2, h3, h4, _⟩ := hh
  cases x; cases y; simp_all
 ·have hj := (ab.1 hx).1
  unfold Xo
  rw [Cz (by omega), Bl hy]; rfl
theorem A5y {l m : List Am} (h : l.length <= 1000) : Ok (Z9 l m) λ v => v = true -> l = m := by
 unfold Z9
 refine Ok.cond (λ _ => Ok.pure λ hh => by cases hh) (λ hq => ?_)
 have hl : l.length = m.length := by simp only [bne_eq_false_iff_eq] at hq; omega
 refine Of (e := λ x y => (x.Kind == y.Kind) && ((x.Number == y.Number) && true)) (λ x y hh => ?_) (λ j x y hx hy => ?_) hl
 ·simp only [ac, beq_iff_eq] at hh
  obtain ⟨h1, h2, _⟩ := hh
  cases x; cases y; simp_all
 ·have hj := (ab.1 hx).1
  unfold Xm
  rw [Cz (by omega), Bl hy]; rfl
def Ji (p q : Ab) : Bool := (F60 p q).getD false
theorem Amy {p : Ab} (hp : Asm p) (q : Ab) : F60 p q = some (Ji p q) /\ (Ji p q = true -> p = q) := by
 have h1 := hp.c
 have h2 := hp.s
 have h3 := hp.l
 have h4 := hp.k
 have key : Ok (F60 p q) λ v => v = true -> p = q := by
  unfold F60
  refine (A50 (l := p.Ag) (m := q.Ag) (by omega)).bind λ v1 e1 => ?_
  cases v1 with
  | false => exact Ok.pure λ hh => by simp at hh
  | true =>
   refine Ok.bind (P := λ v => v = true -> p.Ac = q.Ac) (A5x (by omega)) λ v2 e2 => ?_
   cases v2 with
   | false => exact Ok.pure λ hh => by simp at hh
   | true =>
    refine Ok.bind (P := λ v => v = true -> p.Aq = q.Aq) (A5z (by omega)) λ v3 e3 => ?_
    cases v3 with
    | false => exact Ok.pure λ hh => by simp at hh
    | true =>
     refine Ok.bind (P := λ v => v = true -> p.Ao = q.Ao) (A5y (by omega)) λ v4 e4 => Ok.pure λ hh => ?_
     have w1 := e1 rfl
     have w2 := e2 rfl
     have w3 := e3 rfl
     have w4 := e4 (by simpa using hh)
     cases p; cases q; simp_all
 obtain ⟨r, e, hr⟩ := key
 have : Ji p q = r := by unfold Ji; rw [e]; rfl
 rw [this]
 exact ⟨e, hr⟩
def ap (p : Ab) (x : Ap) : Ab := if x.Kind = 2 then D3 p (p.Ag.set x.Unit.toNat false) else B1 p (p.Aq.set x.Unit.toNat x.Value)
def Afq (b : Aa) (x : Ap) : Prop := (x.Kind = 2 /\ 0 <= x.Unit /\ x.Unit < b.Ad.length) \/ (x.Kind = 5 /\ (0 <= x.Unit /\ x.Unit < b.Af.length) /\ 0 <= x.Value /\ x.Value <= (b.Af.getD x.Unit.toNat default).Load)
theorem Arv {b : Aa} {p : Ab} (hp : As b p) {x : Ap} (hx : Afq b x) : As b (ap p x) := by
 unfold ap
 rcases hx with ⟨hk, _⟩ | ⟨hk, h1, h2⟩
 ·rw [if_pos hk]; exact Aqh hp _
 ·rw [if_neg (by omega)]; exact Abu hp h2
def Et (b : Aa) (p : Ab) (z : Ab × List Ap) : Prop := z.2.foldl ap p = ⟨z.1.Ag, p.Ac, z.1.Aq, p.Ao⟩ /\ ∀ x, x ∈ z.2 -> Afq b x
theorem Ajc {p q : Ab} : ∀ (l : List Int) (C : List Bool), q = D3 p C -> (Ly l).foldl ap q = D3 p (Gh C l)
 | [], C, hq => hq
 | i :: l, C, hq => by
  subst hq
  exact Ajc l (C.set i.toNat false) rfl
theorem vZ {b : Aa} {p : Ab} {z : Ab × List Ap} (hz : Et b p z) (q : Aj -> Bool) (S : List Ae) : Et b p (⟨acC b z.1.Ag q, S, z.1.Aq, z.1.Ao⟩, z.2 ++ acA b z.1.Ag q) := by
 refine ⟨?_, λ x hx => ?_⟩
 ·dsimp only
  rw [aR, hz.1]
  exact Ajc (p := ⟨z.1.Ag, p.Ac, z.1.Aq, p.Ao⟩) (Di b z.1.Ag q b.Ad.length) z.1.Ag rfl
 ·rcases au.1 hx with hx | hx
  ·exact hz.2 x hx
  ·obtain ⟨i, hi, rfl⟩ := aq.1 hx
   obtain ⟨k, rfl, hk, _⟩ := H7.1 hi
   exact .inl ⟨rfl, by dsimp only; omega, by dsimp only; omega⟩
theorem A91 {b : Aa} {p q r : Ab} {l : List Ap} (hz : Et b p (q, l)) (h1 : r.Ag = q.Ag) (h2 : r.Aq = q.Aq) : Et b p (r, l) := by
 refine ⟨?_, hz.2⟩
 have := hz.1
 dsimp only at this ⊢
 rw [this, h1, h2]
theorem Atd {b : Aa} (h : Au b) {p q : Ab} (n : Nat) : ∀ (l : List Int) (z : List Int × List Ap), (∀ c, c ∈ l -> 0 <= c /\ c < b.Af.length) -> As b (B1 q z.1) -> Et b p (B1 q z.1, z.2) -> Et b p (B1 q (Iz b q n l z).1, (Iz b q n l z).2)
 | [], _, _, _, hz => hz
 | c :: l, z, hl, hs, hz => by
  have hin := hl c ai
  have hok := Aoc (n := n) h hs hin.1 hin.2
  refine Atd h n l (O5 b q n z c) (λ d hd => hl d (ah _ hd)) hok ?_
  unfold O5 at hok ⊢
  split
  ·rename_i hq
   rw [if_pos hq] at hok
   obtain ⟨_, w2, w3, _⟩ := Ahn h hok hin.1 hin.2
   have hlen : z.1.length = b.Af.length := hs.nli
   have ev : ∀ v : Int, (z.1.set c.toNat v).getD c.toNat 0 = v := λ v => by rw [Avc, if_pos ⟨rfl, by omega⟩]
   have w2' : 0 <= (z.1.set c.toNat (z.1.getD c.toNat 0 - Hc b (B1 q z.1) n c)).getD c.toNat 0 := w2
   have w3' : (z.1.set c.toNat (z.1.getD c.toNat 0 - Hc b (B1 q z.1) n c)).getD c.toNat 0 <= (b.Af.getD c.toNat default).Load := w3
   rw [ev] at w2' w3'
   refine ⟨?_, λ x hx => ?_⟩
   ·dsimp only
    rw [aR, hz.1]; rfl
   ·rcases au.1 hx with hx | hx
    ·exact hz.2 x hx
    ·simp only [bn] at hx
     subst hx
     exact .inr ⟨rfl, hin, w2', w3'⟩
  ·exact hz
theorem Amu {b : Aa} {p q : Ab} (n : Nat) : ∀ (l : List Int) (z : List Bool × List Ap), Et b p (D3 q z.1, z.2) -> Et b p (D3 q (E9 b q n l z).1, (E9 b q n l z).2)
 | [], _, hz => hz
 | c :: l, z, hz => by
  refine Amu n l (Ir b q n z c) ?_
  unfold Ir
  split
  ·exact vZ (z := (D3 q z.1, z.2)) hz (isC c) q.Ac
  ·exact hz
theorem A2k {b : Aa} (h : Au b) {x : Ai} (hx : Afn b x) {p : Ab} {z : Ab × List Ap} (hs : As b z.1) (ha : z.2.length <= 10000) (hz : Et b p z) : As b (Hg b z x).1 /\ Et b p (Hg b z x) /\ (Hg b z x).2.length <= z.2.length + 400 := by
 have hol2 := Ag7 h x
 obtain ⟨e0, hb0⟩ := Y5 hx
 unfold Hg
 split
 ·obtain ⟨_, l2, l3⟩ := Ahm h hs (acts := z.2) (l := Ii b x) (λ c hc => Po h hc) (by omega) hb0
  obtain ⟨_, t2, t3⟩ := Amt h l2 (acts := (G6 b x z).2) (l := Ii b x) (λ c hc => Po h hc) (by unfold G6; omega) hb0
  have t4 : (Qv b x z).2.length <= (G6 b x z).2.length + 24 * (Ii b x).length := t3
  have l4 : (G6 b x z).2.length <= z.2.length + (Ii b x).length := l3
  refine ⟨t2, ?_, by dsimp only; omega⟩
  have hl : Et b p (B1 z.1 (G6 b x z).1, (G6 b x z).2) := Atd h (Rf x) (Ii b x) (z.1.Aq, z.2) (λ c hc => Po h hc) hs hz
  exact Amu (Rf x) (Ii b x) (z.1.Ag, (G6 b x z).2) hl
 ·exact ⟨hs, hz, by omega⟩
theorem An1 {b : Aa} (h : Au b) {p : Ab} : ∀ (l : List Ai) (z : Ab × List Ap), (∀ x, x ∈ l -> Afn b x) -> As b z.1 -> z.2.length + 400 * l.length <= 10000 -> Et b p z -> Et b p (Hh b l z)
 | [], _, _, _, _, hz => hz
 | x :: l, z, hl, hs, ha, hz => by
  rw [aU] at ha
  obtain ⟨h1, h2, h3⟩ := A2k h (hl x ai) hs (by omega) hz
  exact An1 h l (Hg b z x) (λ y hy => hl y (ah _ hy)) h1 (by omega) h2
theorem A7r {b : Aa} (p : Ab) : Et b p (J0 b p, Ui b p) := by
 have h0 : Et b p (p, []) := ⟨rfl, λ x hx => by cases hx⟩
 have h1 := vZ h0 (D0 p) p.Ac
 have h2 := vZ h1 (Fq b (Uj b p)) p.Ac
 exact A91 h2 rfl rfl
theorem Auq {b : Aa} (h : Au b) {p : Ab} (hp : As b p) : Et b p (Iy b p, Em b p) := by
 have hil := H3 b (J0 b p)
 have hbu := h.buses
 have hbl := h.brl
 have hcl := Aiq b p
 exact An1 h (Bm b (J0 b p)) (J0 b p, Ui b p) (λ x hx => Ahx h hx) (Wx hp) (by dsimp only; omega) (A7r p)
def Fa : List Ap -> Ab -> List Ab
 | [], _ => []
 | x :: l, p => ap p x :: Fa l (ap p x)
theorem K9 : ∀ (l : List Ap) (p : Ab), (Fa l p).length = l.length
 | [], _ => rfl
 | x :: l, p => by simp [Fa, K9 l]
theorem qP : ∀ (l : List Ap) (x : Ap) (p : Ab), Fa (l ++ [x]) p = Fa l p ++ [ap (l.foldl ap p) x]
 | [], _, _ => rfl
 | y :: l, x, p => by
  show ap p y :: Fa (l ++ [x]) (ap p y) = _
  rw [qP l x]; rfl
def Bw (b : Aa) (p : Ab) (t : Int) (a : Ap) : Ab × Int := (F83 b p t a).getD default
theorem W0 {b : Aa} (h : Au b) {p : Ab} (hp : As b p) (t : Int) (a : Ap) : F83 b p t a = some (Bw b p t a) /\ ((Bw b p t a).2 ≠ 0 \/ As b (Bw b p t a).1) := by
 obtain ⟨r, e, hr⟩ := A78 h hp t a
 have : Bw b p t a = r := by unfold Bw; rw [e]; rfl
 rw [this]
 exact ⟨e, hr.imp (·.1) (·.2)⟩
def Ln (b : Aa) (p : Ab) (t : Int) (a : Ap) : Int := if a.Kind = 7 then 1 else (Bw b p t a).2
def Gi (b : Aa) (p : Ab) (t : Int) (a : Ap) : Ab := (Bw b p t a).1
def doP (b : Aa) (p : Ab) (t : Int) (a : Ap) : Ab := if Ln b p t a = 0 then Iy b (Gi b p t a) else p
def doE (b : Aa) (p : Ab) (t : Int) (a : Ap) : List Bg := ⟨t, a, Ln b p t a⟩ :: if Ln b p t a = 0 then (Em b (Gi b p t a)).map (λ x => ⟨t, x, 0⟩) else []
def Js (b : Aa) (p : Ab) (t : Int) (a : Ap) : Ab := (Em b (Gi b p t a)).foldl ap (Gi b p t a)
def doS (b : Aa) (p : Ab) (t : Int) (a : Ap) : List Ab :=
 if Ln b p t a = 0 then [Gi b p t a] ++ Fa (Em b (Gi b p t a)) (Gi b p t a) ++ (if Ji (Js b p t a) (doP b p t a) = true then [] else [doP b p t a]) else []
theorem Nd {b : Aa} (h : Au b) {p : Ab} (hp : As b p) {t : Int} {a : Ap} (he : Ln b p t a = 0) : As b (Gi b p t a) /\ (Bw b p t a).2 = 0 /\ a.Kind ≠ 7 := by
 unfold Ln at he
 by_cases hk : a.Kind = 7
 ·rw [if_pos hk] at he; omega
 ·rw [if_neg hk] at he
  rcases (W0 h hp t a).2 with h1 | h1
  ·exact absurd he h1
  ·exact ⟨h1, he, hk⟩
theorem uC {b : Aa} (h : Au b) {p : Ab} (hp : As b p) (t : Int) (a : Ap) : As b (doP b p t a) := by
 unfold doP
 split
 ·rename_i he
  exact (Hu h (Nd h hp he).1).2.1
 ·exact hp
theorem Q2 {b : Aa} (h : Au b) {r : A1} {p : Ab} (hp : As b p) (h1 : r.states.length <= 10000000) : Md r p = some ⟨r.Av, r.Ak, r.events, r.states ++ [p]⟩ := by
 refine Ok.eq ?_
 unfold Md
 rw [Cv h hp]
 simp only [aa]
 exact (Ok.appI (by simp; omega)).bind λ s hs => Ok.pure (by rw [hs])
theorem An8 {r : A1} (h1 : r.events.length <= 10000000) (a : Ap) (e : Int) : Qf r a e = some ⟨r.Av, r.Ak, r.events ++ [⟨r.Av.Time, a, e⟩], r.states⟩ := by
 refine Ok.eq ?_
 unfold Qf
 exact (Ok.appI (by simp; omega)).bind λ s hs => Ok.pure (by rw [hs])
theorem V0 {b : Aa} : ∀ (l : List Ap) {p : Ab}, As b p -> (∀ x, x ∈ l -> Afq b x) -> As b (l.foldl ap p)
 | [], _, hp, _ => hp
 | x :: l, p, hp, hl => V0 l (Arv hp (hl x ai)) λ y hy => hl y (ah _ hy)
theorem A9p {b : Aa} (h : Au b) {T : Int} {P : Ab} {ros : List A0} {evs ev : List Bg} {sts : List Ab} (hp : As b P) (h1 : ev.length <= 1000000) (h2 : sts.length <= 1000000) (a : Ap) :
  R5 ⟨⟨T, P, ros, evs⟩, b, ev, sts⟩ a = some ⟨⟨T, doP b P T a, ros, evs⟩, b, ev ++ doE b P T a, sts ++ doS b P T a⟩ := by
 obtain ⟨ha, _⟩ := W0 h hp T a
 refine Ok.eq ?_
 unfold R5
 simp only [ha, aa]
 refine Ok.andThen (A := λ s => s = Ln b P T a) (B := λ (_ : Unit) => False) ?_ (λ s hs => ?_) (λ _ h => h.elim)
 ·unfold Zv Ln
  refine Ok.cond (λ hq => Ok.nextE ?_) (λ hq => Ok.nextE ?_)
  ·rw [if_pos (by simpa using hq)]
  ·rw [if_neg (by simpa using hq)]
 subst hs
 rw [An8 (by dsimp only; omega)]
 simp only [aa]
 refine Ok.cond (λ hq => Ok.pure ?_) (λ hq => ?_)
 ·have he : ¬ Ln b P T a = 0 := by simpa using hq
  unfold doP doE doS
  rw [if_neg he, if_neg he, if_neg he]; simp
 have he : Ln b P T a = 0 := by simpa using hq
 obtain ⟨hn, _, _⟩ := Nd h hp he
 have hn' : As b (Bw b P T a).1 := hn
 rw [Q2 h hn' (by dsimp only; omega)]
 simp only [aa]
 obtain ⟨p1, p2, p3⟩ := Hu h hn'
 rw [p1]
 simp only [aa]
 have htr := Auq h hn'
 have eP : doP b P T a = Iy b (Bw b P T a).1 := by unfold doP Gi; rw [if_pos he]
 have eE : doE b P T a = ⟨T, a, 0⟩ :: (Em b (Bw b P T a).1).map (λ x => ⟨T, x, 0⟩) := by unfold doE Gi; rw [if_pos he, he]
 have eL : Js b P T a = (Em b (Bw b P T a).1).foldl ap (Bw b P T a).1 := rfl
 refine Ok.andThen (A := λ s => ∃ q : Ab, q = Js b P T a /\ s = (T, b.Al, b.Ad, b.Ac, b.Af, b.Phase, b.An, P.Ag, P.Ac, P.Aq, P.Ao, ros, evs, q.Ag, ev ++ doE b P T a, sts ++ ([(Bw b P T a).1] ++ Fa (Em b (Bw b P T a).1) (Bw b P T a).1), q.Aq)) (B := λ (_ : Unit) => False) ?_ (λ s hs => ?_) (λ _ h => h.elim)
 ·refine Ok.foldI0 (I := λ j s => ∃ q : Ab, q = ((Em b (Bw b P T a).1).take j).foldl ap (Bw b P T a).1 /\ (q.Ac = (Bw b P T a).1.Ac /\ q.Ao = (Bw b P T a).1.Ao) /\ s = (T, b.Al, b.Ad, b.Ac, b.Af, b.Phase, b.An, P.Ag, P.Ac, P.Aq, P.Ao, ros, evs, q.Ag, ev ++ (⟨T, a, 0⟩ :: ((Em b (Bw b P T a).1).take j).map (λ x => (⟨T, x, 0⟩ : Bg))), sts ++ ([(Bw b P T a).1] ++ Fa ((Em b (Bw b P T a).1).take j) (Bw b P T a).1), q.Aq)) ⟨(Bw b P T a).1, rfl, ⟨rfl, rfl⟩, ?_⟩ (λ j x s hx hI => ?_) λ s hI => ?_
  ·simp [Fa, he]
  ·obtain ⟨q, hq1, ⟨hq2, hq3⟩, rfl⟩ := hI
   have hj : j < (Em b (Bw b P T a).1).length := (ab.1 hx).1
   have hin := htr.2 x (af hx)
   have hqok : As b q := by
    rw [hq1]
    exact V0 _ hn' λ y hy => htr.2 y (bf hy)
   have hapok := Arv hqok hin
   have hcl := hqok.ncl
   have hli := hqok.nli
   unfold Zw
   refine Ok.bind (P := λ y => y = _) (Ok.of_eq (An8 (r := ⟨⟨T, P, ros, evs⟩, b, ev ++ (⟨T, a, 0⟩ :: ((Em b (Bw b P T a).1).take j).map (λ x => (⟨T, x, 0⟩ : Bg))), sts ++ ([(Bw b P T a).1] ++ Fa ((Em b (Bw b P T a).1).take j) (Bw b P T a).1)⟩) (by simp; omega) x 0) rfl) λ y hy => ?_
   subst hy
   have hfold : ((Em b (Bw b P T a).1).take (j + 1)).foldl ap (Bw b P T a).1 = ap q x := by rw [Bk hx, aR, ← hq1]; rfl
   have hint : Fa ((Em b (Bw b P T a).1).take (j + 1)) (Bw b P T a).1 = Fa ((Em b (Bw b P T a).1).take j) (Bw b P T a).1 ++ [ap q x] := by rw [Bk hx, qP, ← hq1]
   refine Ok.cond (λ hk => ?_) (λ hk => ?_)
   ·have hk2 : x.Kind = 2 := by simpa using hk
    have hx1 : 0 <= x.Unit /\ x.Unit < b.Ad.length := by
     rcases hin with ⟨_, h3⟩ | ⟨h3, _⟩
     ·exact h3
     ·omega
    have eA : ap q x = ⟨q.Ag.set x.Unit.toNat false, (Bw b P T a).1.Ac, q.Aq, (Bw b P T a).1.Ao⟩ := by
     unfold ap; rw [if_pos hk2, ← hq2, ← hq3]; rfl
    refine (Ok.getI (l := q.Ag) hx1.1 (by omega)).bind λ _ _ => (Ok.setI (l := q.Ag) hx1.1 (by omega)).bind λ C hC => ?_
    subst hC
    refine Ok.bind (P := λ y => y = _) (Ok.of_eq (Q2 h (r := ⟨⟨T, P, ros, evs⟩, b, (ev ++ (⟨T, a, 0⟩ :: ((Em b (Bw b P T a).1).take j).map (λ x => (⟨T, x, 0⟩ : Bg)))) ++ [⟨T, x, 0⟩], sts ++ ([(Bw b P T a).1] ++ Fa ((Em b (Bw b P T a).1).take j) (Bw b P T a).1)⟩) (p := ⟨q.Ag.set x.Unit.toNat false, (Bw b P T a).1.Ac, q.Aq, (Bw b P T a).1.Ao⟩) (by rw [← eA]; exact hapok) (by simp [K9]; omega)) rfl) λ y hy => Ok.next ?_
    subst hy
    refine ⟨ap q x, hfold.symm, by rw [eA]; exact ⟨rfl, rfl⟩, ?_⟩
    rw [hint, eA, Bk hx]
    simp
   ·have hk2 : ¬ x.Kind = 2 := by simpa using hk
    have hx1 : 0 <= x.Unit /\ x.Unit < b.Af.length := by
     rcases hin with ⟨h3, _⟩ | ⟨_, h3, _⟩
     ·omega
     ·exact h3
    have eA : ap q x = ⟨q.Ag, (Bw b P T a).1.Ac, q.Aq.set x.Unit.toNat x.Value, (Bw b P T a).1.Ao⟩ := by
     unfold ap; rw [if_neg hk2, ← hq2, ← hq3]; rfl
    refine (Ok.getI (l := q.Aq) hx1.1 (by omega)).bind λ _ _ => (Ok.setI (l := q.Aq) hx1.1 (by omega)).bind λ C hC => ?_
    subst hC
    refine Ok.bind (P := λ y => y = _) (Ok.of_eq (Q2 h (r := ⟨⟨T, P, ros, evs⟩, b, (ev ++ (⟨T, a, 0⟩ :: ((Em b (Bw b P T a).1).take j).map (λ x => (⟨T, x, 0⟩ : Bg)))) ++ [⟨T, x, 0⟩], sts ++ ([(Bw b P T a).1] ++ Fa ((Em b (Bw b P T a).1).take j) (Bw b P T a).1)⟩) (p := ⟨q.Ag, (Bw b P T a).1.Ac, q.Aq.set x.Unit.toNat x.Value, (Bw b P T a).1.Ao⟩) (by rw [← eA]; exact hapok) (by simp [K9]; omega)) rfl) λ y hy => Ok.next ?_
    subst hy
    refine ⟨ap q x, hfold.symm, by rw [eA]; exact ⟨rfl, rfl⟩, ?_⟩
    rw [hint, eA, Bk hx]
    simp
  ·obtain ⟨q, hq1, _, rfl⟩ := hI
   rw [aD] at hq1 ⊢
   exact ⟨q, hq1, by rw [eE]⟩
 ·obtain ⟨q, hq, rfl⟩ := hs
  have hqok : As b q := by rw [hq, eL]; exact V0 _ hn' htr.2
  have hqS : q = ⟨q.Ag, (Bw b P T a).1.Ac, q.Aq, (Bw b P T a).1.Ao⟩ := by
   have h3 := htr.1
   rw [← eL, ← hq] at h3
   rw [h3]
  have hsm := Amy (hqok.lens h) (Iy b (Bw b P T a).1)
  have hsm1 := hsm.1
  rw [hqS] at hsm1
  have e6 : Ji ⟨q.Ag, (Bw b P T a).1.Ac, q.Aq, (Bw b P T a).1.Ao⟩ (Iy b (Bw b P T a).1) = Ji (Js b P T a) (doP b P T a) := by rw [← hqS, hq, eP]
  refine Ok.bind (P := λ y => y = Ji (Js b P T a) (doP b P T a)) (Ok.of_eq hsm1 e6) λ y hy => ?_
  subst hy
  have eD : doS b P T a = [(Bw b P T a).1] ++ Fa (Em b (Bw b P T a).1) (Bw b P T a).1 ++ (if Ji (Js b P T a) (doP b P T a) = true then [] else [doP b P T a]) := by unfold doS Gi; rw [if_pos he]
  cases hsb : Ji (Js b P T a) (doP b P T a) with
  | false =>
   rw [hsb] at eD
   refine Ok.bind (P := λ y => y = _) (Ok.of_eq (Q2 h (r := ⟨⟨T, P, ros, evs⟩, b, ev ++ doE b P T a, sts ++ ([(Bw b P T a).1] ++ Fa (Em b (Bw b P T a).1) (Bw b P T a).1)⟩) p2 (by simp [K9]; omega)) rfl) λ y hy => Ok.pure ?_
   subst hy
   rw [eD, eP]
   simp
  | true =>
   rw [hsb] at eD
   refine Ok.pure ?_
   rw [eD, eP]
   simp
end Go.Proofs.YthgnbpdjncbkfaaGreat
