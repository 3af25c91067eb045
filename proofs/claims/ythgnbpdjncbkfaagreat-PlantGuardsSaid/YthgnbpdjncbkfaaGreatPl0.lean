import Derived.Test.YthgnbpdjncbkfaaGreatMo
import Derived.Test.YthgnbpdjncbkfaaGreatHo
namespace Go.Proofs.YthgnbpdjncbkfaaGreat
open Go.SL
theorem Pz {x n : Int} (h : 0 < n) : -n < Int.tmod x n /\ Int.tmod x n < n := by
 have h1 := Int.tmod_lt_of_pos x h
 have h2 := Int.lt_tmod_of_pos x h
 exact ⟨h2, h1⟩
theorem Amp {x n : Int} (h : 0 < n) (h0 : 0 <= x) : 0 <= Int.tmod x n /\ Int.tmod x n < n := ⟨Int.tmod_nonneg n h0, (Pz h).2⟩
structure Bw (s : Ai) : Prop where
 lo : 0 <= s.At
 hi : s.At <= s.L.length
 len : s.L.length <= 600
def InR (n r : Int) : Prop := (1 <= n -> 0 <= r /\ r < n) /\ (n < 1 -> r = 0)
theorem A87 (x n : Int) (h : n <= 4611686018427387904) : Ok (F80 x n) (InR n) := by
 unfold F80
 refine c3 (λ h1 => ?_) λ h1 => ?_
 ·simp only [da] at h1
  exact c4 ⟨λ h2 => by omega, λ _ => rfl⟩
 ·simp only [db] at h1
  refine (Ok.nzI (by omega)).bind λ _ _ => (Ok.nzI (by omega)).bind λ _ _ => c4 ⟨λ _ => ?_, λ h2 => by omega⟩
  have h2 := Pz (x := x) (n := n) (by omega)
  rw [Bb (by omega)]
  exact Amp (by omega) (by omega)
theorem T3 {s : Ai} (hs : Bw s) (n : Int) (h : n <= 4611686018427387904) : Ok (F32 s n) λ y => Bw y.2 /\ InR n y.1 := by
 obtain ⟨h1, h2, h3⟩ := hs
 unfold F32
 refine c3 (λ h4 => ?_) λ h4 => ?_
 ·exact c4 ⟨⟨h1, h2, h3⟩, λ h5 => ⟨by simp, by show (0 : Int) < n; omega⟩, λ _ => rfl⟩
 ·simp only [db] at h4
  have e : w64 (s.At + 1) = s.At + 1 := Bb (by omega)
  rw [e, Bb (n := s.At + 1 - 1) (by omega)]
  refine (c8 (by omega) (by omega)).bind λ x _ => (A87 x n h).bind λ r hr => c4 ⟨⟨?_, ?_, h3⟩, hr⟩
  ·show 0 <= s.At + 1; omega
  ·show s.At + 1 <= (s.L.length : Int); omega
theorem Fk {s : Ai} (hs : Bw s) (n : Int) (h0 : 1 <= n) (h : n <= 4611686018427387904) : Ok (F32 s n) λ y => Bw y.2 /\ 0 <= y.1 /\ y.1 < n :=
 (T3 hs n h).mono λ _ h => ⟨h.1, h.2.1 h0⟩
theorem Ht {s : Ai} (hs : Bw s) (lo hi : Int) (h : lo <= hi) (h0 : -1000000000000 <= lo) (h1 : hi <= 1000000000000) : Ok (F78 s lo hi) λ y => Bw y.2 /\ lo <= y.1 /\ y.1 <= hi := by
 unfold F78
 have e : w64 (w64 (hi - lo) + 1) = hi - lo + 1 := by rw [Bb (n := hi - lo) (by omega), Bb (by omega)]
 rw [e]
 refine (Fk hs _ (by omega) (by omega)).bind λ y hy => c4 ⟨hy.1, ?_⟩
 have := hy.2
 show lo <= w64 (lo + y.1) /\ w64 (lo + y.1) <= hi
 rw [Bb (by omega)]
 omega
theorem D6 {s : Ai} (hs : Bw s) (l : List Int) (h : 1 <= l.length) (h1 : l.length <= 1000) : Ok (F40 s l) λ y => Bw y.2 /\ y.1 ∈ l := by
 unfold F40
 refine (Fk hs _ (by omega) (by omega)).bind λ y hy => ?_
 have := hy.2
 refine (c8 (by omega) (by omega)).bind λ x hx => c4 ⟨hy.1, ae hx⟩
theorem A86 (l : List Int) : Ok (F8 l) Bw := by
 unfold F8
 refine (Ok.cutI (by omega) (by omega) (by omega)).bind λ y hy => c4 ⟨by simp, by simp, ?_⟩
 subst hy
 simp only [ct, aO]
 omega
def Oi (nb : Int) (ns nc : Nat) (x : Aj) : Prop :=
 (0 <= x.A /\ x.A < nb) /\ ((x.Kind = 1 /\ x.A < x.B /\ x.B < nb) \/ (x.Kind = 2 /\ 0 <= x.B /\ x.B < ns) \/ (x.Kind = 3 /\ 0 <= x.B /\ x.B < nc))
def brs (l : List Aj) (k : Int) (i : Nat) : List Aj := l.filter λ x => x.Kind == k && x.B == (i : Int)
def Arn (x : Bf) : Prop := (1 <= x.Rating /\ x.Rating <= 50000) /\ (0 <= x.Least /\ x.Least <= x.Rating) /\ 0 <= x.Start /\ x.Start <= 600
def Atf (i : Nat) (x : A1) : Prop :=
 (0 <= x.Load /\ x.Load <= 50000) /\ (0 <= x.Least /\ x.Least <= x.Load) /\ (0 <= x.Bn /\ x.Bn <= 15) /\ (-1 <= x.Thruster /\ x.Thruster <= 7) /\ x.Needs.length <= 4 /\
 (∀ n, n ∈ x.Needs -> 0 <= n /\ n < (i : Int)) /\ ∀ (j : Nat) a b, x.Needs[j]? = some a -> x.Needs[j + 1]? = some b -> a < b
structure Aw (b : Aa) : Prop where
 buses : 1 <= b.Aq /\ b.Aq <= 6
 brl : b.Ae.length <= 24
 sol : b.Ac.length <= 8
 col : b.Ad.length <= 16
 phase : 0 <= b.Phase /\ b.Phase <= 1800
 freq : 0 <= b.Ar /\ b.Ar <= 6000
 br : ∀ x, x ∈ b.Ae -> Oi b.Aq b.Ac.length b.Ad.length x
 one : ∀ i, i < b.Ac.length -> (brs b.Ae 2 i).length = 1
 any : ∀ i, i < b.Ad.length -> brs b.Ae 3 i ≠ []
 nodup : ∀ i, ((brs b.Ae 3 i).map (·.A)).Nodup
 so : ∀ x, x ∈ b.Ac -> Arn x
 co : ∀ (i : Nat) x, b.Ad[i]? = some x -> Atf i x
theorem Gr (l m : List Aj) (k : Int) (i : Nat) : brs (l ++ m) k i = brs l k i ++ brs m k i := by unfold brs; rw [aY]
theorem Aog (x : Aj) (k : Int) (i : Nat) : brs [x] k i = if x.Kind = k /\ x.B = (i : Int) then [x] else [] := by
 unfold brs
 simp only [bf, List.filter_nil, ac, de]
theorem J7 {l : List Aj} {k : Int} {i : Nat} (h : ∀ x, x ∈ l -> x.Kind = k -> x.B ≠ (i : Int)) : brs l k i = [] := by
 unfold brs
 rw [List.filter_eq_nil_iff]
 intro x hx
 simp only [ac, de, not_and]
 exact h x hx
def Ms (nb : Int) (l : List Aj) : Prop := ∀ x, x ∈ l -> x.Kind = 1 /\ 0 <= x.A /\ x.A < x.B /\ x.B < nb
structure Rf (nb : Int) (l : List Aj) (so : List Bf) : Prop where
 len : l.length <= 4 + so.length
 br : ∀ x, x ∈ l -> (0 <= x.A /\ x.A < nb) /\ ((x.Kind = 1 /\ x.A < x.B /\ x.B < nb) \/ (x.Kind = 2 /\ 0 <= x.B /\ x.B < so.length))
 one : ∀ i, i < so.length -> (brs l 2 i).length = 1
 so : ∀ x, x ∈ so -> Arn x
structure Y8 (nb : Int) (l : List Aj) (ns : Nat) (co : List A1) : Prop where
 len : l.length <= 4 + ns + 2 * co.length
 br : ∀ x, x ∈ l -> Oi nb ns co.length x
 one : ∀ i, i < ns -> (brs l 2 i).length = 1
 any : ∀ i, i < co.length -> brs l 3 i ≠ []
 nodup : ∀ i, ((brs l 3 i).map (·.A)).Nodup
 co : ∀ (i : Nat) x, co[i]? = some x -> Atf i x /\ x.Thruster <= 2
theorem Rf.cons {nb : Int} {l : List Aj} {so : List Bf} (h : Rf nb l so) : Y8 nb l so.length [] where
 len := by have := h.len; simp; omega
 br x hx := by
  obtain ⟨h1, h2⟩ := h.br x hx
  exact ⟨h1, h2.imp id .inl⟩
 one := h.one
 any i hi := by simp at hi
 nodup i := by
  rw [J7]
  ·simp
  ·intro x hx h3
   obtain ⟨_, h2⟩ := h.br x hx
   omega
 co i x hx := by simp at hx
theorem Rf.add {nb : Int} {l : List Aj} {so : List Bf} (h : Rf nb l so) {x : Aj} {y : Bf} (hx : x.Kind = 2 /\ x.B = so.length /\ 0 <= x.A /\ x.A < nb) (hy : Arn y) : Rf nb (l ++ [x]) (so ++ [y]) where
 len := by have := h.len; simp; omega
 br z hz := by
  rcases ar.1 hz with hz | hz
  ·obtain ⟨h1, h2⟩ := h.br z hz
   refine ⟨h1, ?_⟩
   rw [aJ]
   simp only [aX, bO]
   omega
  ·simp at hz; subst hz
   refine ⟨hx.2.2, .inr ⟨hx.1, ?_⟩⟩
   rw [aJ]
   simp only [aX, bO]
   omega
 one i hi := by
  rw [aJ] at hi
  simp only [aX, bO] at hi
  rw [Gr, Aog, aJ]
  by_cases e : i = so.length
  ·rw [J7, if_pos ⟨hx.1, by omega⟩]
   ·rfl
   ·intro z hz h2
    obtain ⟨_, h3⟩ := h.br z hz
    omega
  ·rw [h.one i (by omega), if_neg (by omega)]; rfl
 so z hz := by
  rcases ar.1 hz with hz | hz
  ·exact h.so z hz
  ·simp at hz; subst hz; exact hy
theorem Y8.add {nb : Int} {l m : List Aj} {ns : Nat} {co : List A1} (h : Y8 nb l ns co) {y : A1} (hm : ∀ x, x ∈ m -> x.Kind = 3 /\ x.B = co.length /\ 0 <= x.A /\ x.A < nb) (h1 : m ≠ []) (h2 : m.length <= 2) (h3 : (m.map (·.A)).Nodup)
  (hy : Atf co.length y /\ y.Thruster <= 2) : Y8 nb (l ++ m) ns (co ++ [y]) := by
 have e1 : brs m 3 co.length = m := by
  unfold brs
  rw [cv]
  intro x hx
  obtain ⟨g1, g2, _⟩ := hm x hx
  simp [g1, g2]
 have e2 : ∀ i, i ≠ co.length -> brs m 3 i = [] := λ i hi => J7 λ x hx _ e => by
  have := (hm x hx).2.1
  omega
 have e3 : brs l 3 co.length = [] := J7 λ x hx h3 e => by
  obtain ⟨_, g⟩ := h.br x hx
  omega
 have hlen : (co ++ [y]).length = co.length + 1 := by simp
 refine ⟨?_, λ z hz => ?_, λ i hi => ?_, λ i hi => ?_, λ i => ?_, λ i x hx => ?_⟩
 ·have := h.len
  rw [aJ, hlen]; omega
 ·rw [hlen]
  rcases ar.1 hz with hz | hz
  ·obtain ⟨g1, g2⟩ := h.br z hz
   exact ⟨g1, by omega⟩
  ·obtain ⟨g1, g2, g3⟩ := hm z hz
   exact ⟨g3, by omega⟩
 ·have : brs m 2 i = [] := J7 λ x hx h2 => by have := (hm x hx).1; omega
  rw [Gr, this, aN]
  exact h.one i hi
 ·rw [Gr]
  rw [hlen] at hi
  by_cases e : i = co.length
  ·subst e; rw [e1]; simp [h1]
  ·have := h.any i (by omega)
   simp [this]
 ·rw [Gr]
  by_cases e : i = co.length
  ·subst e; rw [e1, e3]; simpa using h3
  ·rw [e2 i e, aN]; exact h.nodup i
 ·rw [bM] at hx
  split at hx
  ·exact h.co i x hx
  ·rename_i hi
   have : i = co.length := by
    have := (aa.1 hx).1
    simp at this; omega
   subst this
   simp at hx; subst hx; exact hy
theorem Ms.nil (nb : Int) : Ms nb [] := λ x hx => by cases hx
theorem Ms.add {nb : Int} {l : List Aj} (h : Ms nb l) {x : Aj} (hx : x.Kind = 1 /\ 0 <= x.A /\ x.A < x.B /\ x.B < nb) : Ms nb (l ++ [x]) := λ z hz => by
 rcases ar.1 hz with hz | hz
 ·exact h z hz
 ·simp at hz; subst hz; exact hx
theorem Ms.gens {nb : Int} {l : List Aj} (h : Ms nb l) (hl : l.length <= 4) : Rf nb l [] where
 len := by simpa using hl
 br x hx := by have := h x hx; exact ⟨by omega, .inl (by omega)⟩
 one i hi := by simp at hi
 so x hx := by cases hx
theorem A0y {y : Int × Ai} (hy : 1 <= y.1 /\ y.1 <= 4) {s0 : Ai} (hs0 : Bw s0) :
  Ok (whileN (qX y) 1152921504606846976 (1, s0.L, s0.At, ([] : List Aj))) (D3 (λ s => Bw ⟨s.2.1, s.2.2.1⟩ /\ Ms y.1 s.2.2.2 /\ s.2.2.2.length <= 3) (λ (_ : Unit) => False)) := by
 refine c7 (λ s => (1 <= s.1 /\ s.1 <= 4 /\ s.1 <= y.1) /\ Bw ⟨s.2.1, s.2.2.1⟩ /\ Ms y.1 s.2.2.2 /\ (s.2.2.2.length : Int) + 1 <= s.1) (λ s => (y.1 - s.1).toNat) _ _ ?_ ?_ ?_
 ·exact ⟨by dsimp only; omega, hs0, Ms.nil _, by simp⟩
 ·dsimp only; omega
 ·rintro ⟨i, L, a, l⟩ ⟨⟨h1, h2, h3⟩, h4, h5, h6⟩
  dsimp only at h1 h2 h3 h4 h5 h6
  unfold qX
  refine c3 (λ h => ?_) (λ h => ?_)
  ·simp only [da] at h
   have e : w64 (i + 1) = i + 1 := Bb (by omega)
   dsimp only
   rw [e]
   refine (Fk h4 6 (by omega) (by omega)).bind λ u hu => c3 (λ _ => ?_) (λ _ => ?_)
   ·refine (Fk hu.1 i h1 (by omega)).bind λ v hv => (c9 (by simp; omega)).bind λ m hm => c5 ?_
    subst hm
    have := hv.2
    refine ⟨⟨by dsimp only; omega, hv.1, h5.add ⟨rfl, by dsimp only; omega, by dsimp only; omega, by dsimp only; omega⟩, by simp; omega⟩, by dsimp only; omega⟩
   ·refine c5 ⟨⟨by dsimp only; omega, hu.1, h5, by dsimp only; omega⟩, by dsimp only; omega⟩
  ·exact cJ ⟨h4, h5, by dsimp only; omega⟩
theorem A0x {y : Int × Ai} (hy : 1 <= y.1 /\ y.1 <= 4) {s0 : Ai} (hs0 : Bw s0) {k : Int} (hk : 0 <= k /\ k < 5) {l0 : List Aj} (hl0 : Rf y.1 l0 []) :
  Ok (whileN (qW y) 1152921504606846976 (k, s0.L, s0.At, l0, ([] : List Bf))) (D3 (λ s => Bw ⟨s.2.1, s.2.2.1⟩ /\ Rf y.1 s.2.2.2.1 s.2.2.2.2 /\ s.2.2.2.2.length <= 4) (λ (_ : Unit) => False)) := by
 refine c7 (λ s => (0 <= s.1 /\ s.1 + (s.2.2.2.2.length : Int) <= 4) /\ Bw ⟨s.2.1, s.2.2.1⟩ /\ Rf y.1 s.2.2.2.1 s.2.2.2.2) (λ s => s.1.toNat) _ _ ?_ ?_ ?_
 ·exact ⟨by simp; omega, hs0, hl0⟩
 ·dsimp only; omega
 ·rintro ⟨i, L, a, l, so⟩ ⟨⟨h1, h2⟩, h4, h5⟩
  dsimp only at h1 h2 h4 h5
  unfold qW
  refine c3 (λ h => ?_) (λ h => ?_)
  ·simp only [da] at h
   have e : w64 (i - 1) = i - 1 := Bb (by omega)
   have hl := h5.len
   dsimp only
   rw [e]
   refine (Fk h4 y.1 hy.1 (by omega)).bind λ u hu => (c9 (by simp; omega)).bind λ m hm => ?_
   refine (D6 hu.1 _ (by simp) (by simp)).bind λ v hv => (D6 hv.1 _ (by simp) (by simp)).bind λ p hp => (D6 hp.1 _ (by simp) (by simp)).bind λ q hq => (c9 (by simp; omega)).bind λ o ho => c5 ?_
   subst hm; subst ho
   have g1 := hu.2
   have g2 : v.1 = 10 \/ v.1 = 50 \/ v.1 = 100 := by simpa using hv.2
   have g3 : p.1 = 0 \/ p.1 = 5 \/ p.1 = v.1 := by simpa using hp.2
   have g4 : q.1 = 0 \/ q.1 = 1 \/ q.1 = 3 := by simpa using hq.2
   refine ⟨⟨by simp; omega, hq.1, h5.add ⟨rfl, rfl, g1⟩ ⟨by dsimp only; omega, by dsimp only; omega, by dsimp only; omega⟩⟩, by dsimp only; omega⟩
  ·exact cJ ⟨h4, h5, by dsimp only; omega⟩
theorem A3x {x : Int} (h : 0 <= x) (h2 : x <= 50000) : 0 <= w64 (Int.tdiv x 2) /\ w64 (Int.tdiv x 2) <= x := by
 have : Int.tdiv x 2 = x / 2 := Int.tdiv_eq_ediv_of_nonneg h
 rw [this, Bb (by omega)]
 omega
theorem Ay1 {x : Int} (h : 0 <= x) (h2 : x <= 50000) : 0 <= w64 (Int.tdiv x 3) /\ w64 (Int.tdiv x 3) <= x := by
 have : Int.tdiv x 3 = x / 3 := Int.tdiv_eq_ediv_of_nonneg h
 rw [this, Bb (by omega)]
 omega
theorem A0w {y : Int × Ai} (hy : 1 <= y.1 /\ y.1 <= 4) {s0 : Ai} (hs0 : Bw s0) {k : Int} (hk : 0 <= k /\ k < 6) {ns : Nat} (hns : ns <= 4) {l0 : List Aj} (hl0 : Y8 y.1 l0 ns []) :
  Ok (whileN (qV y) 1152921504606846976 (k, s0.L, s0.At, l0, ([] : List A1))) (D3 (λ s => Bw ⟨s.2.1, s.2.2.1⟩ /\ Y8 y.1 s.2.2.2.1 ns s.2.2.2.2 /\ s.2.2.2.2.length <= 5) (λ (_ : Unit) => False)) := by
 refine c7 (λ s => (0 <= s.1 /\ s.1 + (s.2.2.2.2.length : Int) <= 5) /\ Bw ⟨s.2.1, s.2.2.1⟩ /\ Y8 y.1 s.2.2.2.1 ns s.2.2.2.2) (λ s => s.1.toNat) _ _ ?_ ?_ ?_
 ·exact ⟨by simp; omega, hs0, hl0⟩
 ·dsimp only; omega
 ·rintro ⟨i, L, a, l, co⟩ ⟨⟨h1, h2⟩, h4, h5⟩
  dsimp only at h1 h2 h4 h5
  unfold qV
  refine c3 (λ h => ?_) (λ h => ?_)
  ·simp only [da] at h
   have e : w64 (i - 1) = i - 1 := Bb (by omega)
   have hl := h5.len
   dsimp only
   rw [e]
   refine (Fk h4 y.1 hy.1 (by omega)).bind λ u hu => (c9 (by simp; omega)).bind λ m hm => ?_
   subst hm
   have g1 := hu.2
   refine Ok.bind (P := λ v => Bw v.2) (cF (λ _ => (Fk hu.1 4 (by omega) (by omega)).mono λ _ h => h.1) λ _ => hu.1) λ v hv => ?_
   refine Ok.inner (A := λ (r : List Aj) => ∃ m, r = l ++ m /\ (∀ x, x ∈ m -> x.Kind = 3 /\ x.B = co.length /\ 0 <= x.A /\ x.A < y.1) /\ m ≠ [] /\ m.length <= 2 /\ (m.map (·.A)).Nodup) (B := λ (_ : Unit) => False) ?_ (λ r hr => ?_) (λ _ h => h.elim)
   ·unfold Akl
    refine c3 (λ hc => ?_) (λ hc => ?_)
    ·simp only [ac, da] at hc
     have e2 : w64 (u.1 + 1) = u.1 + 1 := Bb (by omega)
     rw [e2]
     refine (Ok.nzI (by omega)).bind λ _ _ => (c9 (by simp; omega)).bind λ m hm => cK ?_
     subst hm
     have g2 := Amp (x := u.1 + 1) (n := y.1) (by omega) (by omega)
     have g3 : Int.tmod (u.1 + 1) y.1 ≠ u.1 := by
      rw [Int.tmod_eq_emod_of_nonneg (by omega)]
      intro e3
      by_cases g4 : u.1 + 1 = y.1
      ·rw [g4, Int.emod_self] at e3; omega
      ·rw [Int.emod_eq_of_lt (by omega) (by omega)] at e3; omega
     refine ⟨_, bj _ _ _, ?_, by simp, by simp, ?_⟩
     ·intro x hx
      simp at hx
      rcases hx with rfl | rfl
      ·exact ⟨rfl, rfl, g1⟩
      ·exact ⟨rfl, rfl, g2⟩
     ·simp
      exact λ h => g3 h.symm
    ·exact cK ⟨_, rfl, λ x hx => by simp at hx; subst hx; exact ⟨rfl, rfl, g1⟩, by simp, by simp, by simp⟩
   ·obtain ⟨m, rfl, hm, hm1, hm2, hm3⟩ := hr
    refine (D6 hv _ (by simp) (by simp)).bind λ p hp => (D6 hp.1 _ (by simp) (by simp)).bind λ q hq => (Fk hq.1 3 (by omega) (by omega)).bind λ pr hpr => (Ht hpr.1 (-1) 2 (by omega) (by omega) (by omega)).bind λ th hth => ?_
    have k1 : p.1 = 0 \/ p.1 = 5 \/ p.1 = 20 \/ p.1 = 40 := by simpa using hp.2
    have k2 : q.1 = 0 \/ q.1 = w64 (Int.tdiv p.1 2) \/ q.1 = p.1 := by simpa using hq.2
    have k3 := A3x (x := p.1) (by omega) (by omega)
    have k4 := hpr.2
    have k5 := hth.2
    refine Ok.bind (P := λ v => Bw v.2) (cF (λ _ => (Fk hth.1 4 (by omega) (by omega)).mono λ _ h => h.1) λ _ => hth.1) λ w hw => c3 (λ hc => ?_) (λ hc => ?_)
    ·simp only [A2t, ac, da] at hc
     refine (Fk hw _ (by omega) (by omega)).bind λ n hn => (c9 (by simp; omega)).bind λ o ho => c5 ?_
     subst ho
     have k6 := hn.2
     refine ⟨⟨by simp; omega, hn.1, h5.add hm hm1 hm2 hm3 ⟨⟨by dsimp only; omega, by dsimp only; omega, by dsimp only; omega, by dsimp only; omega, by simp, ?_, ?_⟩, by dsimp only; omega⟩⟩, by dsimp only; omega⟩
     ·intro z hz; simp at hz; subst hz; exact k6
     ·intro j a b ha hb
      simp at hb
    ·refine (c9 (by simp; omega)).bind λ o ho => c5 ?_
     subst ho
     refine ⟨⟨by simp; omega, hw, h5.add hm hm1 hm2 hm3 ⟨⟨by dsimp only; omega, by dsimp only; omega, by dsimp only; omega, by dsimp only; omega, by simp, ?_, ?_⟩, by dsimp only; omega⟩⟩, by dsimp only; omega⟩
     ·intro z hz; simp at hz
     ·intro j a b ha hb; simp at ha
  ·exact cJ ⟨h4, h5, by dsimp only; omega⟩
structure A88 (b : Aa) : Prop where
 ok : Aw b
 buses : b.Aq <= 4
 brl : b.Ae.length <= 18
 sol : b.Ac.length <= 4
 col : b.Ad.length <= 5
 thr : ∀ x, x ∈ b.Ad -> x.Thruster <= 2
theorem A1u {s : Ai} (hs : Bw s) : Ok (F29 s) λ y => A88 y.1 /\ Bw y.2 := by
 unfold F29
 refine (Ht hs 1 4 (by omega) (by omega) (by omega)).bind λ y1 h1 => (D6 h1.1 _ (by simp) (by simp)).bind λ y3 h3 => (D6 h3.1 _ (by simp) (by simp)).bind λ y5 h5 => ?_
 refine (A0y h1.2 h5.1).andThen (λ s0 hs0 => ?_) (λ _ h => h.elim)
 refine Ok.bind (P := λ v => Bw v.2) (cF (λ _ => (Fk hs0.1 2 (by omega) (by omega)).mono λ _ h => h.1) λ _ => hs0.1) λ y15 h15 => ?_
 have hb := h1.2
 refine Ok.andThen (A := λ (l : List Aj) => Ms y1.1 l /\ l.length <= 4) (B := λ (_ : Unit) => False) ?_ (λ l hl => ?_) (λ _ h => h.elim)
 ·unfold Akm
  refine c3 (λ hc => ?_) (λ hc => cK ⟨hs0.2.1, by omega⟩)
  simp only [ac, da] at hc
  have e : w64 (y1.1 - 1) = y1.1 - 1 := Bb (by omega)
  rw [e]
  have := hs0.2.2
  refine (c9 (by simp; omega)).bind λ m hm => cK ?_
  subst hm
  exact ⟨hs0.2.1.add ⟨rfl, by simp, by dsimp only; omega, by dsimp only; omega⟩, by simp; omega⟩
 ·refine (Fk h15 5 (by omega) (by omega)).bind λ y20 h20 => ?_
  refine (A0x h1.2 h20.1 h20.2 (hl.1.gens hl.2)).andThen (λ s2 hs2 => ?_) (λ _ h => h.elim)
  refine (Fk hs2.1 6 (by omega) (by omega)).bind λ y35 h35 => ?_
  refine (A0w h1.2 h35.1 h35.2 hs2.2.2 hs2.2.1.cons).andThen (λ s3 hs3 => c4 ⟨?_, hs3.1⟩) (λ _ h => h.elim)
  obtain ⟨_, hc, hl5⟩ := hs3
  have hl4 := hs2.2.2
  have hlen := hc.len
  have p3 : y3.1 = 0 \/ y3.1 = 50 \/ y3.1 = 200 \/ y3.1 = 1800 := by simpa using h3.2
  have p5 : y5.1 = 0 \/ y5.1 = 10 \/ y5.1 = 50 := by simpa using h5.2
  refine ⟨⟨by dsimp only; omega, by dsimp only; omega, by dsimp only; omega, by dsimp only; omega, by dsimp only; omega, by dsimp only; omega, hc.br, hc.one, hc.any, hc.nodup, hs2.2.1.so, λ i x hx => (hc.co i x hx).1⟩, by dsimp only; omega, by dsimp only; omega, hl4, hl5, λ x hx => ?_⟩
  obtain ⟨i, hi⟩ := bU hx
  exact (hc.co i x hi).2
theorem Ho (x lo hi : Int) : F99 x lo hi = true ↔ lo <= x /\ x <= hi := by
 simp [F99]
theorem yF {x lo hi : Int} (h : lo <= x /\ x <= hi) : F99 x lo hi = true := (Ho x lo hi).2 h
theorem Fe (l : List Int) (x : Int) (h : l.length <= 9223372036854775807) : Mx l x = some (l.any (x == ·)) := by
 unfold Mx As0
 rw [Kl (λ y => x == y) (λ i y => rfl) l h]
 simp only [ab, Qn]
theorem Amf (l : List (List Int)) (h : l.length <= 9223372036854775807) : Us l = some (l.any λ x => (x.length : Int) == 0) := by
 unfold Us uB
 rw [Kl (λ y => (y.length : Int) == 0) (λ i y => rfl) l h]
 simp only [ab, Qn]
theorem Ami {b : Aa} (h : Aw b) : Ok (Ali b) (· = true) := by
 unfold Ali
 have hs := h.sol
 have hc := h.col
 have hb := h.buses
 refine (Ok.mkI (by omega) (by omega)).bind λ ys hys => (Ok.mkI (by omega) (by omega)).bind λ zs hzs => ?_
 rw [aE] at hys hzs
 refine Ok.andThen (A := λ s => s.1 = (List.range b.Ac.length).map (λ i => ((brs b.Ae 2 i).length : Int)) /\ s.2 = (List.range b.Ad.length).map (λ i => (brs b.Ae 3 i).map (·.A))) (B := λ _ => False) ?_ ?_ (λ _ h => h.elim)
 ·refine c6 (I := λ j s => s.1 = (List.range b.Ac.length).map (λ i => ((brs (b.Ae.take j) 2 i).length : Int)) /\ s.2 = (List.range b.Ad.length).map (λ i => (brs (b.Ae.take j) 3 i).map (·.A))) ?_ ?_ ?_
  ·exact ⟨by rw [hys, Nf]; rfl, by rw [hzs, Nf]; rfl⟩
  ·rintro j x ⟨us, vs⟩ hx ⟨hu, hv⟩
   dsimp only at hu hv
   subst hu; subst hv
   have hmem := ae hx
   obtain ⟨⟨a0, a1⟩, hk⟩ := h.br x hmem
   have htk : ∀ k i, brs (b.Ae.take (j + 1)) k i = brs (b.Ae.take j) k i ++ if x.Kind = k /\ x.B = (i : Int) then [x] else [] := λ k i => by rw [Bi hx, Gr, Aog]
   have hall : ∀ k i, brs b.Ae k i = brs (b.Ae.take (j + 1)) k i ++ brs (b.Ae.drop (j + 1)) k i := λ k i => by rw [← Gr, cg]
   unfold zW
   have e1 : w64 (b.Aq - 1) = b.Aq - 1 := Bb (by omega)
   have e2 : w64 (x.A + 1) = x.A + 1 := Bb (by omega)
   refine c3 (λ hq => ?_) (λ _ => ?_)
   ·rw [e1, yF (by omega)] at hq; simp at hq
   refine c3 (λ hq => ?_) (λ hq => ?_)
   ·simp only [Aif, ac, de, Ho] at hq
    refine c5 ⟨aV λ i _ => ?_, aV λ i _ => ?_⟩
    ·rw [htk, if_neg (by omega), aN]
    ·rw [htk, if_neg (by omega), aN]
   have hq := ff hq
   simp only [Aif, ac, de, Ho, e1, e2] at hq
   rcases hk with hk | hk | hk
   ·exact absurd ⟨hk.1, by omega⟩ hq
   ·have hBn : x.B = (x.B.toNat : Int) := by omega
    have hone := h.one x.B.toNat (by omega)
    have hz : (brs (b.Ae.take j) 2 x.B.toNat).length = 0 := by
     rw [hall, htk, if_pos ⟨hk.1, hBn⟩] at hone
     simp at hone; omega
    have hg : ((x.Kind == 2) && (F99 x.B 0 (w64 ((((List.range b.Ac.length).map (λ i => ((brs (b.Ae.take j) 2 i).length : Int))).length : Int) - 1)))) = true := by
     rw [ac, de, Ho, aA, List.length_range, Bb (by omega)]
     omega
    dsimp only
    refine Ok.bind (P := λ y => y = 0) (cF (λ _ => (cR (by omega) (by omega)).mono λ y hy => by rw [hy, hz]; rfl) λ hn => (Vl hg hn).elim) λ y hy => ?_
    refine c3 (λ hq2 => ?_) (λ hq2 => ?_)
    ·refine (cR (by omega) (by omega)).bind λ y2 hy2 => (cW (by omega) (by omega)).bind λ y3 hy3 => c5 ⟨?_, aV λ i _ => ?_⟩
     ·rw [hy3]
      refine aV λ i hi => ?_
      by_cases e : i = x.B.toNat
      ·subst e
       rw [if_pos rfl, hy2, htk, if_pos ⟨hk.1, hBn⟩, hz, aJ, hz]
       rfl
      ·rw [if_neg e, htk, if_neg (by omega), aN]
     ·rw [htk, if_neg (by omega), aN]
    ·have hq2 := ff hq2
     simp only [Aie, ac, hy] at hq2
     rw [ac] at hg
     exact absurd ⟨hg, by simp⟩ hq2
   ·have hBn : x.B = (x.B.toNat : Int) := by omega
    have hnod := h.nodup x.B.toNat
    have hnot : x.A ∉ (brs (b.Ae.take j) 3 x.B.toNat).map (·.A) := by
     rw [hall, htk, if_pos ⟨hk.1, hBn⟩] at hnod
     simp only [bB, bu, List.map_nil] at hnod
     rw [List.nodup_append] at hnod
     have := hnod.1
     rw [List.nodup_append] at this
     intro hm
     exact this.2.2 _ hm _ (by simp) rfl
    have hg0 : ((x.Kind == 2) && (F99 x.B 0 (w64 ((((List.range b.Ac.length).map (λ i => ((brs (b.Ae.take j) 2 i).length : Int))).length : Int) - 1)))) = false := by
     have : (x.Kind == 2) = false := by rw [dg]; omega
     rw [this]; rfl
    have hg : ((x.Kind == 3) && (F99 x.B 0 (w64 ((((List.range b.Ad.length).map (λ i => (brs (b.Ae.take j) 3 i).map (·.A))).length : Int) - 1)))) = true := by
     rw [ac, de, Ho, aA, List.length_range, Bb (by omega)]
     omega
    dsimp only
    refine Ok.bind (P := λ _ => True) (cF (λ hn => absurd hn.1 (by rw [hg0]; simp)) λ _ => trivial) λ y _ => ?_
    refine c3 (λ hq2 => ?_) (λ _ => ?_)
    ·simp only [Aie, ac, de] at hq2
     omega
    refine Ok.bind (P := λ y => y = (brs (b.Ae.take j) 3 x.B.toNat).map (·.A)) (cF (λ _ => cR (by omega) (by omega)) λ hn => (Vl hg hn).elim) λ y14 hy14 => ?_
    have hyl : y14.length <= 24 := by
     rw [hy14, aA]
     have := bk (λ x => x.Kind == 3 && x.B == ((x.B.toNat : Nat) : Int)) (b.Ae.take j)
     have h1 : (brs (b.Ae.take j) 3 x.B.toNat).length <= (b.Ae.take j).length := bk _ _
     have h2 := h.brl
     rw [aO] at h1
     omega
    refine Ok.bind (P := λ y => y = false) (cF (λ _ => ?_) λ hn => (Vl hg hn).elim) λ y16 hy16 => ?_
    ·rw [Fe _ _ (by omega)]
     refine c4 ?_
     rw [bJ]
     intro z hz
     rw [hy14] at hz
     simp only [de]
     rintro rfl
     exact hnot hz
    refine c3 (λ hq2 => ?_) (λ hq2 => ?_)
    ·refine (cR (by omega) (by omega)).bind λ y19 hy19 => ?_
     rw [hy19, ← hy14]
     refine (c9 (by simp; omega)).bind λ y21 hy21 => (cW (by omega) (by omega)).bind λ y23 hy23 => c5 ⟨aV λ i _ => ?_, ?_⟩
     ·rw [htk, if_neg (by omega), aN]
     ·rw [hy23]
      refine aV λ i hi => ?_
      by_cases e : i = x.B.toNat
      ·subst e
       rw [if_pos rfl, hy21, hy14, htk, if_pos ⟨hk.1, hBn⟩, bB]
       rfl
      ·rw [if_neg e, htk, if_neg (by omega), aN]
    ·have hq2 := ff hq2
     simp only [Aw4, ac, hy16] at hq2
     rw [ac] at hg
     exact absurd ⟨hg, by simp⟩ hq2
  ·rintro ⟨us, vs⟩ ⟨hu, hv⟩
   rw [ax] at hu hv
   exact ⟨hu, hv⟩
 ·rintro ⟨us, vs⟩ ⟨hu, hv⟩
  dsimp only at hu hv ⊢
  rw [Fe _ _ (by rw [hu]; simp; omega)]
  have h0 : us.any (λ y => 0 == y) = false := by
   rw [bJ, hu]
   intro z hz
   obtain ⟨i, hi, rfl⟩ := al.1 hz
   rw [h.one i (by simpa using hi)]
   simp
  have h1 : vs.any (λ x => (x.length : Int) == 0) = false := by
   rw [bJ, hv]
   intro z hz
   obtain ⟨i, hi, rfl⟩ := al.1 hz
   have := h.any i (by simpa using hi)
   simp only [aA, de]
   intro e
   exact this (bH (by omega))
  simp only [h0, ab]
  refine Ok.bind (P := λ y => y = false) (cF (λ _ => ?_) λ hn => (Vl rfl hn).elim) λ y hy => c4 (by rw [hy]; rfl)
  rw [Amf _ (by rw [hv]; simp; omega)]
  exact c4 h1
theorem Atq {x : Bf} (h : Arn x) : zV x = true := by
 obtain ⟨h1, h2, h3⟩ := h
 simp only [zV, ac, Ho]
 omega
theorem Amg {x : A1} {i : Nat} (h : Atf i x) (hi : i <= 1000) : zU x (i : Int) = some true := by
 obtain ⟨h1, h2, h3, h4, h5, h6, h7⟩ := h
 unfold zU
 have hf : foldI (Wm x (i : Int)) x.Needs 0 () = some (.next ()) := by
  refine D5 _ _ λ j n hj => ?_
  rw [aG]
  have hn := h6 n (ae hj)
  have hjl := (aa.1 hj).1
  have hcnt : cnt 0 j = (j : Int) := C_ (by omega)
  have hin : F99 n 0 (w64 ((i : Int) - 1)) = true := by rw [Ho, Bb (by omega)]; omega
  unfold Wm Aw3
  rw [hcnt, hin]
  cases j with
  | zero => simp [Az, Dj]
  | succ j =>
   obtain ⟨p, hp⟩ : ∃ p, x.Needs[j]? = some p := ⟨_, af (by omega)⟩
   have hlt := h7 j p n hp hj
   have e : w64 ((((j + 1 : Nat) : Int)) - 1) = (j : Int) := by rw [Bb (by omega)]; omega
   have hg : getI x.Needs (j : Int) = some p := by
    unfold getI
    simp [hp]
   have hd : decide (((j + 1 : Nat) : Int) > 0) = true := dh (by omega)
   have hd2 : decide (p >= n) = false := by simp; omega
   rw [e, hg, hd]
   simp [Az, Dj, hd2]
 rw [hf]
 have : (((((F99 x.Load 0 50000) && (F99 x.Least 0 x.Load)) && (F99 x.Bn 0 15)) && (F99 x.Thruster (-1) 7)) && (decide ((x.Needs.length : Int) <= 4))) = true := by
  simp only [ac, Ho, da]
  omega
 simp [andThen, this]
theorem Ah7 {b : Aa} (h : Aw b) : F85 b = some 0 := by
 refine cL ?_
 unfold F85
 have h1 := h.buses
 have h2 := h.brl
 have h3 := h.sol
 have h4 := h.col
 have h5 := h.phase
 have h6 := h.freq
 refine c3 (λ hc => ?_) (λ _ => ?_)
 ·have : F99 b.Aq 1 6 = true := yF (by omega)
  simp only [A2g, this, aH, da, be, bK, false_or] at hc
  omega
 refine (Ami h).bind λ y hy => ?_
 subst hy
 rw [yF (x := b.Phase) (by omega), yF (x := b.Ar) (by omega)]
 refine Ok.andThen (A := λ s => s = true) (B := λ (_ : Unit) => False) ?_ ?_ (λ _ h => h.elim)
 ·refine c6 (I := λ _ s => s = true) rfl (λ j x s hx hs => ?_) λ _ h => h
  subst hs
  refine c5 ?_
  rw [Atq (h.so x (ae hx))]; rfl
 ·rintro s rfl
  refine Ok.andThen (A := λ s => s = true) (B := λ (_ : Unit) => False) ?_ ?_ (λ _ h => h.elim)
  ·refine c6 (I := λ _ s => s = true) rfl (λ j x s hx hs => ?_) λ _ h => h
   subst hs
   have hj := (aa.1 hx).1
   unfold Aj0
   have : Az [(true, true)] (zU x (cnt 0 j)) default = some true := by
    rw [C_ (by omega), Amg (h.co j x hx) (by omega)]; rfl
   rw [this]
   exact c5 rfl
  ·rintro s rfl
   exact c4 rfl
def Df (x : Ah) : Prop := (0 <= x.State /\ x.State <= 3) /\ (0 <= x.Since /\ x.Since <= 2147483648) /\ (0 <= x.Ar /\ x.Ar <= 6000) /\ 0 <= x.Phase /\ x.Phase <= 3599
def Ca (b : Aa) (x : Al) : Prop :=
 0 <= x.Number /\ ((x.Kind = 1 /\ x.Number < b.Ac.length) \/ (x.Kind = 2 /\ x.Number < b.Ae.length) \/ (x.Kind = 3 /\ x.Number < b.Aq) \/ (x.Kind = 4 /\ x.Number < b.Ad.length))
def Pn (x y : Al) : Prop := x.Kind < y.Kind \/ x.Kind = y.Kind /\ x.Number < y.Number
structure D7 (b : Aa) (l : List Al) : Prop where
 len : l.length <= 32
 mem : ∀ x, x ∈ l -> Ca b x
 asc : ∀ (j : Nat) x y, l[j]? = some x -> l[j + 1]? = some y -> Pn x y
def Cm (l : List Aj) (c : List Bool) (i : Nat) : List (Aj × Bool) := (l.zip c).filter λ z => (z.1.Kind == 3 && z.1.B == (i : Int)) && z.2
structure As (b : Aa) (p : Ab) : Prop where
 ncl : p.Ag.length = b.Ae.length
 nso : p.Ac.length = b.Ac.length
 nli : p.Ak.length = b.Ad.length
 run : ∀ x, x ∈ p.Ac -> Df x
 lim : ∀ (i : Nat) n c, p.Ak[i]? = some n -> b.Ad[i]? = some c -> 0 <= n /\ n <= c.Load
 one : ∀ i, i < b.Ad.length -> (Cm b.Ae p.Ag i).length <= 1
 brk : D7 b p.Ao
theorem Ap5 {x : Ah} (h : Df x) : F98 x = true := by
 obtain ⟨h1, h2, h3, h4⟩ := h
 simp only [F98, ac, Ho]
 omega
theorem Aqg (l : List Ah) (h : l.length <= 9223372036854775807) : We l = some (l.any λ x => !F98 x) := by
 unfold We uG
 rw [Kl (λ y => !F98 y) (λ i y => rfl) l h]
 simp only [ab, Qn]
theorem Ah5 (x y : Int) : J9 x y = if x < y then -1 else if x > y then 1 else 0 := by
 have h : ∀ z : Int, Y2 z = false := λ z => by simp [Y2]
 unfold J9
 rw [h x, h y]
 by_cases h1 : x < y
 ·simp [h1]
 ·by_cases h2 : y < x <;> simp [h1, h2]
theorem A9e (x y : Int) : zQ [x, y] = some (if x = 0 then y else x) := by
 unfold zQ
 by_cases h : x = 0
 ·subst h
  by_cases h2 : y = 0
  ·subst h2; rfl
  ·have : (y != 0) = true := by simpa using h2
   simp [foldI, Wk, andThen, this]
 ·have : (x != 0) = true := by simpa using h
  simp [foldI, Wk, andThen, this, h]
theorem A3g {b : Aa} (h : Aw b) {x : Al} (hx : Ca b x) : F99 x.Number 0 (w64 ((La b x.Kind) - 1)) = true := by
 have h1 := h.buses
 have h2 := h.brl
 have h3 := h.sol
 have h4 := h.col
 obtain ⟨hn, hk⟩ := hx
 have hsz : ∃ n, La b x.Kind = n /\ x.Number < n /\ n <= 100 := by
  unfold La
  rcases hk with ⟨k, hk⟩ | ⟨k, hk⟩ | ⟨k, hk⟩ | ⟨k, hk⟩ <;> rw [k] <;> exact ⟨_, rfl, by simpa using hk, by simp; omega⟩
 obtain ⟨n, e, g1, g2⟩ := hsz
 rw [e, Ho, Bb (by omega)]
 omega
theorem Aw8 {b : Aa} (h : Aw b) {l : List Al} (hl : D7 b l) : F95 b l = some true := by
 have hlen := hl.len
 unfold F95
 have hf : foldI (qN b l) l 0 () = some (.next ()) := by
  refine D5 _ _ λ j x hj => ?_
  rw [aG]
  have hjl := (aa.1 hj).1
  have hcnt : cnt 0 j = (j : Int) := C_ (by omega)
  have hin := A3g h (hl.mem x (ae hj))
  unfold qN A2d
  rw [hcnt, hin]
  cases j with
  | zero => simp [Az, Dj]
  | succ j =>
   obtain ⟨p, hp⟩ : ∃ p, l[j]? = some p := ⟨_, af (by omega)⟩
   have hlt := hl.asc j p x hp hj
   have e : w64 ((((j + 1 : Nat) : Int)) - 1) = (j : Int) := by rw [Bb (by omega)]; omega
   have hg : getI l (j : Int) = some p := by unfold getI; simp [hp]
   have hd : decide (((j + 1 : Nat) : Int) > 0) = true := dh (by omega)
   have ho : zQ [J9 p.Kind x.Kind, J9 p.Number x.Number] = some (-1) := by
    rw [A9e, Ah5, Ah5]
    rcases hlt with h1 | ⟨h1, h2⟩
    ·simp [h1]
    ·simp [h1, h2]
   rw [e, hg, hd]
   simp [Az, Dj, ho]
 rw [hf]
 have : decide ((l.length : Int) <= 32) = true := by simp; omega
 simp [andThen, this]
theorem Lg {l : List Aj} {c : List Bool} {j : Nat} {x : Aj} {v : Bool} (hx : l[j]? = some x) (hv : c[j]? = some v) (i : Nat) :
  Cm (l.take (j + 1)) (c.take (j + 1)) i = Cm (l.take j) (c.take j) i ++ if ((x.Kind == 3 && x.B == (i : Int)) && v) = true then [(x, v)] else [] := by
 unfold Cm
 rw [Bi hx, Bi hv, List.zip_append (by
  have h1 := (aa.1 hx).1
  have h2 := (aa.1 hv).1
  simp; omega), aY]
 congr 1
 simp only [bo, List.zip_nil_right, bf, List.filter_nil]
theorem Awn {b : Aa} (h : Aw b) {p : Ab} (hc : p.Ag.length = b.Ae.length) (i : Nat) : Alx b p (i : Int) = some (((Cm b.Ae p.Ag i).length : Nat) : Int) := by
 refine cL ?_
 unfold Alx
 have hb := h.brl
 refine Ok.andThen (A := λ s => s = (((Cm b.Ae p.Ag i).length : Nat) : Int)) (B := λ (_ : Unit) => False) ?_ (λ s hs => c4 hs) (λ _ h => h.elim)
 refine c6 (I := λ j s => s = (((Cm (b.Ae.take j) (p.Ag.take j) i).length : Nat) : Int)) ?_ (λ j x s hx hs => ?_) λ s hs => ?_
 ·simp [Cm]
 ·have hj := (aa.1 hx).1
  obtain ⟨v, hv⟩ : ∃ v, p.Ag[j]? = some v := ⟨_, af (by omega)⟩
  have hcnt : cnt 0 j = (j : Int) := C_ (by omega)
  have hg : getI p.Ag (j : Int) = some v := by unfold getI; simp [hv]
  have hle : (Cm (b.Ae.take j) (p.Ag.take j) i).length <= 24 := by
   have h1 : (Cm (b.Ae.take j) (p.Ag.take j) i).length <= ((b.Ae.take j).zip (p.Ag.take j)).length := bk _ _
   simp at h1; omega
  subst hs
  unfold Aak Aw5
  rw [hcnt, hg, Lg hx hv]
  cases hk : (x.Kind == 3 && x.B == (i : Int)) with
  | false =>
   simp only [Az, Dj, Bool.false_and]
   exact c5 (by simp)
  | true =>
   simp only [Az, Dj, aZ]
   cases v with
   | false => exact c5 (by simp)
   | true =>
    refine c5 ?_
    show w64 _ = _
    rw [Bb (by omega)]
    simp
 ·rw [ax, ← hc, ax] at hs
  exact hs
theorem Fa {b : Aa} (h : Aw b) {p : Ab} (hp : As b p) : F43 b p = some 0 := by
 refine cL ?_
 unfold F43
 have h1 := hp.ncl
 have h2 := hp.nso
 have h3 := hp.nli
 have h4 := h.col
 have h5 := h.sol
 rw [Ah7 h]
 simp only [ab]
 have c0 : Arg b p = false := by
  simp [Arg, h1, h2, h3]
 have c1 : ((0 : Int) != 0) = false := rfl
 rw [c1, c0, Aw8 h hp.brk]
 simp only [cond_false, ab]
 have hr : (p.Ac.any λ x => !F98 x) = false := by
  rw [bJ]
  intro x hx
  rw [Ap5 (hp.run x hx)]; simp
 have : Az [(true, true)] (We p.Ac) default = some false := by
  rw [Aqg _ (by omega), hr]; rfl
 rw [this]
 simp only [ab]
 refine Ok.andThen (A := λ s => s = true) (B := λ (_ : Unit) => False) ?_ ?_ (λ _ h => h.elim)
 ·refine c6 (I := λ _ s => s = true) rfl (λ j x s hx hs => ?_) λ _ h => h
  subst hs
  have hj := (aa.1 hx).1
  obtain ⟨c, hc⟩ : ∃ c, b.Ad[j]? = some c := ⟨_, af (by omega)⟩
  have hcnt : cnt 0 j = (j : Int) := C_ (by omega)
  have hg : getI b.Ad (j : Int) = some c := by unfold getI; simp [hc]
  have hl := hp.lim j x c hx hc
  have hone := hp.one j (by omega)
  unfold Aki
  rw [hcnt, hg]
  have e1 : Az [(true, true)] (some c) default = some c := rfl
  rw [e1]
  simp only [ab]
  have e2 : (true && F99 x 0 c.Load) = true := by rw [yF hl]; rfl
  rw [e2, Awn h h1]
  have e3 : Az [(true, true)] (some (((Cm b.Ae p.Ag j).length : Nat) : Int)) default = some (((Cm b.Ae p.Ag j).length : Nat) : Int) := rfl
  rw [e3]
  simp only [ab]
  refine c5 ?_
  simp; omega
 ·rintro s rfl
  exact c4 rfl
theorem I8 (x lo hi : Int) : B7 x lo hi = true ↔ lo <= x /\ x <= hi := by
 simp [B7]
theorem jI {b : Aa} (h : Aw b) (x : Al) : F71 b x = true ↔ Ca b x := by
 have h1 := h.buses
 have h2 := h.brl
 have h3 := h.sol
 have h4 := h.col
 unfold F71 Ca
 rw [Bb (n := (b.Ac.length : Int) - 1) (by omega), Bb (n := (b.Ae.length : Int) - 1) (by omega), Bb (n := b.Aq - 1) (by omega), Bb (n := (b.Ad.length : Int) - 1) (by omega)]
 by_cases k1 : x.Kind = 1
 ·rw [de.2 k1, cond_true, I8]; omega
 rw [dg.2 k1, cond_false]
 by_cases k2 : x.Kind = 2
 ·rw [de.2 k2, cond_true, I8]; omega
 rw [dg.2 k2, cond_false]
 by_cases k3 : x.Kind = 3
 ·rw [de.2 k3, cond_true, I8]; omega
 rw [dg.2 k3, cond_false]
 by_cases k4 : x.Kind = 4
 ·rw [de.2 k4, cond_true, I8]; omega
 ·rw [dg.2 k4]
  simp only [cond_false, bK, false_iff]
  omega
theorem Ahk {l : List Aj} : ∀ {c d : List Bool}, c.length = d.length -> (∀ k : Nat, c[k]? = some true -> d[k]? = some true) -> ∀ i, (Cm l c i).length <= (Cm l d i).length := by
 induction l with
 | nil => intro c d _ _ i; simp [Cm]
 | cons x l ih =>
  intro c d hl h i
  cases c with
  | nil => simp [Cm]
  | cons v c => cases d with
   | nil => simp at hl
   | cons u d =>
    have := ih (c := c) (d := d) (by simpa using hl) (λ k hk => by have := h (k + 1) (by simpa using hk); simpa using this) i
    have h0 : v = true -> u = true := λ e => by have := h 0 (by simp [e]); simpa using this
    unfold Cm at this ⊢
    simp only [bo, bf]
    cases hk : (x.Kind == 3 && x.B == (i : Int)) with
    | false => simpa using this
    | true =>
     cases v with
     | false => cases u <;> simp <;> omega
     | true => rw [h0 rfl]; simp; omega
theorem Azg {b : Aa} (h : Aw b) {s0 : Ai} (hs0 : Bw s0) :
  Ok (whileN (N4 b) 1152921504606846976 (0, s0.L, s0.At, ([] : List Bool))) (D3 (λ s => Bw ⟨s.2.1, s.2.2.1⟩ /\ s.2.2.2.length = b.Ae.length) (λ (_ : Unit) => False)) := by
 have hb := h.brl
 refine c7 (λ s => (0 <= s.1 /\ s.1 <= (b.Ae.length : Int)) /\ Bw ⟨s.2.1, s.2.2.1⟩ /\ (s.2.2.2.length : Int) = s.1) (λ s => ((b.Ae.length : Int) - s.1).toNat) _ _ ?_ ?_ ?_
 ·exact ⟨by dsimp only; omega, hs0, by simp⟩
 ·dsimp only; omega
 ·rintro ⟨i, L, a, l⟩ ⟨⟨h1, h2⟩, h4, h5⟩
  dsimp only at h1 h2 h4 h5
  unfold N4 Aih
  refine c3 (λ h => ?_) (λ h => ?_)
  ·simp only [da] at h
   have e : w64 (i + 1) = i + 1 := Bb (by omega)
   dsimp only
   rw [e]
   refine (Fk h4 2 (by omega) (by omega)).bind λ u hu => (c9 (by simp; omega)).bind λ m hm => c5 ?_
   subst hm
   exact ⟨⟨by dsimp only; omega, hu.1, by simp; omega⟩, by dsimp only; omega⟩
  ·simp only [db] at h
   exact cJ ⟨h4, by dsimp only; omega⟩
theorem Bm {α : Type} {l : List α} {j : Nat} {x : α} (h : l[j]? = some x) : getI l (j : Int) = some x := by unfold getI; simp [h]
theorem Xd {α : Type} {l : List α} {j : Nat} {x : α} (h : j < l.length) : setI l (j : Int) x = some (l.set j x) := by
 unfold setI
 have h1 : decide ((0 : Int) <= (j : Int)) = true := by simp
 have h2 : decide ((j : Int) < (l.length : Int)) = true := by simp; omega
 rw [h1, h2]; simp
theorem Aze {b : Aa} (h : Aw b) {n : Int} {i : Nat} (hn : n = (i : Int)) {c : List Bool} (hc : c.length = b.Ae.length) (w : Int × List Bool) (hw : w.1 = n) :
  Ok (foldI (N2 w) b.Ae 0 (true, c)) (D3 (λ s => s.2.length = b.Ae.length /\ (∀ k : Nat, s.2[k]? = some true -> c[k]? = some true) /\ (Cm b.Ae s.2 i).length <= 1) (λ (_ : Unit) => False)) := by
 have hb := h.brl
 refine c6 (I := λ j s => s.2.length = b.Ae.length /\ (∀ k : Nat, s.2[k]? = some true -> c[k]? = some true) /\ (s.1 = true -> Cm (b.Ae.take j) (s.2.take j) i = []) /\ (Cm (b.Ae.take j) (s.2.take j) i).length <= 1) ?_ (λ j x s hx hs => ?_) λ s hs => ?_
 ·exact ⟨hc, λ _ h => h, λ _ => by simp [Cm], by simp [Cm]⟩
 ·obtain ⟨f, d⟩ := s
  obtain ⟨h1, h2, h3, h4⟩ := hs
  dsimp only at h1 h2 h3 h4
  have hj := (aa.1 hx).1
  obtain ⟨v, hv⟩ : ∃ v, d[j]? = some v := ⟨_, af (by omega)⟩
  have hcnt : cnt 0 j = (j : Int) := C_ (by omega)
  unfold N2 Ace
  dsimp only
  rw [hcnt, Bm hv, Xd (by omega), hw, hn]
  cases hk : (x.Kind == 3 && x.B == (i : Int)) with
  | false =>
   simp only [Az, Dj, Bool.false_and]
   refine c5 ⟨h1, h2, λ e => ?_, ?_⟩ <;> dsimp only <;> rw [Lg hx hv, hk]
   ·simpa using h3 e
   ·simpa using h4
  | true =>
   simp only [Az, Dj, aZ]
   cases v with
   | false =>
    refine c5 ⟨h1, h2, λ e => ?_, ?_⟩ <;> dsimp only <;> rw [Lg hx hv, hk]
    ·simpa using h3 e
    ·simpa using h4
   | true =>
    have hset : (d.set j f)[j]? = some f := by rw [bt (by omega)]
    have htake : (d.set j f).take j = d.take j := by rw [List.take_set_of_le (ao j)]
    refine c5 ⟨by simpa using h1, λ k hk2 => ?_, λ e => ?_, ?_⟩
    ·dsimp only at hk2
     rw [au] at hk2
     split at hk2
     ·rename_i e; subst e; exact h2 _ hv
     ·exact h2 _ hk2
    ·cases e
    ·dsimp only
     rw [Lg hx hset, hk, htake]
     cases f with
     | false => simpa using h4
     | true => simp [h3 rfl]
 ·rw [ax] at hs
  obtain ⟨h1, h2, h3, h4⟩ := hs
  have : s.2.take b.Ae.length = s.2 := ck (by omega)
  rw [this] at h4
  exact ⟨h1, h2, h4⟩
theorem Azf {b : Aa} (h : Aw b) {c : List Bool} (hc : c.length = b.Ae.length) :
  Ok (whileN (N3 b) 1152921504606846976 (0, c)) (D3 (λ s => s.2.length = b.Ae.length /\ ∀ i, i < b.Ad.length -> (Cm b.Ae s.2 i).length <= 1) (λ (_ : Unit) => False)) := by
 have hco := h.col
 refine c7 (λ s => (0 <= s.1 /\ s.1 <= (b.Ad.length : Int)) /\ s.2.length = b.Ae.length /\ ∀ i : Nat, (i : Int) < s.1 -> (Cm b.Ae s.2 i).length <= 1) (λ s => ((b.Ad.length : Int) - s.1).toNat) _ _ ?_ ?_ ?_
 ·exact ⟨by dsimp only; omega, hc, λ i hi => by dsimp only at hi; omega⟩
 ·dsimp only; omega
 ·rintro ⟨n, d⟩ ⟨⟨h1, h2⟩, h3, h4⟩
  dsimp only at h1 h2 h3 h4
  unfold N3 Aig
  refine c3 (λ hq => ?_) (λ hq => ?_)
  ·simp only [da] at hq
   have e : w64 (n + 1) = n + 1 := Bb (by omega)
   dsimp only
   refine (Aze h (n := n) (i := n.toNat) (by omega) h3 (n, d) rfl).inner (λ s hs => ?_) (λ _ h => h.elim)
   rw [e]
   obtain ⟨g1, g2, g3⟩ := hs
   refine c5 ⟨⟨by dsimp only; omega, g1, λ i hi => ?_⟩, by dsimp only; omega⟩
   dsimp only at hi ⊢
   by_cases e : (i : Int) = n
   ·have : i = n.toNat := by omega
    subst this; exact g3
   ·exact ay (Ahk (by omega) g2 i) (h4 i (by omega))
  ·simp only [db] at hq
   exact cJ ⟨h3, λ i hi => h4 i (by omega)⟩
theorem Azd {b : Aa} (h : Aw b) {s0 : Ai} (hs0 : Bw s0) :
  Ok (whileN (N1 b) 1152921504606846976 (0, s0.L, s0.At, ([] : List Ah))) (D3 (λ s => Bw ⟨s.2.1, s.2.2.1⟩ /\ s.2.2.2.length = b.Ac.length /\ ∀ x, x ∈ s.2.2.2 -> Df x) (λ (_ : Unit) => False)) := by
 have hb := h.sol
 refine c7 (λ s => (0 <= s.1 /\ s.1 <= (b.Ac.length : Int)) /\ Bw ⟨s.2.1, s.2.2.1⟩ /\ (s.2.2.2.length : Int) = s.1 /\ ∀ x, x ∈ s.2.2.2 -> Df x) (λ s => ((b.Ac.length : Int) - s.1).toNat) _ _ ?_ ?_ ?_
 ·exact ⟨by dsimp only; omega, hs0, by simp, λ x hx => by simp at hx⟩
 ·dsimp only; omega
 ·rintro ⟨i, L, a, l⟩ ⟨⟨h1, h2⟩, h4, h5, h6⟩
  dsimp only at h1 h2 h4 h5 h6
  unfold N1 Acd
  refine c3 (λ h => ?_) (λ h => ?_)
  ·simp only [da] at h
   have e : w64 (i + 1) = i + 1 := Bb (by omega)
   dsimp only
   rw [e]
   refine (D6 h4 _ (by simp) (by simp)).bind λ u hu => (Fk hu.1 5 (by omega) (by omega)).bind λ v hv => (D6 hv.1 _ (by simp) (by simp)).bind λ p hp => (D6 hp.1 _ (by simp) (by simp)).bind λ q hq => (c9 (by simp; omega)).bind λ m hm => c5 ?_
   subst hm
   have g1 : u.1 = 0 \/ u.1 = 1 \/ u.1 = 2 \/ u.1 = 2 \/ u.1 = 2 \/ u.1 = 3 := by simpa using hu.2
   have g2 := hv.2
   have g3 : p.1 = 5000 \/ p.1 = 5000 \/ p.1 = 5005 \/ p.1 = 4950 := by simpa using hp.2
   have g4 : q.1 = 0 \/ q.1 = 0 \/ q.1 = 40 \/ q.1 = 1800 \/ q.1 = 3590 := by simpa using hq.2
   refine ⟨⟨by dsimp only; omega, hq.1, by simp; omega, λ x hx => ?_⟩, by dsimp only; omega⟩
   rcases ar.1 hx with hx | hx
   ·exact h6 x hx
   ·simp at hx; subst hx
    exact ⟨by dsimp only; omega, by dsimp only; omega, by dsimp only; omega, by dsimp only; omega⟩
  ·simp only [db] at h
   exact cJ ⟨h4, by dsimp only; omega, h6⟩
theorem Azc {b : Aa} (h : Aw b) {s0 : Ai} (hs0 : Bw s0) :
  Ok (foldI N0 b.Ad 0 (s0.L, s0.At, ([] : List Int))) (D3 (λ s => Bw ⟨s.1, s.2.1⟩ /\ s.2.2.length = b.Ad.length /\ ∀ (i : Nat) n c, s.2.2[i]? = some n -> b.Ad[i]? = some c -> 0 <= n /\ n <= c.Load) (λ (_ : Unit) => False)) := by
 have hb := h.col
 refine c6 (I := λ j s => Bw ⟨s.1, s.2.1⟩ /\ s.2.2.length = j /\ ∀ (i : Nat) n c, s.2.2[i]? = some n -> b.Ad[i]? = some c -> 0 <= n /\ n <= c.Load) ?_ (λ j x s hx hs => ?_) λ s hs => hs
 ·exact ⟨hs0, rfl, λ i n c hn => by simp at hn⟩
 ·obtain ⟨L, a, l⟩ := s
  obtain ⟨h1, h2, h3⟩ := hs
  dsimp only at h1 h2 h3
  have hj := (aa.1 hx).1
  unfold N0
  dsimp only
  refine (D6 h1 _ (by simp) (by simp)).bind λ u hu => (c9 (by simp; omega)).bind λ m hm => c5 ⟨hu.1, ?_, λ i n c hn hc => ?_⟩
  ·subst hm; simp [h2]
  ·dsimp only at hn
   subst hm
   rw [bM] at hn
   split at hn
   ·exact h3 i n c hn hc
   ·rename_i hi
    have hlt := (aa.1 hn).1
    simp at hlt
    have : i = j := by omega
    subst this
    rw [hx] at hc; cases hc
    rw [h2] at hn
    simp at hn; subst hn
    obtain ⟨g1, g2, _⟩ := h.co _ x hx
    have g3 := Ay1 (x := x.Load) (by omega) (by omega)
    have g4 : u.1 = x.Load \/ u.1 = x.Load \/ u.1 = x.Least \/ u.1 = w64 (Int.tdiv x.Load 3) := by simpa using hu.2
    omega
theorem Azb {b : Aa} (h : Aw b) {s0 : Ai} (hs0 : Bw s0) :
  Ok (whileN (Nz b) 7 (1, s0.L, s0.At, ([] : List Al))) (D3 (λ s => Bw ⟨s.2.1, s.2.2.1⟩ /\ D7 b s.2.2.2 /\ s.2.2.2.length <= 4) (λ (_ : Unit) => False)) := by
 refine c7 (λ s => (1 <= s.1 /\ s.1 <= 5) /\ Bw ⟨s.2.1, s.2.2.1⟩ /\ ((s.2.2.2.length : Int) < s.1) /\ (∀ x, x ∈ s.2.2.2 -> Ca b x /\ x.Kind < s.1) /\ ∀ (j : Nat) x y, s.2.2.2[j]? = some x -> s.2.2.2[j + 1]? = some y -> Pn x y) (λ s => (5 - s.1).toNat) _ _ ?_ ?_ ?_
 ·exact ⟨by dsimp only; omega, hs0, by simp, λ x hx => by simp at hx, λ j x y hx => by simp at hx⟩
 ·dsimp only; omega
 ·rintro ⟨i, L, a, l⟩ ⟨⟨h1, h2⟩, h4, h5, h6, h7⟩
  dsimp only at h1 h2 h4 h5 h6 h7
  unfold Nz
  refine c3 (λ hq => ?_) (λ hq => ?_)
  ·simp only [da] at hq
   have e : w64 (i + 1) = i + 1 := Bb (by omega)
   dsimp only
   rw [e]
   have skip : ∀ {u : Ai}, Bw u -> Ok (some (.next (i + 1, u.L, u.At, l)) : Option (Ctl (Int × List Int × Int × List Al) Unit)) (H_ (λ s => ((1 <= s.1 /\ s.1 <= 5) /\ Bw ⟨s.2.1, s.2.2.1⟩ /\ ((s.2.2.2.length : Int) < s.1) /\ (∀ x, x ∈ s.2.2.2 -> Ca b x /\ x.Kind < s.1) /\ ∀ (j : Nat) x y, s.2.2.2[j]? = some x -> s.2.2.2[j + 1]? = some y -> Pn x y) /\ (5 - s.1).toNat < (5 - i).toNat) (λ s => Bw ⟨s.2.1, s.2.2.1⟩ /\ D7 b s.2.2.2 /\ s.2.2.2.length <= 4) (λ _ => False)) := λ hu =>
    c5 ⟨⟨by dsimp only; omega, hu, by dsimp only; omega, λ x hx => ⟨(h6 x hx).1, by have := (h6 x hx).2; dsimp only; omega⟩, h7⟩, by dsimp only; omega⟩
   refine (Fk h4 5 (by omega) (by omega)).bind λ u hu => c3 (λ _ => ?_) (λ _ => skip hu.1)
   refine (Fk hu.1 4 (by omega) (by omega)).bind λ v hv => c3 (λ he => ?_) (λ _ => skip hv.1)
   rw [jI h] at he
   refine (c9 (by simp; omega)).bind λ m hm => c5 ?_
   subst hm
   refine ⟨⟨by dsimp only; omega, hv.1, by simp; omega, λ x hx => ?_, λ j x y hx hy => ?_⟩, by dsimp only; omega⟩
   ·rcases ar.1 hx with hx | hx
    ·exact ⟨(h6 x hx).1, by have := (h6 x hx).2; dsimp only; omega⟩
    ·simp at hx; subst hx; exact ⟨he, by dsimp only; omega⟩
   ·dsimp only at hx hy
    have hyl := (aa.1 hy).1
    simp at hyl
    rw [aw (by omega)] at hx
    rw [bM] at hy
    split at hy
    ·exact h7 j x y hx hy
    ·rename_i hn
     have e0 : j + 1 - l.length = 0 := by omega
     rw [e0] at hy
     simp at hy; subst hy
     exact .inl (h6 x (ae hx)).2
  ·simp only [db] at hq
   exact cJ ⟨h4, ⟨by dsimp only; omega, λ x hx => (h6 x hx).1, h7⟩, by dsimp only; omega⟩
theorem A1b {b : Aa} (h : Aw b) {s : Ai} (hs : Bw s) : Ok (U3 s b) λ y => (As b y.1 /\ y.1.Ao.length <= 4) /\ Bw y.2 := by
 unfold U3
 refine (Azg h hs).andThen (λ s0 h0 => ?_) (λ _ h => h.elim)
 refine (Azf h h0.2).andThen (λ s1 h1 => ?_) (λ _ h => h.elim)
 refine (Azd h h0.1).andThen (λ s3 h3 => ?_) (λ _ h => h.elim)
 refine (Azc h h3.1).andThen (λ s4 h4 => ?_) (λ _ h => h.elim)
 refine (Azb h h4.1).andThen (λ s5 h5 => ?_) (λ _ h => h.elim)
 exact c4 ⟨⟨⟨h1.1, h3.2.1, h4.2.1, h3.2.2, h4.2.2, h1.2, h5.2.1⟩, h5.2.2⟩, h5.1⟩
def Dc (b : Aa) (p : Ab) (k i : Int) : Option Int := ((b.Ae.zip p.Ag).find? λ z => (z.1.Kind == k && z.1.B == i) && z.2).map (·.1.A)
def Et (o : Option Int) : Int × Bool := match o with
 | some a => (a, true)
 | none => (0, false)
theorem Ag2 {p : Ab} {k i : Int} : ∀ (l : List Aj) (c : List Bool) (n : Nat), n + l.length <= 9223372036854775807 -> l.length = c.length -> p.Ag.drop n = c ->
  foldI (Wi p k i) l n () = match ((l.zip c).find? λ z => (z.1.Kind == k && z.1.B == i) && z.2) with
   | some z => some (.ret (z.1.A, true))
   | none => some (.next ())
 | [], c, n, _, _, _ => by simp [foldI]
 | x :: l, [], n, _, h, _ => by simp at h
 | x :: l, v :: c, n, hn, h, hd => by
  simp only [aX] at hn h
  have hv : p.Ag[n]? = some v := by
   have := congrArg (·[0]?) hd
   simpa [List.getElem?_drop] using this
  have hd' : p.Ag.drop (n + 1) = c := by rw [← bF, hd]; rfl
  have ih := Ag2 (p := p) (k := k) (i := i) l c (n + 1) (by omega) (by omega) hd'
  have hcnt : cnt 0 n = (n : Int) := C_ (by omega)
  simp only [foldI, Wi, Awu, hcnt, Bm hv, bo, b9]
  cases hk : (x.Kind == k && x.B == i) with
  | false => simpa [Az, Dj] using ih
  | true =>
   cases v with
   | false => simpa [Az, Dj] using ih
   | true => simp [Az, Dj]
theorem Ave {b : Aa} (h : Aw b) {p : Ab} (hc : p.Ag.length = b.Ae.length) (k i : Int) : zI b p k i = some (Et (Dc b p k i)) := by
 have hb := h.brl
 unfold zI
 rw [Ag2 b.Ae p.Ag 0 (by omega) (by omega) rfl]
 unfold Dc
 cases (b.Ae.zip p.Ag).find? λ z => (z.1.Kind == k && z.1.B == i) && z.2 with
 | none => rfl
 | some z => rfl
theorem Avw {b : Aa} (h : Aw b) {p : Ab} (hc : p.Ag.length = b.Ae.length) (i : Int) : Y4 b p i = some (Et (Dc b p 3 i)) := by
 unfold Y4
 rw [Ave h hc]; rfl
def Ev (b : Aa) (p : Ab) (i : Int) : Option Int :=
 if 0 <= i /\ i < p.Ac.length /\ (p.Ac.getD i.toNat default).State = 2 then Dc b p 2 i else none
theorem Ts {b : Aa} (h : Aw b) {p : Ab} (hp : As b p) (i : Int) : Y5 b p i = some (Et (Ev b p i)) := by
 have hs := h.sol
 have hn := hp.nso
 refine cL ?_
 unfold Y5
 have e1 : w64 ((p.Ac.length : Int) - 1) = (p.Ac.length : Int) - 1 := Bb (by omega)
 by_cases hi : 0 <= i /\ i < p.Ac.length
 ·have hin : F99 i 0 (w64 ((p.Ac.length : Int) - 1)) = true := by rw [e1]; exact yF (by omega)
  obtain ⟨x, hx⟩ : ∃ x, p.Ac[i.toNat]? = some x := ⟨_, af (by omega)⟩
  have hg : getI p.Ac i = some x := by have := Bm hx; rwa [bC hi.1] at this
  have hd : p.Ac.getD i.toNat default = x := by simp [List.getD, hx]
  rw [hin, hg]
  refine Ok.bind (P := λ y => y = x) (cF (λ _ => c4 rfl) λ hn => (hn ⟨rfl, trivial⟩).elim) λ y hy => ?_
  subst hy
  unfold Ev
  refine c3 (λ hc => ?_) (λ hc => ?_)
  ·simp only [qA, hin, aH, be, bK, false_or, bne_iff_ne, ne_eq] at hc
   rw [hd, if_neg (λ hh => hc hh.2.2)]
   exact c4 rfl
  ·have hc := ff hc
   simp only [qA, hin, aH, be, bK, false_or, bne_iff_ne, ne_eq, Decidable.not_not] at hc
   rw [hd, if_pos ⟨hi.1, hi.2, hc⟩, Ave h hp.ncl]
   exact c4 rfl
 ·have hin : F99 i 0 (w64 ((p.Ac.length : Int) - 1)) = false := by
   cases hq : F99 i 0 (w64 ((p.Ac.length : Int) - 1)) with
   | false => rfl
   | true => rw [Ho, e1] at hq; omega
  rw [hin]
  unfold Ev
  rw [if_neg (λ hh => hi ⟨hh.1, hh.2.1⟩)]
  refine Ok.bind (P := λ _ => True) (cF (λ hg => absurd hg.1 (by simp)) λ _ => trivial) λ y _ => ?_
  refine c3 (λ _ => c4 rfl) (λ hc => ?_)
  simp [qA, hin] at hc
theorem Xq {b : Aa} (h : Aw b) {p : Ab} {k i a : Int} (e : Dc b p k i = some a) : 0 <= a /\ a < b.Aq := by
 unfold Dc at e
 rw [Option.map_eq_some_iff] at e
 obtain ⟨z, hz, rfl⟩ := e
 exact (h.br z.1 (bS (List.mem_of_find?_eq_some hz)).1).1
theorem X2 {b : Aa} (h : Aw b) {p : Ab} {i a : Int} (e : Ev b p i = some a) : 0 <= a /\ a < b.Aq := by
 unfold Ev at e
 split at e
 ·exact Xq h e
 ·cases e
def Dt (s : List Int) (z : Aj × Bool) : List Int :=
 if z.1.Kind = 1 /\ z.2 = true then (s.set z.1.A.toNat (min (s.getD z.1.A.toNat 0) (s.getD z.1.B.toNat 0))).set z.1.B.toNat (min (s.getD z.1.A.toNat 0) (s.getD z.1.B.toNat 0)) else s
def Cp (l : List (Aj × Bool)) (s : List Int) : List Int := l.foldl Dt s
def Cs (n : Nat) : List Int := (List.range n).map λ (i : Nat) => (i : Int)
def groups (b : Aa) (p : Ab) : List Int := (List.range b.Aq.toNat).foldl (λ s _ => Cp (b.Ae.zip p.Ag) s) (Cs b.Aq.toNat)
theorem Eh (s : List Int) (z : Aj × Bool) : (Dt s z).length = s.length := by
 unfold Dt; split <;> simp
theorem Fr (l : List (Aj × Bool)) : ∀ s : List Int, (Cp l s).length = s.length := by
 induction l with
 | nil => intro s; rfl
 | cons z l ih => intro s; show (Cp l (Dt s z)).length = _; rw [ih, Eh]
theorem Oa {b : Aa} {p : Ab} {n : Nat} : ∀ (xs : List Nat) (s : List Int), s.length = n -> (xs.foldl (λ s _ => Cp (b.Ae.zip p.Ag) s) s).length = n
 | [], s, h => h
 | _ :: xs, s, h => Oa xs _ (by rw [Fr]; exact h)
theorem Gw (b : Aa) (p : Ab) : (groups b p).length = b.Aq.toNat := Oa _ _ (by simp [Cs])
theorem Az3 {b : Aa} (h : Aw b) {p : Ab} (hc : p.Ag.length = b.Ae.length) {s : List Int} (hs : s.length = b.Aq.toNat) :
  Ok (foldI (Wl p) b.Ae 0 s) (D3 (λ r => r = Cp (b.Ae.zip p.Ag) s) (λ (_ : Unit) => False)) := by
 have hb := h.brl
 have hbu := h.buses
 refine c6 (I := λ j r => r = Cp ((b.Ae.take j).zip (p.Ag.take j)) s) (by simp [Cp]) (λ j x r hx hr => ?_) λ r hr => ?_
 ·have hj := (aa.1 hx).1
  obtain ⟨v, hv⟩ : ∃ v, p.Ag[j]? = some v := ⟨_, af (by omega)⟩
  have hcnt : cnt 0 j = (j : Int) := C_ (by omega)
  have hl : r.length = b.Aq.toNat := by rw [hr, Fr, hs]
  have hnext : Cp ((b.Ae.take (j + 1)).zip (p.Ag.take (j + 1))) s = Dt r (x, v) := by
   rw [Bi hx, Bi hv, List.zip_append (by simp; omega)]
   unfold Cp at hr ⊢
   rw [aM, ← hr]; rfl
  rw [hnext]
  unfold Wl
  rw [hcnt, Bm hv]
  obtain ⟨⟨a0, a1⟩, hk⟩ := h.br x (ae hx)
  by_cases k1 : x.Kind = 1
  ·rw [de.2 k1]
   refine Ok.bind (P := λ y => y = v) (cF (λ _ => c4 rfl) λ hn => (hn ⟨rfl, trivial⟩).elim) λ y hy => ?_
   subst hy
   have hB : x.A < x.B /\ x.B < b.Aq := by omega
   cases y with
   | false =>
    refine c3 (λ hq => by simp at hq) (λ _ => c5 ?_)
    simp [Dt]
   | true =>
    refine c3 (λ _ => ?_) (λ hq => by simp at hq)
    refine (c8 a0 (by omega)).bind λ u hu => (c8 (by omega) (by omega)).bind λ w hw => (cI a0 (by omega)).bind λ t ht => ?_
    subst ht
    refine (c8 (by omega) (by simp; omega)).bind λ _ _ => (cI (by omega) (by simp; omega)).bind λ t ht => c5 ?_
    subst ht
    simp [Dt, k1, List.getD, hu, hw]
  ·rw [dg.2 k1]
   refine Ok.bind (P := λ _ => True) (cF (λ hg => absurd hg.1 (by simp)) λ _ => trivial) λ y _ => ?_
   refine c3 (λ hq => by simp at hq) (λ _ => c5 ?_)
   simp [Dt, k1]
 ·rw [ax, ← hc, ax] at hr
  exact hr
theorem Avt {b : Aa} (h : Aw b) {p : Ab} (hc : p.Ag.length = b.Ae.length) : zT b p = some (groups b p) := by
 have hbu := h.buses
 refine cL ?_
 unfold zT
 refine (Ok.mkI (by omega) (by omega)).bind λ y hy => ?_
 refine Ok.andThen (A := λ s => s = Cs b.Aq.toNat) (B := λ (_ : Unit) => False) ?_ ?_ (λ _ h => h.elim)
 ·refine c6 (I := λ j s => s = (List.range b.Aq.toNat).map λ i => if i < j then (i : Int) else 0) ?_ (λ j x s hx hs => ?_) λ s hs => ?_
  ·rw [hy, Nf]
   exact aV λ i _ => by simp
  ·have hj := (aa.1 hx).1
   have hjl : j < b.Aq.toNat := by rw [hy] at hj; simpa using hj
   have hcnt : cnt 0 j = (j : Int) := C_ (by omega)
   subst hs
   unfold zS
   rw [hcnt]
   refine (cR (by omega) (by omega)).bind λ _ _ => (cW (by omega) (by omega)).bind λ z hz => c5 ?_
   rw [hz]
   refine aV λ i _ => ?_
   by_cases e : i = j
   ·subst e; simp
   ·have : ((j : Int)).toNat = j := by omega
    rw [this, if_neg e]
    by_cases e2 : i < j
    ·rw [if_pos e2, if_pos (by omega)]
    ·rw [if_neg e2, if_neg (by omega)]
  ·rw [hs]
   unfold Cs
   refine aV λ i hi => ?_
   rw [hy]
   simp at hi
   simp [hi]
 ·rintro s rfl
  refine Ok.andThen (A := λ s => s = groups b p) (B := λ (_ : Unit) => False) ?_ (λ s hs => c4 hs) (λ _ h => h.elim)
  refine c6 (I := λ j s => s = (List.range j).foldl (λ s _ => Cp (b.Ae.zip p.Ag) s) (Cs b.Aq.toNat)) rfl (λ j x s hx hs => ?_) λ s hs => ?_
  ·unfold zR
   have hl : s.length = b.Aq.toNat := by rw [hs]; exact Oa _ _ (by simp [Cs])
   refine (Az3 h hc hl).inner (λ r hr => c5 ?_) (λ _ h => h.elim)
   rw [hr, bT, aM, ← hs]; rfl
  ·rw [hs]
   unfold groups
   congr 2
   simp [Cs]
theorem Az2 {s : List Int} (h : ∀ (i : Nat) v, s[i]? = some v -> 0 <= v /\ v <= i) {z : Aj × Bool} (hz : z.1.Kind = 1 -> 0 <= z.1.A /\ z.1.A < z.1.B /\ z.1.B < s.length) : ∀ (i : Nat) v, (Dt s z)[i]? = some v -> 0 <= v /\ v <= i := by
 unfold Dt
 split
 ·rename_i hk
  obtain ⟨h1, h2, h3⟩ := hz hk.1
  have ga : s[z.1.A.toNat]? = some (s.getD z.1.A.toNat 0) := by rw [af (by omega)]; simp [List.getD, List.getElem?_eq_getElem (show z.1.A.toNat < s.length by omega)]
  have gb : s[z.1.B.toNat]? = some (s.getD z.1.B.toNat 0) := by rw [af (by omega)]; simp [List.getD, List.getElem?_eq_getElem (show z.1.B.toNat < s.length by omega)]
  have ha := h _ _ ga
  have hb := h _ _ gb
  intro i v hv
  rw [au] at hv
  split at hv
  ·rename_i e; subst e
   split at hv
   ·cases hv; omega
   ·cases hv
  ·rw [au] at hv
   split at hv
   ·rename_i e; subst e
    split at hv
    ·cases hv; omega
    ·cases hv
   ·exact h i v hv
 ·exact h
theorem Ab0 {n : Nat} : ∀ (l : List (Aj × Bool)) (s : List Int), s.length = n -> (∀ z, z ∈ l -> z.1.Kind = 1 -> 0 <= z.1.A /\ z.1.A < z.1.B /\ z.1.B < n) -> (∀ (i : Nat) v, s[i]? = some v -> 0 <= v /\ v <= i) -> ∀ (i : Nat) v, (Cp l s)[i]? = some v -> 0 <= v /\ v <= i
 | [], s, _, _, h => h
 | z :: l, s, hs, hz, h => Ab0 l (Dt s z) (by rw [Eh]; exact hs) (λ y hy => hz y (ai _ hy)) (Az2 h (by rw [hs]; exact hz z ag))
theorem Nm {b : Aa} (h : Aw b) (p : Ab) : ∀ (i : Nat) v, (groups b p)[i]? = some v -> 0 <= v /\ v <= i := by
 have hbu := h.buses
 have hz : ∀ z, z ∈ b.Ae.zip p.Ag -> z.1.Kind = 1 -> 0 <= z.1.A /\ z.1.A < z.1.B /\ z.1.B < (b.Aq.toNat : Int) := by
  intro z hz hk
  have := h.br z.1 (bS hz).1
  unfold Oi at this
  omega
 have key : ∀ (xs : List Nat) (s : List Int), s.length = b.Aq.toNat -> (∀ (i : Nat) v, s[i]? = some v -> 0 <= v /\ v <= i) -> ∀ (i : Nat) v, (xs.foldl (λ s _ => Cp (b.Ae.zip p.Ag) s) s)[i]? = some v -> 0 <= v /\ v <= i := by
  intro xs
  induction xs with
  | nil => intro s _ h; exact h
  | cons x xs ih => intro s hl h; exact ih _ (by rw [Fr]; exact hl) (Ab0 _ s hl hz h)
 refine key _ _ (by simp [Cs]) ?_
 intro i v hv
 simp only [Cs, az] at hv
 cases hr : (List.range b.Aq.toNat)[i]? with
 | none => rw [hr] at hv; cases hv
 | some k =>
  rw [hr] at hv
  have := aa.1 hr
  simp at this
  obtain ⟨_, rfl⟩ := this
  cases hv; dsimp only; omega
def Ih (x : Af) : Bool := !((x.Aq.length : Int) == 0)
theorem A0h (l : List Af) (h : l.length <= 9223372036854775807) : U1 l = some (Qo (λ x => (x.Aq.length : Int) == 0) l) := by
 unfold U1
 exact Kl (λ x : Af => (x.Aq.length : Int) == 0) (λ i y => rfl) l h
theorem A36 (l : List Af) (hl : l.length <= 1000) : Pv l = some (l.filter Ih) := by
 refine cL ?_
 unfold Pv
 rw [A0h l (by omega)]
 simp only [ab]
 unfold Qo
 cases hf : l.findIdx? λ x => (x.Aq.length : Int) == 0 with
 | none =>
  rw [cC] at hf
  refine c3 (λ _ => c4 ?_) (λ hc => by simp at hc)
  rw [eq_comm, cv]
  intro x hx
  simp only [Ih, hf x hx]; rfl
 | some i =>
  rw [cD] at hf
  obtain ⟨hi, hp, hn⟩ := hf
  refine c3 (λ hc => ?_) (λ _ => ?_)
  ·simp only [de] at hc; omega
  have e1 : w64 ((i : Int) + 1) = (i : Int) + 1 := Bb (by omega)
  simp only [e1]
  refine Ok.andThen (A := λ s => 0 <= s.1 /\ s.1 <= (l.length : Int) /\ s.2.2.length = l.length /\ s.2.2.take s.1.toNat = l.filter Ih) (B := λ (_ : Unit) => False) ?_ ?_ (λ _ h => h.elim)
  ·refine c7 (λ s => (0 <= s.1 /\ s.1 < s.2.1 /\ s.2.1 <= (l.length : Int)) /\ s.2.2.length = l.length /\ s.2.2.take s.1.toNat = (l.take s.2.1.toNat).filter Ih /\ s.2.2.drop s.2.1.toNat = l.drop s.2.1.toNat) (λ s => ((l.length : Int) - s.2.1).toNat) _ _ ?_ ?_ ?_
   ·refine ⟨by dsimp only; omega, rfl, ?_, rfl⟩
    dsimp only
    have e2 : ((i : Int) + 1).toNat = i + 1 := by omega
    rw [e2, aE, Bi (af hi), aY]
    have h1 : (l.take i).filter Ih = l.take i := by
     rw [cv]
     intro x hx
     obtain ⟨j, hj, rfl⟩ := cu hx
     simp only [aO] at hj
     rw [List.getElem_take]
     have := hn j (by omega)
     simp only [Ih]
     simpa using this
    have h2 : Ih l[i] = false := by simp only [Ih, hp]; rfl
    rw [h1]
    simp [h2]
   ·dsimp only; omega
   ·rintro ⟨a, j, m⟩ ⟨⟨h1, h2, h3⟩, h4, h5, h6⟩
    dsimp only at h1 h2 h3 h4 h5 h6
    unfold U0 Aid
    dsimp only
    refine c3 (λ hq => ?_) (λ hq => ?_)
    ·simp only [da] at hq
     have e1 : w64 (j + 1) = j + 1 := Bb (by omega)
     have e2 : w64 (a + 1) = a + 1 := Bb (by omega)
     have e3 : (j + 1).toNat = j.toNat + 1 := by omega
     have e4 : (a + 1).toNat = a.toNat + 1 := by omega
     refine (c8 (by omega) (by omega)).bind λ y hy => ?_
     have hyl : l[j.toNat]? = some y := by
      have := congrArg (·[0]?) h6
      simp only [aq, bZ] at this
      rw [← this]; exact hy
     have hdrop : ∀ (q : List Af), q.drop j.toNat = l.drop j.toNat -> q.drop (j.toNat + 1) = l.drop (j.toNat + 1) := λ q hq => by
      rw [← bF, hq, bF]
     refine c3 (λ hf => ?_) (λ hf => ?_)
     ·refine (c8 (by omega) (by omega)).bind λ _ _ => (cI (by omega) (by omega)).bind λ z hz => ?_
      rw [e1, e2]
      subst hz
      refine c5 ⟨⟨by dsimp only; omega, by simpa using h4, ?_, ?_⟩, by dsimp only; omega⟩
      ·dsimp only
       rw [e3, e4, Bi hyl, aY, ← h5]
       have hfl : Ih y = true := hf
       rw [Bi (x := y) (by rw [bt (by omega)])]
       simp [hfl, List.take_set_of_le]
      ·dsimp only
       rw [e3, List.drop_set_of_lt (by omega)]
       exact hdrop m h6
     ·rw [e1]
      refine c5 ⟨⟨by dsimp only; omega, h4, ?_, ?_⟩, by dsimp only; omega⟩
      ·dsimp only
       have hfl : Ih y = false := hf
       rw [e3, Bi hyl, aY, ← h5]
       simp [hfl]
      ·dsimp only
       rw [e3]; exact hdrop m h6
    ·simp only [db] at hq
     have e : j.toNat = l.length := by omega
     refine cJ ⟨h1, by dsimp only; omega, h4, ?_⟩
     dsimp only
     rw [h5, e, ax]
  ·rintro ⟨a, j, m⟩ ⟨h1, h2, h3, h4⟩
   dsimp only at h1 h2 h3 h4 ⊢
   have hc : (Gn m a.toNat ((Int.toNat (m.length : Int)) - a.toNat) (⟨([] : List Int), ([] : List Int), ([] : List Int)⟩ : Af)).length = l.length := by
    simp [Gn]; omega
   refine (Ok.bndI h1 (by omega) (by omega)).bind λ _ _ => (Ok.bndI (by omega) h1 (by rw [hc]; omega)).bind λ _ _ => c4 ?_
   rw [← h4]
   unfold Gn
   rw [Nat.sub_zero, ch (by simp; omega), List.take_take, Nat.min_self]
def Ea (b : Aa) (p : Ab) (o : Option Int) : Option Int := o.map λ a => (groups b p).getD a.toNat 0
def Dr (b : Aa) (p : Ab) (n f : Nat) : List Int := ((List.range n).filter λ (i : Nat) => (groups b p).getD i 0 == (f : Int)).map λ (i : Nat) => (i : Int)
def Eb (b : Aa) (p : Ab) (n f : Nat) : List Int := ((List.range n).filter λ (i : Nat) => Ea b p (Ev b p (i : Int)) == some (f : Int)).map λ (i : Nat) => (i : Int)
def Fw (b : Aa) (p : Ab) (n f : Nat) : List Int := ((List.range n).filter λ (i : Nat) => Ea b p (Dc b p 3 (i : Int)) == some (f : Int)).map λ (i : Nat) => (i : Int)
def isl (b : Aa) (p : Ab) (f : Nat) : Af := ⟨Dr b p b.Aq.toNat f, Eb b p b.Ac.length f, Fw b p b.Ad.length f⟩
def Bj (b : Aa) (p : Ab) : List Af := ((List.range b.Aq.toNat).map (isl b p)).filter Ih
theorem Fu (q : Nat -> Bool) (n : Nat) : ((List.range (n + 1)).filter q).map (λ (i : Nat) => (i : Int)) = ((List.range n).filter q).map (λ (i : Nat) => (i : Int)) ++ if q n = true then [(n : Int)] else [] := by
 rw [bT, aY, bB]
 congr 1
 cases h : q n <;> simp [h]
theorem Dk (q : Nat -> Bool) (n : Nat) : (((List.range n).filter q).map (λ (i : Nat) => (i : Int))).length <= n := by
 have := bk q (List.range n)
 simpa using this
theorem Jh {b : Aa} (h : Aw b) {p : Ab} (hp : As b p) : F89 b p = some (Bj b p) := by
 have hbu := h.buses
 have hso := h.sol
 have hco := h.col
 have hgl := Gw b p
 have hglo := Nm h p
 refine cL ?_
 unfold F89
 rw [Fa h hp]
 simp only [ab]
 refine c3 (λ hc => by simp at hc) (λ _ => ?_)
 rw [Avt h hp.ncl]
 simp only [ab]
 refine (Ok.mkI (by omega) (by omega)).bind λ y hy => ?_
 have hget : ∀ (i : Nat), i < b.Aq.toNat -> (groups b p)[i]? = some ((groups b p).getD i 0) := λ i hi => by
  have : i < (groups b p).length := by omega
  simp [List.getD, List.getElem?_eq_getElem this]
 refine Ok.andThen (A := λ s => s = (List.range b.Aq.toNat).map λ f => (⟨Dr b p b.Aq.toNat f, [], []⟩ : Af)) (B := λ (_ : Unit) => False) ?_ ?_ (λ _ h => h.elim)
 ·refine c6 (I := λ j s => s = (List.range b.Aq.toNat).map λ f => (⟨Dr b p j f, [], []⟩ : Af)) ?_ (λ j x s hx hs => ?_) λ s hs => ?_
  ·rw [hy, Nf]; rfl
  ·subst hs
   have hj : j < b.Aq.toNat := by have := (aa.1 hx).1; omega
   have hlo := hglo j x hx
   have hxe : (groups b p).getD j 0 = x := by simp [List.getD, hx]
   have hcnt : cnt 0 j = (j : Int) := C_ (by omega)
   unfold Ajz
   rw [hcnt]
   refine (cR (by omega) (by omega)).bind λ u hu => ?_
   subst hu
   have hl : (Dr b p j x.toNat).length <= j := Dk _ _
   refine (c9 (by simp; omega)).bind λ v hv => (cW (by omega) (by omega)).bind λ w hw => c5 ?_
   rw [hw]
   refine aV λ f _ => ?_
   unfold Dr
   rw [Fu, hxe]
   by_cases e : f = x.toNat
   ·subst e
    rw [if_pos rfl, if_pos (by simp; omega), hv]
    rfl
   ·rw [if_neg e, if_neg (by simp; omega), aN]
  ·rw [hgl] at hs; exact hs
 ·rintro s rfl
  refine Ok.andThen (A := λ s => s.2 = (List.range b.Aq.toNat).map λ f => (⟨Dr b p b.Aq.toNat f, Eb b p b.Ac.length f, []⟩ : Af)) (B := λ (_ : Unit) => False) ?_ ?_ (λ _ h => h.elim)
  ·refine c7 (λ s => (0 <= s.1 /\ s.1 <= (b.Ac.length : Int)) /\ s.2 = (List.range b.Aq.toNat).map λ f => (⟨Dr b p b.Aq.toNat f, Eb b p s.1.toNat f, []⟩ : Af)) (λ s => ((b.Ac.length : Int) - s.1).toNat) _ _ ?_ ?_ ?_
   ·exact ⟨by dsimp only; omega, rfl⟩
   ·dsimp only; omega
   ·rintro ⟨i, s⟩ ⟨⟨h1, h2⟩, h3⟩
    dsimp only at h1 h2 h3
    subst h3
    unfold Ajy A2f
    dsimp only
    refine c3 (λ hq => ?_) (λ hq => ?_)
    ·simp only [da] at hq
     have e1 : w64 (i + 1) = i + 1 := Bb (by omega)
     have e2 : (i + 1).toNat = i.toNat + 1 := by omega
     have e3 : ((i.toNat : Nat) : Int) = i := by omega
     rw [Ts h hp]
     simp only [ab]
     cases hcn : Ev b p i with
     | none =>
      refine c3 (λ hc => by simp [Et] at hc) (λ _ => ?_)
      rw [e1]
      refine c5 ⟨⟨by dsimp only; omega, ?_⟩, by dsimp only; omega⟩
      dsimp only
      rw [e2]
      refine aV λ f _ => ?_
      unfold Eb
      rw [Fu, e3, hcn, if_neg (by simp [Ea]), aN]
     | some a =>
      have hab := X2 h hcn
      have hga := hget a.toNat (by omega)
      have hgla := hglo _ _ hga
      refine c3 (λ _ => ?_) (λ hc => by simp [Et] at hc)
      have hg2 : getI (groups b p) a = some ((groups b p).getD a.toNat 0) := by have := Bm hga; rwa [bC hab.1] at this
      simp only [Et, hg2, ab]
      generalize hge : (groups b p).getD a.toNat 0 = ga at hgla
      refine (cR (by omega) (by omega)).bind λ u hu => ?_
      subst hu
      have hl : (Eb b p i.toNat ga.toNat).length <= i.toNat := Dk _ _
      refine (c9 (by simp; omega)).bind λ v hv => (cW (by omega) (by omega)).bind λ w hw => ?_
      rw [e1]
      refine c5 ⟨⟨by dsimp only; omega, ?_⟩, by dsimp only; omega⟩
      dsimp only
      rw [hw, e2]
      refine aV λ f _ => ?_
      unfold Eb
      rw [Fu, e3, hcn]
      simp only [Ea, bE, hge]
      by_cases e : f = ga.toNat
      ·subst e
       rw [if_pos rfl, if_pos (by simp; omega), hv]
       rfl
      ·rw [if_neg e, if_neg (by simp; omega), aN]
    ·simp only [db] at hq
     have e : i.toNat = b.Ac.length := by omega
     rw [e]
     exact cJ rfl
  ·rintro ⟨i0, s⟩ hs
   dsimp only at hs
   subst hs
   dsimp only
   refine Ok.andThen (A := λ s => s.2 = (List.range b.Aq.toNat).map (isl b p)) (B := λ (_ : Unit) => False) ?_ ?_ (λ _ h => h.elim)
   ·refine c7 (λ s => (0 <= s.1 /\ s.1 <= (b.Ad.length : Int)) /\ s.2 = (List.range b.Aq.toNat).map λ f => (⟨Dr b p b.Aq.toNat f, Eb b p b.Ac.length f, Fw b p s.1.toNat f⟩ : Af)) (λ s => ((b.Ad.length : Int) - s.1).toNat) _ _ ?_ ?_ ?_
    ·exact ⟨by dsimp only; omega, rfl⟩
    ·dsimp only; omega
    ·rintro ⟨i, s⟩ ⟨⟨h1, h2⟩, h3⟩
     dsimp only at h1 h2 h3
     subst h3
     unfold Ajx A2e
     dsimp only
     refine c3 (λ hq => ?_) (λ hq => ?_)
     ·simp only [da] at hq
      have e1 : w64 (i + 1) = i + 1 := Bb (by omega)
      have e2 : (i + 1).toNat = i.toNat + 1 := by omega
      have e3 : ((i.toNat : Nat) : Int) = i := by omega
      rw [Avw h hp.ncl]
      simp only [ab]
      cases hcn : Dc b p 3 i with
      | none =>
       refine c3 (λ hc => by simp [Et] at hc) (λ _ => ?_)
       rw [e1]
       refine c5 ⟨⟨by dsimp only; omega, ?_⟩, by dsimp only; omega⟩
       dsimp only
       rw [e2]
       refine aV λ f _ => ?_
       unfold Fw
       rw [Fu, e3, hcn, if_neg (by simp [Ea]), aN]
      | some a =>
       have hab := Xq h hcn
       have hga := hget a.toNat (by omega)
       have hgla := hglo _ _ hga
       refine c3 (λ _ => ?_) (λ hc => by simp [Et] at hc)
       have hg2 : getI (groups b p) a = some ((groups b p).getD a.toNat 0) := by have := Bm hga; rwa [bC hab.1] at this
       simp only [Et, hg2, ab]
       generalize hge : (groups b p).getD a.toNat 0 = ga at hgla
       refine (cR (by omega) (by omega)).bind λ u hu => ?_
       subst hu
       have hl : (Fw b p i.toNat ga.toNat).length <= i.toNat := Dk _ _
       refine (c9 (by simp; omega)).bind λ v hv => (cW (by omega) (by omega)).bind λ w hw => ?_
       rw [e1]
       refine c5 ⟨⟨by dsimp only; omega, ?_⟩, by dsimp only; omega⟩
       dsimp only
       rw [hw, e2]
       refine aV λ f _ => ?_
       unfold Fw
       rw [Fu, e3, hcn]
       simp only [Ea, bE, hge]
       by_cases e : f = ga.toNat
       ·subst e
        rw [if_pos rfl, if_pos (by simp; omega), hv]
        rfl
       ·rw [if_neg e, if_neg (by simp; omega), aN]
     ·simp only [db] at hq
      have e : i.toNat = b.Ad.length := by omega
      rw [e]
      exact cJ rfl
   ·rintro ⟨i1, s⟩ hs
    dsimp only at hs
    subst hs
    dsimp only
    rw [A36 _ (by simp; omega)]
    exact c4 rfl
theorem Mr {α : Type} {B : Nat} {l : List α} (h : l.length * B <= 140737488355328) : appI B [] l = some l := by
 unfold appI
 have : decide ((([] : List α).length + l.length) * B <= 140737488355328) = true := by simpa using h
 rw [this]; rfl
theorem Gp {b : Aa} (h : Aw b) {p : Ab} (hp : As b p) : Ij p = some p := by
 have h1 := hp.ncl
 have h2 := hp.nso
 have h3 := hp.nli
 have h4 := hp.brk.len
 have h5 := h.brl
 have h6 := h.sol
 have h7 := h.col
 unfold Ij As9 As8 Y3 As7
 rw [Mr (by omega), Mr (by omega), Mr (by omega), Mr (by omega)]
 rfl
structure A1d (p : Ab) : Prop where
 c : p.Ag.length <= 1000
 s : p.Ac.length <= 1000
 l : p.Ak.length <= 1000
 k : p.Ao.length <= 1000
theorem As.lens {b : Aa} (h : Aw b) {p : Ab} (hp : As b p) : A1d p := by
 have h1 := hp.ncl
 have h2 := hp.nso
 have h3 := hp.nli
 have h4 := hp.brk.len
 have h5 := h.brl
 have h6 := h.sol
 have h7 := h.col
 exact ⟨by omega, by omega, by omega, by omega⟩
theorem Arj (l : List Bool) (h : l.length <= 9223372036854775807) : F37 l l = some true := by
 unfold F37
 rw [D5 l 0 λ j x hj => ?_]
 ·simp [andThen]
 ·have hjl := (aa.1 hj).1
  unfold Akk
  rw [aG, C_ (by omega), Bm hj]
  simp
theorem Avo (l : List Int) (h : l.length <= 9223372036854775807) : F38 l l = some true := by
 unfold F38
 rw [D5 l 0 λ j x hj => ?_]
 ·simp [andThen]
 ·have hjl := (aa.1 hj).1
  unfold Akj
  rw [aG, C_ (by omega), Bm hj]
  simp
theorem Ma {p : Ab} (h : A1d p) : F19 p p = some true := by
 have h1 := h.c
 have h2 := h.s
 have h3 := h.l
 have h4 := h.k
 refine cL ?_
 unfold F19
 rw [Arj _ (by omega), Avo _ (by omega)]
 have e : (Az [((!true), false)] (some true) default : Option Bool) = some true := rfl
 simp only [ab]
 rw [e]
 simp only [ab]
 refine c3 (λ hc => by simp [A2z] at hc) (λ _ => ?_)
 refine Ok.andThen (A := λ _ => True) (B := λ _ => False) ?_ ?_ (λ _ h => h.elim)
 ·refine c7 (λ s => 0 <= s /\ s <= (p.Ac.length : Int)) (λ s => ((p.Ac.length : Int) - s).toNat) _ _ (by omega) (by omega) ?_
  rintro i ⟨h5, h6⟩
  unfold Ak6 A2y
  refine c3 (λ hq => ?_) (λ _ => cJ trivial)
  simp only [da] at hq
  refine (c8 h5 hq).bind λ u hu => ?_
  refine Ok.bind (P := λ v => v = u) ((c8 h5 hq).mono λ v hv => by rw [hu] at hv; cases hv; rfl) λ v hv => ?_
  subst hv
  refine c3 (λ hc => by simp [A2x] at hc) (λ _ => c5 ?_)
  rw [Bb (by omega)]
  omega
 ·intro _ _
  refine Ok.andThen (A := λ _ => True) (B := λ _ => False) ?_ (λ _ _ => c4 rfl) (λ _ h => h.elim)
  refine c7 (λ s => 0 <= s /\ s <= (p.Ao.length : Int)) (λ s => ((p.Ao.length : Int) - s).toNat) _ _ (by omega) (by omega) ?_
  rintro i ⟨h5, h6⟩
  unfold Ak5 A2w
  refine c3 (λ hq => ?_) (λ _ => cJ trivial)
  simp only [da] at hq
  refine (c8 h5 hq).bind λ u hu => ?_
  refine Ok.bind (P := λ v => v = u) ((c8 h5 hq).mono λ v hv => by rw [hu] at hv; cases hv; rfl) λ v hv => ?_
  subst hv
  refine c3 (λ hc => by simp [Awt] at hc) (λ _ => c5 ?_)
  rw [Bb (by omega)]
  omega
def W7 (like x : Ah) : Ah := ⟨x.State, x.Since, like.Ar, like.Phase⟩
def Eo (like : Ah) (idx : List Int) (ss : List Ah) : List Ah := idx.foldl (λ s i => s.set i.toNat (W7 like (s.getD i.toNat default))) ss
theorem G3 (like : Ah) : ∀ (idx : List Int) (ss : List Ah), (Eo like idx ss).length = ss.length
 | [], _ => rfl
 | i :: idx, ss => by
  show (Eo like idx _).length = _
  rw [G3 like idx, bx]
theorem Aav {like : Ah} {idx : List Int} {j : Nat} {i : Int} (h : idx[j]? = some i) (ss : List Ah) : Eo like (idx.take (j + 1)) ss = (Eo like (idx.take j) ss).set i.toNat (W7 like ((Eo like (idx.take j) ss).getD i.toNat default)) := by
 unfold Eo
 rw [Bi h, aM]; rfl
theorem Afz {p : Ab} {idx : List Int} {like : Ah} (h : ∀ i, i ∈ idx -> 0 <= i /\ i < p.Ac.length) : Mz p idx like = some (Eo like idx p.Ac) := by
 refine cL ?_
 unfold Mz
 refine Ok.andThen (A := λ s => s = Eo like idx p.Ac) (B := λ (_ : Unit) => False) ?_ (λ s hs => c4 hs) (λ _ h => h.elim)
 refine c6 (I := λ j s => s = Eo like (idx.take j) p.Ac) rfl (λ j x s hx hs => ?_) λ s hs => ?_
 ·have hi := h x (ae hx)
  have hl : s.length = p.Ac.length := by rw [hs, G3]
  unfold U4
  refine (c8 hi.1 (by omega)).bind λ u hu => (cI hi.1 (by omega)).bind λ v hv => ?_
  have hvg : v[x.toNat]? = some (⟨u.State, u.Since, like.Ar, u.Phase⟩ : Ah) := by rw [hv, bt (by omega)]
  refine Ok.bind (P := λ w => w = (⟨u.State, u.Since, like.Ar, u.Phase⟩ : Ah)) ((c8 hi.1 (by rw [hv]; simpa using by omega)).mono λ w hw => by rw [hvg] at hw; cases hw; rfl) λ w hw => ?_
  refine (cI hi.1 (by rw [hv]; simpa using by omega)).bind λ z hz => c5 ?_
  rw [Aav hx, ← hs, hz, hv, hw, List.set_set]
  have : s.getD x.toNat default = u := by simp [List.getD, hu]
  rw [this]; rfl
 ·rw [ax] at hs; exact hs
def El (b : Aa) (p : Ab) : List Ah := (Bj b p).foldl (λ s x => match x.Ac with | [] => s | i :: _ => Eo (p.Ac.getD i.toNat default) x.Ac s) p.Ac
theorem O6 {b : Aa} {p : Ab} {x : Af} (h : x ∈ Bj b p) : ∀ i, i ∈ x.Ac -> 0 <= i /\ i < b.Ac.length := by
 unfold Bj at h
 obtain ⟨f, _, rfl⟩ := al.1 (an.1 h).1
 intro i hi
 obtain ⟨k, hk, rfl⟩ := al.1 hi
 have := aK.1 (an.1 hk).1
 omega
theorem O5 (b : Aa) (p : Ab) : (Bj b p).length <= b.Aq.toNat := by
 have := bk Ih ((List.range b.Aq.toNat).map (isl b p))
 simpa [Bj] using this
def C4 (p : Ab) (s : List Ah) (x : Af) : List Ah := match x.Ac with
 | [] => s
 | i :: _ => Eo (p.Ac.getD i.toNat default) x.Ac s
theorem Ml (p : Ab) (s : List Ah) (x : Af) : (C4 p s x).length = s.length := by
 unfold C4; split
 ·rfl
 ·rw [G3]
theorem Kf (p : Ab) : ∀ (l : List Af) (s : List Ah), (l.foldl (C4 p) s).length = s.length
 | [], _ => rfl
 | x :: l, s => by show (l.foldl (C4 p) _).length = _; rw [Kf p l, Ml]
theorem H5 (b : Aa) (p : Ab) : (El b p).length = p.Ac.length := Kf p _ _
theorem Ab1 {b : Aa} (h : Aw b) {p : Ab} (hp : As b p) : F57 b p = some (⟨p.Ag, El b p, p.Ak, p.Ao⟩, 0) := by
 refine cL ?_
 unfold F57
 rw [Fa h hp, Gp h hp, Jh h hp]
 simp only [ab]
 refine c3 (λ hc => by simp at hc) (λ _ => ?_)
 refine Ok.andThen (A := λ s => s = El b p) (B := λ (_ : Unit) => False) ?_ (λ s hs => c4 (by rw [hs])) (λ _ h => h.elim)
 refine c6 (I := λ j s => s = ((Bj b p).take j).foldl (C4 p) p.Ac) rfl (λ j x s hx hs => ?_) λ s hs => ?_
 ·have hi := O6 (ae hx)
  have hl : s.length = p.Ac.length := by rw [hs, Kf]
  have hn := hp.nso
  have hnext : ((Bj b p).take (j + 1)).foldl (C4 p) p.Ac = C4 p s x := by rw [Bi hx, aM, ← hs]; rfl
  unfold Aj9 A2j
  cases hsrc : x.Ac with
  | nil =>
   refine c3 (λ hc => by simp at hc) (λ _ => c5 ?_)
   rw [hnext]; simp [C4, hsrc]
  | cons i l =>
   have hi0 := hi i (by rw [hsrc]; exact ag)
   refine c3 (λ _ => ?_) (λ hc => by simp at hc)
   have hg : getI (i :: l) 0 = some i := rfl
   obtain ⟨u, hu⟩ : ∃ u, p.Ac[i.toNat]? = some u := ⟨_, af (by omega)⟩
   have hg2 : getI p.Ac i = some u := by have := Bm hu; rwa [bC hi0.1] at this
   rw [hg]
   simp only [ab]
   rw [hg2]
   simp only [ab]
   rw [Afz (by
    intro k hk
    have := hi k (by rw [hsrc]; exact hk)
    dsimp only
    omega)]
   refine c5 ?_
   rw [hnext]
   have : p.Ac.getD i.toNat default = u := by simp [List.getD, hu]
   simp only [C4, hsrc, this]
 ·rw [ax] at hs; exact hs
structure Aom (y : Bk) : Prop where
 stop : 1 <= y.Stop /\ y.Stop <= 99
 start : y.Stop < y.Start /\ y.Start <= 100
 delay : 0 <= y.Delay /\ y.Delay <= 600
theorem A08 {s : Ai} (hs : Bw s) : Ok (F30 s) λ y => Aom y.1 /\ Bw y.2 := by
 unfold F30
 refine (D6 hs _ (by simp) (by simp)).bind λ u hu => (D6 hu.1 _ (by simp) (by simp)).bind λ v hv => (D6 hv.1 _ (by simp) (by simp)).bind λ w hw => c4 ⟨?_, hw.1⟩
 have g1 : u.1 = 60 \/ u.1 = 80 \/ u.1 = 100 := by simpa using hu.2
 have g2 : v.1 = 1 \/ v.1 = 30 \/ v.1 = 50 := by simpa using hv.2
 have g3 : w.1 = 0 \/ w.1 = 1 \/ w.1 = 3 := by simpa using hw.2
 exact ⟨by dsimp only; omega, by dsimp only; omega, by dsimp only; omega⟩
def A22 (t : Int) (x : A3) : Prop := (-1 <= x.High /\ x.High <= t) /\ -1 <= x.Low /\ x.Low <= t
structure App (b : Aa) (y : Bk) (p : A0) : Prop where
 st : As b p.Power
 fol : El b p.Power = p.Power.Ac
 time : 0 <= p.Time /\ p.Time <= 2147483648
 nro : p.A6.length = b.Aq.toNat
 ros : ∀ x, x ∈ p.A6 -> A22 p.Time x
def brk (l : List Al) (k n : Int) : Bool := l.any λ x => k == x.Kind && n == x.Number
theorem Gg {p : Ab} (h : p.Ao.length <= 1000) (k n : Int) : Hw p k n = some (brk p.Ao k n) := by
 unfold Hw Atb As2
 rw [Kl (λ x : Al => (k == x.Kind) && ((n == x.Number) && true)) (λ i y => rfl) p.Ao (by omega)]
 simp only [ab, Qn, brk, bD]
def Q1 (b : Aa) (i : Int) : Int := Qo (λ x : Aj => x.Kind == 2 && x.B == i) b.Ae
theorem Ari {b : Aa} (h : Aw b) (i : Int) : Akx b i = some (Q1 b i) := by
 have hb := h.brl
 unfold Akx uC
 refine cL ?_
 refine Ok.bind (P := λ y => y = (Q1 b i, i)) ?_ (λ y hy => c4 (by rw [hy]))
 have key := N5 (f := λ n (a : Aj) (z : Unit) => (bif (a.Kind == 2 && a.B == i) then some (.ret (cnt 0 n)) else some (.next ()) : Option (Ctl Unit Int))) (p := λ x : Aj => x.Kind == 2 && x.B == i) (λ _ _ => rfl) b.Ae 0 (by omega)
 have : ∀ (xs : List Aj) (k : Nat), foldI (Nv i) xs k () = match foldI (λ n (a : Aj) (z : Unit) => (bif (a.Kind == 2 && a.B == i) then some (.ret (cnt 0 n)) else some (.next ()) : Option (Ctl Unit Int))) xs k () with
   | some (.ret r) => some (.ret (r, i))
   | some (.next _) => some (.next ())
   | some (.brk _) => some (.brk ())
   | none => none := by
  intro xs
  induction xs with
  | nil => intro k; rfl
  | cons x xs ih =>
   intro k
   simp only [foldI, Nv, qY]
   cases hq : (x.Kind == 2 && x.B == i) with
   | true => rfl
   | false => simp only [cond_false]; exact ih (k + 1)
 rw [this, key]
 unfold Q1 Qo
 cases b.Ae.findIdx? (λ x : Aj => x.Kind == 2 && x.B == i) with
 | none => exact c4 rfl
 | some j => exact c4 rfl
theorem qC {b : Aa} (h : Aw b) {i : Int} (h0 : 0 <= i) (h1 : i < b.Ac.length) : ∃ (j : Nat) (x : Aj), Q1 b i = (j : Int) /\ b.Ae[j]? = some x /\ x.Kind = 2 /\ x.B = i /\ j < 24 := by
 have hone := h.one i.toNat (by omega)
 have hb := h.brl
 unfold Q1 Qo
 cases hf : b.Ae.findIdx? (λ x : Aj => x.Kind == 2 && x.B == i) with
 | none =>
  exfalso
  rw [cC] at hf
  have : brs b.Ae 2 i.toNat = [] := J7 λ x hx hk e => by
   have := hf x hx
   simp [hk] at this
   omega
  rw [this] at hone; simp at hone
 | some j =>
  rw [cD] at hf
  obtain ⟨hj, hp, _⟩ := hf
  simp only [ac, de] at hp
  exact ⟨j, b.Ae[j], rfl, af hj, hp.1, hp.2, by omega⟩
def ks (x : Al) : Int := x.Kind * 1000 + x.Number
def Co (x : Al) : Prop := (1 <= x.Kind /\ x.Kind <= 4) /\ 0 <= x.Number /\ x.Number <= 100
theorem Ca.small {b : Aa} (h : Aw b) {x : Al} (hx : Ca b x) : Co x := by
 have h1 := h.buses
 have h2 := h.brl
 have h3 := h.sol
 have h4 := h.col
 unfold Ca at hx
 unfold Co
 omega
theorem Ad7 {x y : Al} (hx : Co x) (hy : Co y) : Pn x y ↔ ks x < ks y := by
 unfold Pn ks
 unfold Co at hx hy
 omega
theorem A18 {x y : Al} (hx : Co x) (hy : Co y) (h : ks x = ks y) : x = y := by
 unfold ks at h
 unfold Co at hx hy
 cases x; cases y
 simp only [Al.mk.injEq]
 dsimp only at *
 omega
theorem Acf {x y : Al} (hx : Co x) (hy : Co y) : (decide (Rh x y < 0) = decide (ks x < ks y)) /\ ((Rh x y == 0) = (ks x == ks y)) := by
 unfold Co at hx hy
 unfold Rh ks
 by_cases hk : x.Kind = y.Kind
 ·have : (x.Kind != y.Kind) = false := by simp [hk]
  rw [this, cond_false, Bb (by omega)]
  constructor
  ·exact decide_eq_decide.2 (by omega)
  ·rw [bp, de, de]; omega
 ·have : (x.Kind != y.Kind) = true := by simp [hk]
  rw [this, cond_true, Bb (by omega)]
  constructor
  ·exact decide_eq_decide.2 (by omega)
  ·rw [bp, de, de]; omega
def Gy (l : List Al) : Prop := ∀ (j k : Nat) x y, j < k -> l[j]? = some x -> l[k]? = some y -> ks x < ks y
theorem He {b : Aa} (h : Aw b) {l : List Al} (hl : D7 b l) : Gy l := by
 have hs : ∀ x, x ∈ l -> Co x := λ x hx => (hl.mem x hx).small h
 intro j k
 induction k with
 | zero => intro x y hj; omega
 | succ k ih =>
  intro x y hj hx hy
  have hk := (aa.1 hy).1
  obtain ⟨z, hz⟩ : ∃ z, l[k]? = some z := ⟨_, af (by omega)⟩
  have h1 := (Ad7 (hs z (ae hz)) (hs y (ae hy))).1 (hl.asc k z y hz hy)
  by_cases e : j = k
  ·subst e
   rw [hx] at hz; cases hz; exact h1
  ·have := ih x z (by omega) hx hz
   omega
theorem A3y {n : Int} (h0 : 0 <= n) (h1 : n <= 1000000) : w64 (Hf .u64 (IntKind.wrap .u64 (w64 n)) 1) = n / 2 := by
 have e1 : w64 n = n := Bb (by omega)
 have e2 : IntKind.wrap .u64 n = n := by
  simp [IntKind.wrap, IntKind.signed, IntKind.bits]
  omega
 have e3 : Hf .u64 n 1 = n / 2 := by
  unfold Hf
  have : (2 : Int) ^ min 1 (IntKind.u64).bits = 2 := by decide
  rw [this]
  exact Int.fdiv_eq_ediv_of_nonneg _ (by omega)
 rw [e1, e2, e3, Bb (by omega)]
structure At (l : List Al) (x : Al) (n : Nat) : Prop where
 le : n <= l.length
 lo : ∀ (j : Nat) y, j < n -> l[j]? = some y -> ks y < ks x
 hi : ∀ (j : Nat) y, n <= j -> l[j]? = some y -> ks x <= ks y
theorem Nc {l : List Al} (hs : Gy l) (hsm : ∀ x, x ∈ l -> Co x) {x : Al} (hx : Co x) (hl : l.length <= 1000) :
  Ok (Ub l x) λ y => ∃ n : Nat, y.1 = (n : Int) /\ At l x n /\ (y.2 = true ↔ l[n]? = some x) := by
 unfold Ub
 refine Ok.andThen (A := λ s => ∃ n : Nat, s.1 = (n : Int) /\ At l x n) (B := λ (_ : Unit) => False) ?_ ?_ (λ _ h => h.elim)
 ·refine c7 (λ s => (0 <= s.1 /\ s.1 <= s.2 /\ s.2 <= (l.length : Int)) /\ (∀ (j : Nat) y, (j : Int) < s.1 -> l[j]? = some y -> ks y < ks x) /\ ∀ (j : Nat) y, s.2 <= (j : Int) -> l[j]? = some y -> ks x <= ks y) (λ s => (s.2 - s.1).toNat) _ _ ?_ ?_ ?_
  ·refine ⟨by dsimp only; omega, λ j y hj => by dsimp only at hj; omega, λ j y hj hy => ?_⟩
   have := (aa.1 hy).1
   dsimp only at hj; omega
  ·dsimp only; omega
  ·rintro ⟨i, j⟩ ⟨⟨h1, h2, h3⟩, h4, h5⟩
   dsimp only at h1 h2 h3 h4 h5
   unfold Ua
   dsimp only
   refine c3 (λ hq => ?_) (λ hq => ?_)
   ·simp only [da] at hq
    rw [A3y (by omega) (by omega)]
    refine (c8 (by omega) (by omega)).bind λ y hy => ?_
    have hym := hsm y (ae hy)
    rw [(Acf hym hx).1]
    refine c3 (λ hc => ?_) (λ hc => ?_)
    ·simp only [da] at hc
     rw [Bb (by omega)]
     refine c5 ⟨⟨by dsimp only; omega, λ k z hk hz => ?_, h5⟩, by dsimp only; omega⟩
     dsimp only at hk
     by_cases e : k = ((i + j) / 2).toNat
     ·subst e; rw [hy] at hz; cases hz; exact hc
     ·have := hs k _ z y (by omega) hz hy
      omega
    ·simp only [db] at hc
     refine c5 ⟨⟨by dsimp only; omega, h4, λ k z hk hz => ?_⟩, by dsimp only; omega⟩
     dsimp only at hk
     by_cases e : k = ((i + j) / 2).toNat
     ·subst e; rw [hy] at hz; cases hz; omega
     ·have := hs _ k y z (by omega) hy hz
      omega
   ·simp only [db] at hq
    refine cJ ⟨i.toNat, by dsimp only; omega, by omega, λ k y hk hy => h4 k y (by omega) hy, λ k y hk hy => h5 k y (by omega) hy⟩
 ·rintro ⟨i, j⟩ ⟨n, hn, hat⟩
  dsimp only at hn
  subst hn
  dsimp only
  by_cases hlt : n < l.length
  ·obtain ⟨y, hy⟩ : ∃ y, l[n]? = some y := ⟨_, af hlt⟩
   have hd : decide ((n : Int) < (l.length : Int)) = true := by simp; omega
   rw [hd, Bm hy]
   refine Ok.bind (P := λ z => z = y) (cF (λ _ => c4 rfl) λ hn => (hn ⟨rfl, trivial⟩).elim) λ z hz => c4 ⟨n, rfl, hat, ?_⟩
   subst hz
   have hym := hsm z (ae hy)
   show (true && (Rh z x == 0)) = true ↔ _
   rw [aZ, (Acf hym hx).2, de, hy]
   constructor
   ·intro e; rw [A18 hym hx e]
   ·intro e; cases e; rfl
  ·have hd : decide ((n : Int) < (l.length : Int)) = false := by simp; omega
   rw [hd]
   refine Ok.bind (P := λ _ => True) (cF (λ hg => absurd hg.1 (by simp)) λ _ => trivial) λ z _ => c4 ⟨n, rfl, hat, ?_⟩
   rw [bP (by omega)]
   simp
theorem At.uniq {l : List Al} {x : Al} {n m : Nat} (h : At l x n) (k : At l x m) : n = m := by
 rcases bz n m with e | e | e
 ·obtain ⟨y, hy⟩ : ∃ y, l[n]? = some y := ⟨_, af (by have := k.le; omega)⟩
  have := h.hi n y (ao _) hy
  have := k.lo n y e hy
  omega
 ·exact e
 ·obtain ⟨y, hy⟩ : ∃ y, l[m]? = some y := ⟨_, af (by have := h.le; omega)⟩
  have := k.hi m y (ao _) hy
  have := h.lo m y e hy
  omega
def D4 (l : List Al) (n : Nat) (x : Al) : List Al := l.take n ++ (x :: l.drop n)
theorem Avp {l : List Al} {n : Nat} (hn : n <= l.length) (hl : l.length <= 1000) (x : Al) : Pq l (n : Int) [x] = some (D4 l n x) := by
 refine cL ?_
 unfold Pq
 refine (Ok.bndI (by omega) (by omega) (by omega)).bind λ _ _ => ?_
 refine c3 (λ hc => by simp at hc) (λ _ => c3 (λ hc => ?_) (λ _ => ?_))
 ·simp only [de] at hc
  have e : n = l.length := by omega
  refine (c9 (by simp; omega)).bind λ y hy => c4 ?_
  rw [hy, D4, e]; simp
 ·refine (Ok.insI (by simp; omega)).mono λ y hy => ?_
  rw [hy, aE]; rfl
theorem Awj {l : List Al} {n : Nat} (hn : n <= l.length) (x : Al) : T_ (D4 l n x) (n : Int) ((n : Int) + 1) = some l := by
 have hlen : (D4 l n x).length = l.length + 1 := by simp [D4]; omega
 refine cL ?_
 unfold T_
 have e1 : ((n : Int) + 1).toNat = n + 1 := by omega
 have hdrop : (D4 l n x).drop (n + 1) = l.drop n := by
  unfold D4
  rw [List.drop_append, List.drop_of_length_le (by simp; omega)]
  have : n + 1 - (l.take n).length = 1 := by simp; omega
  rw [this]; simp
 have htake : (D4 l n x).take n = l.take n := by
  unfold D4
  rw [ch (by simp; omega), List.take_take, Nat.min_self]
 refine (Ok.bnd3I (by omega) (by omega) (by omega) (by omega)).bind λ _ _ => c3 (λ hc => ?_) (λ _ => ?_)
 ·simp only [de] at hc; omega
 refine (Ok.bndI (by omega) (by omega) (by omega)).bind λ _ _ => (Ok.bndI (by omega) (by omega) (by omega)).bind λ _ _ => ?_
 simp only [aE, e1, hdrop, Nat.sub_zero]
 have hpl : ((l.drop n).take ((D4 l n x).length - (n + 1))).length = l.length - n := by simp [hlen]
 have hpe : (l.drop n).take ((D4 l n x).length - (n + 1)) = l.drop n := ck (by simp [hlen])
 rw [hpe]
 have hdl : (l.drop n).length = l.length - n := by simp
 refine (Ok.appPI (by rw [hlen, hdl]; omega)).bind λ y hy => ?_
 have hyl : y.length = l.length + 1 := by rw [hy]; simp [hlen]; omega
 refine (Ok.bndI (by omega) (by rw [hlen, hdl]; omega) (by rw [hlen, hyl]; omega)).bind λ _ _ => c4 ?_
 have e2 : n + (l.drop n).length = l.length := by rw [hdl]; omega
 rw [e2]
 unfold Gn
 simp only [aG]
 rw [ch (by simp; omega), List.take_take, Nat.min_self, hy, htake, ← bj, ch (by simp), cg, ax]
theorem Ql {l : List Al} {n : Nat} (hn : n <= l.length) {x : Al} {j : Nat} {y : Al} (h : (D4 l n x)[j]? = some y) : (j < n /\ l[j]? = some y) \/ (j = n /\ y = x) \/ (n < j /\ l[j - 1]? = some y) := by
 unfold D4 at h
 have ht : (l.take n).length = n := by simp; omega
 rw [bM] at h
 split at h
 ·rename_i h1
  rw [ht] at h1
  rw [am, if_pos h1] at h
  exact .inl ⟨h1, h⟩
 ·rename_i h1
  rw [ht] at h1 h
  by_cases e : j = n
  ·subst e
   simp at h
   exact .inr (.inl ⟨rfl, h.symm⟩)
  ·obtain ⟨k, hk⟩ : ∃ k, j - n = k + 1 := ⟨j - n - 1, by omega⟩
   rw [hk, cj, aq] at h
   refine .inr (.inr ⟨by omega, ?_⟩)
   rw [← h]; congr 1; omega
theorem Az0 {l : List Al} {n : Nat} {x y : Al} (h : y ∈ D4 l n x) : y = x \/ y ∈ l := by
 unfold D4 at h
 rcases ar.1 h with h | h
 ·exact .inr (aP h)
 ·rcases ah.1 h with h | h
  ·exact .inl h
  ·exact .inr (bV h)
theorem An7 {b : Aa} (h : Aw b) {l : List Al} (hl : D7 b l) {x : Al} (hx : Ca b x) {n : Nat} (hat : At l x n) (hnot : l[n]? ≠ some x) (hlen : l.length < 32) : D7 b (D4 l n x) := by
 have hs := He h hl
 have hsm : ∀ y, y ∈ l -> Co y := λ y hy => (hl.mem y hy).small h
 have hxs := hx.small h
 refine ⟨by simp [D4]; omega, λ y hy => ?_, λ j y z hy hz => ?_⟩
 ·rcases Az0 hy with rfl | hy
  ·exact hx
  ·exact hl.mem y hy
 ·rcases Ql hat.le hy with ⟨a1, a2⟩ | ⟨a1, a2⟩ | ⟨a1, a2⟩ <;> rcases Ql hat.le hz with ⟨b1, b2⟩ | ⟨b1, b2⟩ | ⟨b1, b2⟩
  ·exact hl.asc j y z a2 b2
  ·subst b2
   exact (Ad7 (hsm y (ae a2)) hxs).2 (hat.lo j y a1 a2)
  ·omega
  ·omega
  ·omega
  ·subst a2
   have e : j + 1 - 1 = n := by omega
   rw [e] at b2
   have hzm := hsm z (ae b2)
   refine (Ad7 hxs hzm).2 ?_
   have h1 := hat.hi n z (ao _) b2
   rcases Int.lt_or_eq_of_le h1 with h1 | h1
   ·exact h1
   ·exact absurd (by rw [b2, A18 hxs hzm h1]) hnot
  ·omega
  ·omega
  ·have e : j + 1 - 1 = j - 1 + 1 := by omega
   rw [e] at b2
   exact hl.asc (j - 1) y z a2 b2
theorem At.ins {l : List Al} {x : Al} {n : Nat} (hat : At l x n) : At (D4 l n x) x n := by
 refine ⟨by have := hat.le; simp [D4]; omega, λ j y hj hy => ?_, λ j y hj hy => ?_⟩
 ·rcases Ql hat.le hy with ⟨_, a2⟩ | ⟨a1, _⟩ | ⟨a1, _⟩
  ·exact hat.lo j y hj a2
  ·omega
  ·omega
 ·rcases Ql hat.le hy with ⟨a1, _⟩ | ⟨_, a2⟩ | ⟨a1, a2⟩
  ·omega
  ·subst a2; exact bv _
  ·exact hat.hi (j - 1) y (by omega) a2
theorem A3w {l : List Al} {n : Nat} (hn : n <= l.length) (x : Al) : (D4 l n x)[n]? = some x := by
 unfold D4
 rw [aB (by simp; omega)]
 have : n - (l.take n).length = 0 := by simp; omega
 rw [this]; rfl
def Kh (ss : List Ah) (x : Al) (st : Int) : List Ah := if x.Kind = 1 then ss.set x.Number.toNat ⟨st, (ss.getD x.Number.toNat default).Since, (ss.getD x.Number.toNat default).Ar, (ss.getD x.Number.toNat default).Phase⟩ else ss
theorem Tk (ss : List Ah) (x : Al) (st : Int) : (Kh ss x st).length = ss.length := by unfold Kh; split <;> simp
theorem Ahm {ss : List Ah} (h : ∀ x, x ∈ ss -> Df x) {x : Al} (hx : x.Kind = 1 -> 0 <= x.Number /\ x.Number < ss.length) {st : Int} (hst : 0 <= st /\ st <= 3) : ∀ y, y ∈ Kh ss x st -> Df y := by
 unfold Kh
 split
 ·rename_i hk
  have hn := hx hk
  obtain ⟨u, hu⟩ : ∃ u, ss[x.Number.toNat]? = some u := ⟨_, af (by omega)⟩
  have hd : ss.getD x.Number.toNat default = u := by simp [List.getD, hu]
  intro y hy
  rcases ce hy with hy | hy
  ·exact h y hy
  ·subst hy
   rw [hd]
   have := h u (ae hu)
   exact ⟨hst, this.2⟩
 ·exact h
theorem A32 {b : Aa} (h : Aw b) {p : Ab} (hp : As b p) {x : Al} (hx : Ca b x) (t : Int) {n : Nat} (hat : At p.Ao x n) (hnot : p.Ao[n]? ≠ some x) (hlen : p.Ao.length < 32) :
  Hv ⟨b, p, t⟩ x true = some (0, ⟨b, ⟨p.Ag, Kh p.Ac x 3, p.Ak, D4 p.Ao n x⟩, t⟩) := by
 have hs := He h hp.brk
 have hsm : ∀ y, y ∈ p.Ao -> Co y := λ y hy => (hp.brk.mem y hy).small h
 refine cL ?_
 unfold Hv
 refine (Nc hs hsm (hx.small h) (by omega)).bind λ y hy => ?_
 obtain ⟨m, e1, hat2, hf⟩ := hy
 have e2 := hat.uniq hat2
 subst e2
 have hf2 : y.2 = false := by
  cases hb : y.2 with
  | false => rfl
  | true => exact absurd (hf.1 hb) hnot
 refine c3 (λ hc => by rw [hf2] at hc; simp at hc) (λ _ => c3 (λ hc => ?_) (λ _ => ?_))
 ·simp [Q0] at hc; omega
 refine Ok.andThen (A := λ z => z = D4 p.Ao n x) (B := λ (_ : Unit) => False) ?_ ?_ (λ _ h => h.elim)
 ·unfold Nx
  rw [e1, Avp hat.le (by omega)]
  exact cK rfl
 ·rintro z rfl
  unfold Kh
  refine c3 (λ hk => ?_) (λ hk => ?_)
  ·simp only [de] at hk
   have hn : 0 <= x.Number /\ x.Number < p.Ac.length := by
    have := hp.nso
    unfold Ca at hx
    omega
   rw [if_pos hk]
   refine (c8 hn.1 hn.2).bind λ u hu => (cI hn.1 hn.2).bind λ v hv => ?_
   have hd : p.Ac.getD x.Number.toNat default = u := by simp [List.getD, hu]
   have hvg : v[x.Number.toNat]? = some (⟨0, u.Since, u.Ar, u.Phase⟩ : Ah) := by rw [hv, bt (by omega)]
   simp only [cond_true]
   refine Ok.bind (P := λ w => w = (⟨0, u.Since, u.Ar, u.Phase⟩ : Ah)) ((c8 hn.1 (by rw [hv]; simpa using hn.2)).mono λ w hw => by rw [hvg] at hw; cases hw; rfl) λ w hw => ?_
   subst hw
   refine (cI hn.1 (by rw [hv]; simpa using hn.2)).bind λ z hz => c4 ?_
   rw [hz, hv, List.set_set, hd]
  ·simp only [dg, ne_eq] at hk
   rw [if_neg hk]
   exact c4 rfl
theorem A3p {b : Aa} (h : Aw b) {p : Ab} (hbl : D7 b p.Ao) {q : Ab} {x : Al} (hx : Ca b x) (t : Int) {n : Nat} (hat : At p.Ao x n) (hnot : p.Ao[n]? ≠ some x) (hlen : p.Ao.length < 32)
  (hq : q.Ao = D4 p.Ao n x) (hqs : q.Ac.length = b.Ac.length) : Hv ⟨b, q, t⟩ x false = some (0, ⟨b, ⟨q.Ag, Kh q.Ac x 0, q.Ak, p.Ao⟩, t⟩) := by
 have hbl2 : D7 b q.Ao := by rw [hq]; exact An7 h hbl hx hat hnot hlen
 have hs := He h hbl2
 have hsm : ∀ y, y ∈ q.Ao -> Co y := λ y hy => (hbl2.mem y hy).small h
 refine cL ?_
 unfold Hv
 refine (Nc hs hsm (hx.small h) (by have := hbl2.len; omega)).bind λ y hy => ?_
 obtain ⟨m, e1, hat2, hf⟩ := hy
 rw [hq] at hat2 hf
 have e2 := hat.ins.uniq hat2
 subst e2
 have hf2 : y.2 = true := hf.2 (A3w hat.le x)
 refine c3 (λ hc => by rw [hf2] at hc; simp at hc) (λ _ => c3 (λ hc => ?_) (λ _ => ?_))
 ·simp [Q0] at hc
 refine Ok.andThen (A := λ z => z = p.Ao) (B := λ (_ : Unit) => False) ?_ ?_ (λ _ h => h.elim)
 ·unfold Nx
  have hle := hat.le
  rw [e1, Bb (by omega)]
  simp only [cond_false, hq]
  rw [Awj hat.le]
  exact cK rfl
 ·rintro z rfl
  unfold Kh
  refine c3 (λ hk => ?_) (λ hk => ?_)
  ·simp only [de] at hk
   have hn : 0 <= x.Number /\ x.Number < q.Ac.length := by
    unfold Ca at hx
    omega
   rw [if_pos hk]
   refine (c8 hn.1 hn.2).bind λ u hu => (cI hn.1 hn.2).bind λ v hv => ?_
   have hd : q.Ac.getD x.Number.toNat default = u := by simp [List.getD, hu]
   simp only [cond_false]
   exact c4 (by rw [hv, hd])
  ·simp only [dg, ne_eq] at hk
   rw [if_neg hk]
   exact c4 rfl
def A30 (p : Ab) (x : Al) (n : Nat) : Ab := ⟨p.Ag, Kh p.Ac x 3, p.Ak, D4 p.Ao n x⟩
theorem Aq1 {b : Aa} (h : Aw b) {p : Ab} (hp : As b p) {x : Al} (hx : Ca b x) {n : Nat} (hat : At p.Ao x n) (hnot : p.Ao[n]? ≠ some x) (hlen : p.Ao.length < 32) : As b (A30 p x n) where
 ncl := hp.ncl
 nso := by show (Kh p.Ac x 3).length = _; rw [Tk]; exact hp.nso
 nli := hp.nli
 run := Ahm hp.run (λ hk => by have := hp.nso; unfold Ca at hx; omega) (by omega)
 lim := hp.lim
 one := hp.one
 brk := An7 h hp.brk hx hat hnot hlen
theorem Mc (b : Aa) (k n : Int) : J8 b k n = true ↔ Ca b ⟨k, n⟩ := by
 unfold J8 Ca
 dsimp only
 by_cases h1 : k = 1
 ·subst h1; simp
 rw [dg.2 h1, cond_false]
 by_cases h2 : k = 2
 ·subst h2; simp
 rw [dg.2 h2, cond_false]
 by_cases h3 : k = 3
 ·subst h3; simp
 rw [dg.2 h3, cond_false]
 by_cases h4 : k = 4
 ·subst h4; simp
 rw [dg.2 h4, cond_false]
 simp only [ac, da]
 omega
theorem A_l {b : Aa} (h : Aw b) {l : List Al} (hl : D7 b l) {x : Al} (hx : Ca b x) : ∃ n, At l x n := by
 have hs := He h hl
 obtain ⟨y, _, n, _, hat, _⟩ := Nc hs (λ y hy => (hl.mem y hy).small h) (hx.small h) (by have := hl.len; omega)
 exact ⟨n, hat⟩
theorem yQ {b : Aa} (h : Aw b) {p : Ab} (hp : As b p) : F65 p = some p := by
 have hl := hp.lens h
 have h1 := hl.c
 have h2 := hl.s
 have h3 := hl.l
 have h4 := hl.k
 unfold F65
 rw [Mr (by omega), Mr (by omega), Mr (by omega), Mr (by omega)]
 rfl
theorem cQ {α : Type} {l : List (Bool × Bool)} {x : Option α} {d : α} {P : α -> Prop} (hx : Du l -> Ok x λ _ => True) (hr : ∀ y, P y) : Ok (Az l x d) P :=
 cF (λ h => (hx h).mono λ y _ => hr y) λ _ => hr d
theorem cV {α : Type} {x : Option α} {v : α} (h : x = some v) : Ok x λ _ => True := ⟨v, h, trivial⟩
theorem A29 {x like : Ah} (hx : Df x) (hl : Df like) : Df (W7 like x) := ⟨hx.1, hx.2.1, hl.2.2.1, hl.2.2.2⟩
theorem Ln {ss : List Ah} (h : ∀ x, x ∈ ss -> Df x) {n : Nat} {y : Ah} (hy : Df y) : ∀ x, x ∈ ss.set n y -> Df x := λ x hx => by
 rcases ce hx with hx | hx
 ·exact h x hx
 ·exact hx ▸ hy
theorem Ahc {ss : List Ah} (h : ∀ x, x ∈ ss -> Df x) {n : Nat} (hn : n < ss.length) : Df (ss.getD n default) := by
 have : ss.getD n default = ss[n] := by simp [List.getD, List.getElem?_eq_getElem hn]
 rw [this]; exact h _ (List.getElem_mem hn)
theorem P6 {like : Ah} (hl : Df like) : ∀ (idx : List Int) (ss : List Ah), (∀ i, i ∈ idx -> 0 <= i /\ i < ss.length) -> (∀ x, x ∈ ss -> Df x) -> ∀ x, x ∈ Eo like idx ss -> Df x
 | [], _, _, h => h
 | i :: idx, ss, hi, h => by
  have h0 := hi i ag
  refine P6 hl idx _ (λ j hj => ?_) (Ln h (A29 (Ahc h (by omega)) hl))
  have := hi j (ai _ hj)
  simpa using this
theorem Ahf {b : Aa} {p : Ab} (hp : As b p) : ∀ (l : List Af) (s : List Ah), (∀ x, x ∈ l -> ∀ i, i ∈ x.Ac -> 0 <= i /\ i < b.Ac.length) -> s.length = p.Ac.length -> (∀ x, x ∈ s -> Df x) -> ∀ x, x ∈ l.foldl (C4 p) s -> Df x
 | [], _, _, _, h => h
 | y :: l, s, hi, hs, h => by
  refine Ahf hp l _ (λ x hx => hi x (ai _ hx)) (by rw [Ml, hs]) ?_
  have h0 := hi y ag
  have hn := hp.nso
  unfold C4
  split
  ·exact h
  ·rename_i i r e
   rw [e] at h0
   have h1 := h0 i ag
   rw [e]
   exact P6 (Ahc hp.run (by omega)) _ _ (λ j hj => by have := h0 j hj; omega) h
theorem Qv {b : Aa} {p : Ab} (hp : As b p) : ∀ x, x ∈ El b p -> Df x :=
 Ahf hp _ _ (λ _ hx => O6 hx) rfl hp.run
theorem I9 {b : Aa} {p : Ab} (hp : As b p) {ss : List Ah} (hl : ss.length = p.Ac.length) (hr : ∀ x, x ∈ ss -> Df x) : As b ⟨p.Ag, ss, p.Ak, p.Ao⟩ where
 ncl := hp.ncl
 nso := hl.trans hp.nso
 nli := hp.nli
 run := hr
 lim := hp.lim
 one := hp.one
 brk := hp.brk
theorem Aqe {b : Aa} {p : Ab} (hp : As b p) (j : Nat) : As b ⟨p.Ag.set j false, p.Ac, p.Ak, p.Ao⟩ where
 ncl := by simpa using hp.ncl
 nso := hp.nso
 nli := hp.nli
 run := hp.run
 lim := hp.lim
 one i hi := by
  refine ay (Ahk (by simp) (λ k hk => ?_) i) (hp.one i hi)
  rw [au] at hk
  split at hk
  ·split at hk <;> cases hk
  ·exact hk
 brk := hp.brk
theorem Avu {l : List Aj} : ∀ {c : List Bool} {j : Nat} {x : Aj}, l[j]? = some x -> ∀ i : Nat, (Cm l (c.set j true) i).length <= (Cm l c i).length + (if x.Kind = 3 /\ x.B = (i : Int) then 1 else 0) := by
 induction l with
 | nil => intro c j x h; simp at h
 | cons y l ih =>
  intro c j x h i
  cases c with
  | nil => simp [Cm]
  | cons v c =>
   cases j with
   | zero =>
    simp only [List.getElem?_cons_zero, ak] at h
    subst h
    simp only [List.set_cons_zero, Cm, bo, bf]
    by_cases hk : y.Kind = 3 /\ y.B = (i : Int)
    ·rw [if_pos hk]
     simp only [hk.1, hk.2, beq_self_eq_true, aZ, bD, if_true]
     split <;> simp
    ·rw [if_neg hk]
     have : (y.Kind == 3 && y.B == (i : Int)) = false := by
      rw [cw]; intro e
      simp only [ac, de] at e
      exact hk e
     simp [this]
   | succ j =>
    simp only [cj] at h
    have := ih (c := c) h i
    simp only [List.set_cons_succ, Cm, bo, bf] at this ⊢
    split <;> simp at this ⊢ <;> omega
theorem Avv {b : Aa} {p : Ab} {i : Nat} (h : Dc b p 3 (i : Int) = none) : Cm b.Ae p.Ag i = [] := by
 unfold Dc at h
 rw [Option.map_eq_none_iff, List.find?_eq_none] at h
 unfold Cm
 rw [List.filter_eq_nil_iff]
 exact h
theorem A8i {b : Aa} {p : Ab} (hp : As b p) {j : Nat} {x : Aj} (hx : b.Ae[j]? = some x) (hf : x.Kind = 3 -> Dc b p 3 x.B = none) : As b ⟨p.Ag.set j true, p.Ac, p.Ak, p.Ao⟩ where
 ncl := by simpa using hp.ncl
 nso := hp.nso
 nli := hp.nli
 run := hp.run
 lim := hp.lim
 one i hi := by
  have h1 := Avu (c := p.Ag) hx i
  have h2 := hp.one i hi
  dsimp only
  split at h1
  ·rename_i hk
   have h3 := hf hk.1
   rw [hk.2] at h3
   rw [Avv h3] at h1
   simpa using h1
  ·omega
 brk := hp.brk
theorem A3m {b : Aa} (h : Aw b) {p : Ab} (hp : As b p) (i : Int) : Ok (Ak9 b p i) λ y => y.2 ≠ 0 \/ As b y.1 := by
 have hbl : p.Ao.length <= 1000 := by have := hp.brk.len; omega
 have hn := hp.ncl
 unfold Ak9
 rw [Fa h hp, Gp h hp]
 simp only [ab]
 refine c3 (λ hc => by simp at hc) (λ _ => c3 (λ _ => c4 (.inl (by simp))) (λ hr => ?_))
 simp only [Aww, bq, db] at hr
 refine (c8 (by omega) (by omega)).bind λ v _ => Ok.bind (P := λ _ => True) (cQ (λ _ => cV (Gg hbl _ _)) λ _ => trivial) λ _ _ => ?_
 refine c3 (λ _ => c4 (.inl (by simp))) (λ _ => ?_)
 exact (c8 (by omega) (by omega)).bind λ _ _ => (cI (by omega) (by omega)).bind λ z hz => c4 (.inr (by rw [hz]; exact Aqe hp _))
theorem A12 {b : Aa} (h : Aw b) {p : Ab} (hp : As b p) (n : Int) : Ok (G9 b p n) λ y => ∀ i, i ∈ y.1.Ac -> 0 <= i /\ i < p.Ac.length := by
 have hn := hp.nso
 unfold G9
 rw [Jh h hp]
 simp only [ab]
 refine Ok.andThen (A := λ _ => True) (B := λ y => ∀ i, i ∈ y.1.Ac -> 0 <= i /\ i < p.Ac.length) ?_ (λ _ _ => c4 (λ i hi => by cases hi)) (λ v hv => c4 hv)
 refine c6 (I := λ _ _ => True) trivial (λ j x s hx _ => ?_) λ s _ => trivial
 have hmem := ae hx
 have hbl : x.Aq.length <= 9223372036854775807 := by
  unfold Bj at hmem
  obtain ⟨f, _, rfl⟩ := al.1 (an.1 hmem).1
  have := Dk (λ i => (groups b p).getD i 0 == (f : Int)) b.Aq.toNat
  have := h.buses
  simp only [isl, Dr]
  omega
 unfold L3
 rw [Fe _ _ hbl]
 simp only [ab]
 refine c3 (λ _ => Ok.ret λ i hi => ?_) (λ _ => c5 trivial)
 have := O6 hmem i hi
 omega
theorem Bbf {b : Aa} (h : Aw b) {p : Ab} (hp : As b p) (n : Int) : Ok (G9 b p n) λ y => y.1.Aq.length <= 9223372036854775807 := by
 unfold G9
 rw [Jh h hp]
 simp only [ab]
 refine Ok.andThen (A := λ _ => True) (B := λ y => y.1.Aq.length <= 9223372036854775807) ?_ (λ _ _ => c4 (by simp)) (λ v hv => c4 hv)
 refine c6 (I := λ _ _ => True) trivial (λ j x s hx _ => ?_) λ s _ => trivial
 have hmem := ae hx
 have hbl : x.Aq.length <= 9223372036854775807 := by
  unfold Bj at hmem
  obtain ⟨f, _, rfl⟩ := al.1 (an.1 hmem).1
  have := Dk (λ i => (groups b p).getD i 0 == (f : Int)) b.Aq.toNat
  have := h.buses
  simp only [isl, Dr]
  omega
 unfold L3
 rw [Fe _ _ hbl]
 simp only [ab]
 exact c3 (λ _ => Ok.ret hbl) (λ _ => c5 trivial)
theorem S_ {b : Aa} (h : Aw b) {p : Ab} (hp : As b p) (n : Int) : Ok (Y0 b p n) λ y => y.2 = true -> 0 <= y.1 /\ y.1 < p.Ac.length := by
 unfold Y0
 refine (A12 h hp n).bind λ y hy => ?_
 refine c3 (λ _ => c4 (λ e => by cases e)) (λ hc => ?_)
 simp only [dg, ne_eq] at hc
 exact (c8 (by omega) (by omega)).bind λ z hz => c4 λ _ => hy z (ae hz)
theorem cN {α : Type} {l : List α} {i : Int} (h0 : 0 <= i) (h1 : i < l.length) : Ok (getI l i) λ _ => True := (c8 h0 h1).mono λ _ _ => trivial
theorem A3b {b : Aa} (h : Aw b) {p : Ab} (hp : As b p) {j : Nat} {x : Aj} (hx : b.Ae[j]? = some x) : Ok (Aky b p x) λ _ => True := by
 have hn := hp.nso
 have hb := h.br x (ae hx)
 unfold Oi at hb
 unfold Aky
 refine (S_ h hp _).bind λ y hy => ?_
 refine c3 (λ _ => c4 trivial) (λ h2 => ?_)
 simp only [Bool.not_eq_false'] at h2
 have hy := hy h2
 refine c3 (λ _ => ?_) (λ _ => c3 (λ hk => ?_) (λ _ => c4 trivial))
 ·refine (S_ h hp _).bind λ z hz => ?_
  refine Ok.bind (P := λ _ => True) (cQ (λ _ => cN hy.1 hy.2) λ _ => trivial) λ _ _ => ?_
  refine Ok.bind (P := λ _ => True) (cQ (λ hg => ?_) λ _ => trivial) λ _ _ => c4 trivial
  have := hz (by have := hg.1; simpa using this)
  exact cN this.1 this.2
 ·simp only [de] at hk
  exact (cN hy.1 hy.2).bind λ _ _ => (cN (by omega) (by omega)).bind λ _ _ => c4 trivial
theorem Avf {o : Option Int} : (Et o).2 = false -> o = none := by
 cases o with
 | none => intro _; rfl
 | some a => intro e; cases e
theorem Ay4 {b : Aa} (h : Aw b) {p : Ab} (hp : As b p) {j : Int} (h0 : 0 <= j) (h1 : j < b.Ae.length) : Ok (Akz b p j) λ y => y = true -> ∀ x, b.Ae[j.toNat]? = some x -> x.Kind = 3 -> Dc b p 3 x.B = none := by
 have hbl : p.Ao.length <= 1000 := by have := hp.brk.len; omega
 have hn := hp.nso
 have hc := hp.ncl
 unfold Akz
 refine (c8 h0 h1).bind λ x hx => (cN h0 (by omega)).bind λ _ _ => ?_
 have hb := h.br x (ae hx)
 unfold Oi at hb
 refine Ok.bind (P := λ _ => True) (cQ (λ _ => cV (Gg hbl _ _)) λ _ => trivial) λ _ _ => ?_
 refine Ok.bind (P := λ _ => True) (cQ (λ _ => cV (Gg hbl _ _)) λ _ => trivial) λ _ _ => ?_
 refine c3 (λ _ => c4 (λ e => by cases e)) (λ _ => ?_)
 refine c3 (λ hk => ?_) (λ hk1 => c3 (λ hk => ?_) (λ hk2 => ?_))
 ·simp only [de] at hk
  rw [Gg hbl]
  refine c4 λ _ y hy hy3 => ?_
  rw [hx] at hy; cases hy; omega
 ·simp only [de] at hk
  rw [Gg hbl]
  simp only [ab]
  refine Ok.bind (P := λ _ => True) (cQ (λ _ => cN (by omega) (by omega)) λ _ => trivial) λ _ _ => c4 λ _ y hy hy3 => ?_
  rw [hx] at hy; cases hy; omega
 ·unfold Alw
  rw [Fa h hp, Avw h hc, Gg hbl]
  simp only [ab, bne_self_eq_false, cond_false]
  refine c4 λ e y hy hy3 => ?_
  rw [hx] at hy; cases hy
  simp only [ac, ba] at e
  exact Avf e.2
theorem A4u {b : Aa} (h : Aw b) {p : Ab} (hp : As b p) (j : Int) : Ok (Ak1 b p j) λ y => y ≠ 0 \/ ((0 <= j /\ j < b.Ae.length) /\ ∀ x, b.Ae[j.toNat]? = some x -> x.Kind = 3 -> Dc b p 3 x.B = none) := by
 unfold Ak1
 rw [Fa h hp]
 simp only [ab]
 refine c3 (λ hc => by simp at hc) (λ _ => c3 (λ _ => c4 (.inl (by simp))) (λ hr => ?_))
 simp only [Awr, bq, db] at hr
 refine (Ay4 h hp (by omega) (by omega)).bind λ y hy => ?_
 refine c3 (λ _ => c4 (.inl (by simp))) (λ h2 => ?_)
 simp only [Bool.not_eq_false'] at h2
 have hy := hy h2
 refine (c8 (by omega) (by omega)).bind λ x hx => (Bbf h hp x.A).bind λ z hz => ?_
 refine Ok.bind (P := λ _ => True) (cQ (λ _ => cV (Fe _ _ hz)) λ _ => trivial) λ _ _ => ?_
 refine Ok.bind (P := λ _ => True) (cQ (λ _ => A3b h hp hx) λ _ => trivial) λ _ _ => ?_
 exact c3 (λ _ => c4 (.inl (by simp))) (λ _ => c4 (.inr ⟨⟨by omega, by omega⟩, hy⟩))
theorem A0j {b : Aa} (h : Aw b) {p : Ab} (hp : As b p) (i : Int) : Ok (Ala b p i) λ y => y.2 ≠ 0 \/ As b y.1 := by
 have hn := hp.ncl
 unfold Ala
 rw [Gp h hp]
 simp only [ab]
 refine (A4u h hp i).bind λ y hy => c3 (λ hc => c4 (.inl (by simpa using hc))) (λ hc => ?_)
 simp only [dj] at hc
 rcases hy with hy | ⟨hr, hf⟩
 ·exact absurd hc hy
 ·refine (c8 hr.1 (by omega)).bind λ _ _ => (cI hr.1 (by omega)).bind λ z hz => ?_
  obtain ⟨x, hx⟩ : ∃ x, b.Ae[i.toNat]? = some x := ⟨_, af (by omega)⟩
  have hq := A8i hp hx (hf x hx)
  rw [← hz] at hq
  rw [Ab1 h hq]
  exact c4 (.inr (I9 hq (H5 _ _) (Qv hq)))
theorem Azm {b : Aa} (h : Aw b) {p : Ab} (hp : As b p) (i n : Int) : Ok (Ak8 b p i n) λ y => y.2 ≠ 0 \/ As b y.1 := by
 have hn := hp.nso
 unfold Ak8
 rw [Fa h hp, Gp h hp]
 simp only [ab]
 refine c3 (λ hc => by simp at hc) (λ _ => c3 (λ _ => c4 (.inl (by simp))) (λ hr => ?_))
 simp only [Awv, bq, db] at hr
 refine (S_ h hp n).bind λ y hy => ?_
 refine Ok.bind (P := λ _ => True) (cQ (λ _ => cN (by omega) (by omega)) λ _ => trivial) λ u _ => ?_
 refine c3 (λ _ => c4 (.inl (by simp))) (λ hc => ?_)
 simp only [bq, Bool.not_eq_false'] at hc
 have hy := hy hc.1
 unfold As1
 rw [Fa h hp, Ts h hp]
 simp only [ab, bne_self_eq_false, cond_false]
 have hrun : ∀ w, p.Ac[y.1.toNat]? = some w -> Df w := λ w hw => hp.run w (ae hw)
 refine c3 (λ _ => ?_) (λ _ => ?_)
 ·refine (A12 h hp _).bind λ z hz => (c8 hy.1 hy.2).bind λ w hw => ?_
  rw [Afz hz]
  exact c4 (.inr (I9 hp (G3 _ _ _) (P6 (hrun w hw) _ _ hz hp.run)))
 ·refine (c8 hy.1 hy.2).bind λ w hw => ?_
  have hz : ∀ k, k ∈ [i] -> 0 <= k /\ k < p.Ac.length := λ k hk => by
   simp only [aT] at hk
   subst hk; omega
  rw [Afz hz]
  exact c4 (.inr (I9 hp (G3 _ _ _) (P6 (hrun w hw) _ _ hz hp.run)))
theorem Tb {b : Aa} (h : Aw b) {p : Ab} (hc : p.Ag.length = b.Ae.length) (t : Int) {i : Int} (h0 : 0 <= i) (h1 : i < b.Ac.length) : Ok (Mw ⟨b, p, t⟩ i) λ _ => True := by
 obtain ⟨j, x, e, hx, _⟩ := qC h h0 h1
 have hj := (aa.1 hx).1
 unfold Mw
 rw [Ari h, e]
 simp only [ab]
 exact (cN (by omega) (by omega)).bind λ _ _ => c4 trivial
def Wo (b : Aa) (y : Int × A2) : Prop := y.1 ≠ 0 \/ As b y.2.Au
theorem Ay2 {b : Aa} (h : Aw b) {p : Ab} (hp : As b p) {t : Int} (ht : 0 <= t /\ t <= 2147483648) {i : Int} (h0 : 0 <= i) (h1 : i < b.Ac.length) : Ok (Ux ⟨b, p, t⟩ i) (Wo b) := by
 have hn := hp.nso
 have hbl : p.Ao.length <= 1000 := by have := hp.brk.len; omega
 unfold Ux
 refine (cN h0 (by dsimp only; omega)).bind λ u _ => Ok.bind (P := λ _ => True) (cQ (λ _ => cV (Gg hbl _ _)) λ _ => trivial) λ _ _ => ?_
 refine c3 (λ _ => c4 (.inl (by simp))) (λ _ => (cN h0 h1).bind λ s _ => ?_)
 refine Ok.bind (P := λ _ => True) (cQ (λ _ => Tb h hp.ncl t h0 h1) λ _ => trivial) λ _ _ => ?_
 refine c3 (λ _ => ?_) (λ _ => ?_)
 ·exact (cI h0 (by dsimp only; omega)).bind λ z hz => c4 (.inr (by
   rw [hz]
   exact I9 hp (by simp) (Ln hp.run ⟨by dsimp only; omega, ht, by dsimp only; omega, by dsimp only; omega⟩)))
 ·exact (cI h0 (by dsimp only; omega)).bind λ z hz => c4 (.inr (by
   rw [hz]
   exact I9 hp (by simp) (Ln hp.run ⟨by dsimp only; omega, ht, by dsimp only; omega, by dsimp only; omega⟩)))
theorem A3c {b : Aa} (h : Aw b) {p : Ab} (hp : As b p) {t : Int} {i : Int} (h0 : 0 <= i) (h1 : i < b.Ac.length) : Ok (Uw ⟨b, p, t⟩ i) (Wo b) := by
 have hn := hp.nso
 unfold Uw
 refine (c8 h0 (by dsimp only; omega)).bind λ u hu => ?_
 have hr := hp.run u (ae hu)
 refine Ok.bind (P := λ _ => True) (cQ (λ _ => Tb h hp.ncl t h0 h1) λ _ => trivial) λ _ _ => ?_
 refine c3 (λ _ => c4 (.inl (by simp))) (λ _ => (cI h0 (by dsimp only; omega)).bind λ z hz => c4 (.inr ?_))
 rw [hz]
 exact I9 hp (by simp) (Ln hp.run ⟨by dsimp only; omega, hr.2⟩)
theorem Azo {b : Aa} {p : Ab} (hp : As b p) {t : Int} {i v : Int} (h0 : 0 <= i) (h1 : i < b.Ad.length) : Ok (Uv ⟨b, p, t⟩ i v) (Wo b) := by
 have hn := hp.nli
 unfold Uv
 refine Ok.bind (P := λ y => 0 <= v -> b.Ad[i.toNat]? = some y) (cF (λ _ => (c8 h0 h1).mono λ y hy _ => hy) λ hg hv => (hg ⟨by simp; omega, trivial⟩).elim) λ c hc => ?_
 refine c3 (λ _ => c4 (.inl (by simp))) (λ hr => ?_)
 simp only [Aib, bq, db] at hr
 have hc := hc (by omega)
 refine (cN h0 (by dsimp only; omega)).bind λ _ _ => (cI h0 (by dsimp only; omega)).bind λ z hz => c4 (.inr ?_)
 subst hz
 exact {
  ncl := hp.ncl
  nso := hp.nso
  nli := by simpa using hp.nli
  run := hp.run
  lim := λ k m y hk hy => by
   dsimp only at hk
   rw [au] at hk
   split at hk
   ·rename_i e
    split at hk
    ·cases hk
     rw [← e, hc] at hy; cases hy; omega
    ·cases hk
   ·exact hp.lim k m y hk hy
  one := hp.one
  brk := hp.brk }
theorem A3o (x : Int) : 0 <= G8 x /\ G8 x <= 3599 := by
 have := Pz (x := x) (n := 3600) (by omega)
 unfold G8
 by_cases h : Int.tmod x 3600 < 0
 ·rw [dh h, cond_true, Bb (by omega)]; omega
 ·rw [di h, cond_false]; omega
theorem A28 {b : Aa} (h : Aw b) {p : Ab} (hp : As b p) : Ok (Ak0 b p) λ y => As b y.1 /\ y.1.Ag = p.Ag /\ y.2 = 0 := by
 have hs := h.sol
 have hn := hp.nso
 unfold Ak0
 rw [Fa h hp, Gp h hp]
 simp only [ab]
 refine c3 (λ hc => by simp at hc) (λ _ => ?_)
 refine Ok.andThen (A := λ s => s.length = p.Ac.length /\ ∀ x, x ∈ s -> Df x) (B := λ (_ : Unit) => False) ?_ (λ s hs => c4 ⟨I9 hp hs.1 hs.2, rfl, rfl⟩) (λ _ h => h.elim)
 refine c6 (I := λ _ s => s.length = p.Ac.length /\ ∀ x, x ∈ s -> Df x) ⟨rfl, hp.run⟩ (λ j x s hx hs => ?_) λ s hs => hs
 have hj := (aa.1 hx).1
 have hcnt : cnt 0 j = (j : Int) := C_ (by omega)
 unfold zF
 rw [hcnt]
 refine c3 (λ _ => ?_) (λ _ => c5 hs)
 refine (c8 (by omega) (by omega)).bind λ u hu => (cI (by omega) (by omega)).bind λ z hz => c5 ?_
 have hr := hs.2 u (ae hu)
 rw [hz]
 exact ⟨by simpa using hs.1, Ln hs.2 ⟨hr.1, hr.2.1, hr.2.2.1, A3o _⟩⟩
theorem A26 {b : Aa} (h : Aw b) {p : Ab} (hp : As b p) (t : Int) : Ok (Uu ⟨b, p, t⟩) λ y => As b y.Au := by
 have hso := h.sol
 unfold Uu
 refine (A28 h hp).bind λ ⟨q, e⟩ hq => ?_
 dsimp only at hq ⊢
 obtain ⟨hq, _, _⟩ := hq
 have hn := hq.nso
 refine Ok.andThen (A := λ s => s.2.length = q.Ac.length /\ ∀ x, x ∈ s.2 -> Df x) (B := λ (_ : Unit) => False) ?_ (λ s hs => c4 (I9 hq hs.1 hs.2)) (λ _ h => h.elim)
 refine c7 (λ s => (0 <= s.1 /\ s.1 <= (q.Ac.length : Int)) /\ s.2.length = q.Ac.length /\ ∀ x, x ∈ s.2 -> Df x) (λ s => ((q.Ac.length : Int) - s.1).toNat) _ _ ?_ ?_ ?_
 ·exact ⟨by dsimp only; omega, rfl, hq.run⟩
 ·dsimp only; omega
 ·rintro ⟨i, s⟩ ⟨⟨h1, h2⟩, h3, h4⟩
  dsimp only at h1 h2 h3 h4
  unfold Ut Aia
  dsimp only
  refine c3 (λ hc => ?_) (λ _ => cJ ⟨h3, h4⟩)
  simp only [da] at hc
  have e1 : w64 (i + 1) = i + 1 := Bb (by omega)
  refine (c8 h1 (by omega)).bind λ u hu => ?_
  have hr := h4 u (ae hu)
  refine Ok.bind (P := λ _ => True) (cQ (λ _ => Tb h hq.ncl t h1 (by omega)) λ _ => trivial) λ _ _ => ?_
  refine Ok.bind (P := λ _ => True) (cQ (λ _ => cN h1 (by omega)) λ _ => trivial) λ _ _ => ?_
  rw [e1]
  refine c3 (λ _ => ?_) (λ _ => c5 ⟨⟨by dsimp only; omega, h3, h4⟩, by dsimp only; omega⟩)
  refine (cI h1 (by omega)).bind λ z hz => c5 ⟨⟨by dsimp only; omega, ?_, ?_⟩, by dsimp only; omega⟩
  ·dsimp only; rw [hz]; simpa using h3
  ·dsimp only; rw [hz]; exact Ln h4 ⟨by dsimp only; omega, hr.2⟩
theorem bet {x lo hi : Int} (h : lo <= x /\ x <= hi) : B7 x lo hi = true := (I8 x lo hi).2 h
def ofL (b : Aa) (q : Aj -> Bool) : List Int := (b.Ae.zipIdx.filter λ z => q z.1).map λ z => (z.2 : Int)
theorem Agm {b : Aa} (h : Aw b) (k i : Int) : F77 b k i = some (ofL b λ x => Li k i x) := by
 have hb := h.brl
 refine cL ?_
 unfold F77
 refine Ok.andThen (A := λ s => s = ofL b λ x => Li k i x) (B := λ (_ : Unit) => False) ?_ (λ s hs => c4 hs) (λ _ h => h.elim)
 refine c6 (I := λ j s => s = ((b.Ae.zipIdx.take j).filter λ z => Li k i z.1).map λ z => (z.2 : Int)) rfl (λ j x s hx hs => ?_) λ s hs => ?_
 ·have hj := (aa.1 hx).1
  have hcnt : cnt 0 j = (j : Int) := C_ (by omega)
  have hz : b.Ae.zipIdx[j]? = some (x, j) := by rw [List.getElem?_zipIdx, hx]; simp
  have hsl : s.length <= j := by
   rw [hs, aA]
   exact ay (bk _ _) (by simp; omega)
  unfold Aj3
  rw [hcnt, Bi hz, aY, bB, ← hs]
  refine c3 (λ hq => ?_) (λ hq => c5 (by simp [hq]))
  exact (c9 (by simp; omega)).bind λ y hy => c5 (by rw [hy]; simp [hq])
 ·rw [hs, show b.Ae.length = b.Ae.zipIdx.length from by simp, ax]; rfl
theorem Aey (q : Aj -> Bool) : ∀ (l : List Aj) (k : Nat), ((l.zipIdx k).filter λ z => q z.1).length = (l.filter q).length
 | [], _ => rfl
 | x :: l, k => by
  simp only [List.zipIdx_cons, bf]
  split <;> simp [Aey q l (k + 1)]
theorem A3n (b : Aa) (q : Aj -> Bool) : (ofL b q).length = (b.Ae.filter q).length := by
 unfold ofL
 rw [aA, Aey]
theorem Aza (k : Int) (hk : k ≠ 1) (i : Int) (x : Aj) : Li k i x = (x.Kind == k && x.B == i) := by
 unfold Li
 have : (k == 1) = false := dg.2 hk
 rw [this]; simp
theorem vR {b : Aa} {k : Int} (hk : k ≠ 1) (i : Nat) : (ofL b λ x => Li k (i : Int) x).length = (brs b.Ae k i).length := by
 rw [A3n]
 unfold brs
 congr 1
 exact cr λ x _ => Aza k hk i x
theorem Agh {b : Aa} (h : Aw b) : Ald b = some true := by
 have hs := h.sol
 have hc := h.col
 have hb := h.buses
 have hbl := h.brl
 refine cL ?_
 unfold Ald
 rw [D5 b.Ae 0 λ j x hj => ?_]
 ·rw [show ∀ (f : Unit -> Option Bool), andThen (some (Ctl.next ()) : Option (Ctl Unit Bool)) some f = f () from λ _ => rfl]
  refine Ok.andThen (A := λ _ => True) (B := λ (_ : Bool) => False) ?_ (λ _ _ => ?_) (λ _ h => h.elim)
  ·refine c7 (λ s => 0 <= s /\ s <= (b.Ac.length : Int)) (λ s => ((b.Ac.length : Int) - s).toNat) _ (0 : Int) (by omega) (by omega) ?_
   rintro i ⟨h1, h2⟩
   unfold zO Aof
   refine c3 (λ hq => ?_) (λ _ => cJ trivial)
   simp only [da] at hq
   obtain ⟨n, rfl⟩ : ∃ n : Nat, i = (n : Int) := ⟨i.toNat, by omega⟩
   rw [Agm h]
   simp only [ab]
   have hone := h.one n (by omega)
   rw [vR (by decide), hone, Bb (by omega)]
   refine c3 (λ hc => by simp at hc) (λ _ => c5 ⟨by omega, by omega⟩)
  ·refine Ok.andThen (A := λ _ => True) (B := λ (_ : Bool) => False) ?_ (λ _ _ => c4 rfl) (λ _ h => h.elim)
   refine c7 (λ s => 0 <= s /\ s <= (b.Ad.length : Int)) (λ s => ((b.Ad.length : Int) - s).toNat) _ (0 : Int) (by omega) (by omega) ?_
   rintro i ⟨h1, h2⟩
   unfold zN Aoe
   refine c3 (λ hq => ?_) (λ _ => cJ trivial)
   simp only [da] at hq
   obtain ⟨n, rfl⟩ : ∃ n : Nat, i = (n : Int) := ⟨i.toNat, by omega⟩
   rw [Agm h]
   simp only [ab]
   have hany := h.any n (by omega)
   have hpos : 0 < (brs b.Ae 3 n).length := List.length_pos_iff.2 hany
   rw [vR (by decide), Bb (by omega)]
   refine c3 (λ hc => ?_) (λ _ => c5 ⟨by omega, by omega⟩)
   simp only [da] at hc; omega
 ·have hjl := (aa.1 hj).1
  obtain ⟨⟨a0, a1⟩, hk⟩ := h.br x (ae hj)
  rw [aG]
  have hcnt : cnt 0 j = (j : Int) := C_ (by omega)
  have e1 : w64 (b.Aq - 1) = b.Aq - 1 := Bb (by omega)
  have e2 : w64 (x.A + 1) = x.A + 1 := Bb (by omega)
  have e3 : w64 ((b.Ac.length : Int) - 1) = (b.Ac.length : Int) - 1 := Bb (by omega)
  have e4 : w64 ((b.Ad.length : Int) - 1) = (b.Ad.length : Int) - 1 := Bb (by omega)
  unfold zP Aw2 Aw1 Aw0
  rw [e1, e2, e3, e4, hcnt, bet (x := x.A) (by omega)]
  simp only [be, cond_false]
  rcases hk with ⟨hk, h1, h2⟩ | ⟨hk, h1, h2⟩ | ⟨hk, h1, h2⟩
  ·rw [hk, bet (x := x.B) (lo := x.A + 1) (by omega)]; rfl
  ·rw [hk, bet (x := x.B) (lo := 0) (hi := (b.Ac.length : Int) - 1) (by omega)]; rfl
  ·rw [hk, bet (x := x.B) (lo := 0) (hi := (b.Ad.length : Int) - 1) (by omega)]
   have hcut : cutI b.Ae 0 (j : Int) = some (b.Ae.take j) := by
    refine cL ((Ok.cutI (by omega) (by omega) (by omega)).mono λ y hy => ?_)
    rw [hy]; simp
   show ((cutI b.Ae 0 (j : Int)).bind λ y9 => andThen (foldI (Wj x) y9 0 ()) (λ v => some (Ctl.ret v)) λ z1 => some (Ctl.next ())) = some (Ctl.next ())
   rw [hcut]
   simp only [ab]
   rw [D5 _ 0 λ m y hy => ?_]
   ·rfl
   ·have hml : m < j := by
     have := (aa.1 hy).1
     simp only [aO] at this; omega
    have hyb : b.Ae[m]? = some y := by
     rw [am, if_pos hml] at hy; exact hy
    unfold Wj
    have hne : Aic x y = false := by
     unfold Aic
     rw [cw]
     intro e
     simp only [bD, ac, de] at e
     obtain ⟨e1, e2, e3⟩ := e
     have hn := h.nodup x.B.toNat
     have hsplit : b.Ae = b.Ae.take j ++ (x :: b.Ae.drop (j + 1)) := by
      conv => lhs; rw [← cg j b.Ae]
      rw [List.drop_eq_getElem_cons hjl]
      have : b.Ae[j] = x := by
       rw [af hjl] at hj; cases hj; rfl
      rw [this]
     rw [hsplit, Gr, bB] at hn
     have hBn : x.B = (x.B.toNat : Int) := by omega
     have hmem1 : y.A ∈ (brs (b.Ae.take j) 3 x.B.toNat).map (·.A) := by
      refine al.2 ⟨y, ?_, rfl⟩
      unfold brs
      refine an.2 ⟨ae hy, ?_⟩
      rw [e1, hk, e3, ← hBn]; simp
     have hmem2 : x.A ∈ (brs (x :: b.Ae.drop (j + 1)) 3 x.B.toNat).map (·.A) := by
      refine al.2 ⟨x, ?_, rfl⟩
      unfold brs
      refine an.2 ⟨ag, ?_⟩
      rw [hk, ← hBn]; simp
     exact (List.nodup_append.1 hn).2.2 _ hmem1 _ hmem2 e2
    rw [hne]; rfl
theorem Al2 {b : Aa} (h : Aw b) : Alc b = some true := by
 unfold Alc
 rw [D5 b.Ac 0 λ j x hj => ?_]
 ·rfl
 ·obtain ⟨h1, h2, h3⟩ := h.so x (ae hj)
  unfold zM Awz
  rw [bet h1, bet h2, bet h3]; rfl
theorem Adu {b : Aa} (h : Aw b) : Alb b = some true := by
 have hcl := h.col
 unfold Alb
 rw [D5 b.Ad 0 λ j x hj => ?_]
 ·rfl
 ·obtain ⟨h1, h2, h3, h4, h5, h6, h7⟩ := h.co j x hj
  have hjl := (aa.1 hj).1
  rw [aG]
  have hcnt : cnt 0 j = (j : Int) := C_ (by omega)
  unfold zL Awy
  rw [bet h1, bet h2, bet h3, bet h4]
  have hd : decide ((x.Needs.length : Int) > 4) = false := by simp; omega
  rw [hd]
  simp only [be, Bool.or_false, cond_false]
  rw [D5 x.Needs 0 λ m n hm => ?_]
  ·rfl
  ·have hml := (aa.1 hm).1
   rw [aG]
   have hcm : cnt 0 m = (m : Int) := C_ (by omega)
   have hn := h6 n (ae hm)
   unfold zK Awx
   rw [hcnt, hcm, Bb (n := (j : Int) - 1) (by omega), bet (x := n) (by omega)]
   cases m with
   | zero => rfl
   | succ m =>
    obtain ⟨a, ha⟩ : ∃ a, x.Needs[m]? = some a := ⟨_, af (by omega)⟩
    have hlt := h7 m a n ha hm
    have e : w64 (((m + 1 : Nat) : Int) - 1) = (m : Int) := by rw [Bb (by omega)]; omega
    have hp : decide (((m + 1 : Nat) : Int) > 0) = true := dh (by omega)
    have hq : decide (a >= n) = false := by simp; omega
    rw [e, Bm ha, hp]
    simp [Az, Dj, hq]
theorem Agi {b : Aa} (h : Aw b) : Aaj b = some 0 := by
 have h1 := h.buses
 have h2 := h.brl
 have h3 := h.sol
 have h4 := h.col
 have h5 := h.phase
 have h6 := h.freq
 unfold Aaj
 rw [Agh h, Al2 h, Adu h]
 have e : Aij b = false := by
  rw [cw]; intro e
  simp [Aij] at e; omega
 have e2 : Aii b true true true = false := by
  rw [cw]; intro e
  simp [Aii] at e; omega
 rw [e]
 simp only [cond_false, ab]
 have g1 : (Az [(!true, false)] (some true) default : Option Bool) = some true := rfl
 have g2 : (Az [(!true || !true, false)] (some true) default : Option Bool) = some true := rfl
 rw [g1, ab, g2, ab, e2]; rfl
theorem Aan (i : Nat) (C : List Bool) : ∀ (l : List Aj) (c : List Bool) (k : Nat), C.drop k = c -> l.length = c.length ->
  (((l.zipIdx k).filter λ z => z.1.Kind == 3 && z.1.B == (i : Int)).filter λ z => C.getD z.2 false).length = (Cm l c i).length
 | [], _, _, _, _ => by simp [Cm]
 | x :: l, [], _, _, h => by simp at h
 | x :: l, v :: c, k, hd, h => by
  have hv : C[k]? = some v := by
   have := congrArg (·[0]?) hd
   simpa [List.getElem?_drop] using this
  have hd' : C.drop (k + 1) = c := by rw [← bF, hd]; rfl
  have ih := Aan i C l c (k + 1) hd' (by simpa using h)
  have hg : C.getD k false = v := by simp [List.getD, hv]
  simp only [List.zipIdx_cons, bf, Cm, bo] at ih ⊢
  cases hq : (x.Kind == 3 && x.B == (i : Int)) with
  | false => simpa only [Bool.false_and, bK, if_false] using ih
  | true =>
   simp only [if_true, bf, hg]
   cases v with
   | false => simpa only [Bool.and_false, bK, if_false] using ih
   | true => simpa only [Bool.and_self, if_true, aX, Nat.add_right_cancel_iff] using ih
theorem Ir {b : Aa} (h : Aw b) {p : Ab} (hp : As b p) : F53 b p = some 0 := by
 have h3 := h.sol
 have h4 := h.col
 have hbl := h.brl
 have hncl := hp.ncl
 have hnso := hp.nso
 have hnli := hp.nli
 refine cL ?_
 unfold F53
 rw [Agi h]
 simp only [ab]
 refine c3 (λ hc => by simp at hc) (λ _ => c3 (λ hc => ?_) (λ _ => ?_))
 ·simp [A2q, hncl, hnso, hnli] at hc
 rw [D5 p.Ac 0 λ j x hj => ?_]
 ·rw [show ∀ (f : Unit -> Option Int), andThen (some (Ctl.next ()) : Option (Ctl Unit Int)) some f = f () from λ _ => rfl]
  rw [D5 p.Ak 0 λ j x hj => ?_]
  ·rw [show ∀ (f : Unit -> Option Int), andThen (some (Ctl.next ()) : Option (Ctl Unit Int)) some f = f () from λ _ => rfl]
   have hlen := hp.brk.len
   refine c3 (λ hc => ?_) (λ _ => ?_)
   ·simp only [da] at hc; omega
   rw [D5 p.Ao 0 λ j x hj => ?_]
   ·rw [show ∀ (f : Unit -> Option Int), andThen (some (Ctl.next ()) : Option (Ctl Unit Int)) some f = f () from λ _ => rfl]
    refine Ok.andThen (A := λ _ => True) (B := λ (_ : Int) => False) ?_ (λ _ _ => c4 rfl) (λ _ h => h.elim)
    refine c7 (λ s => 0 <= s /\ s <= (b.Ad.length : Int)) (λ s => ((b.Ad.length : Int) - s).toNat) _ (0 : Int) (by omega) (by omega) ?_
    rintro i ⟨g1, g2⟩
    unfold Akd A2n
    refine c3 (λ hq => ?_) (λ _ => cJ trivial)
    simp only [da] at hq
    obtain ⟨n, rfl⟩ : ∃ n : Nat, i = (n : Int) := ⟨i.toNat, by omega⟩
    rw [Agm h]
    simp only [ab]
    have hone := hp.one n (by omega)
    have hz : ofL b (λ x => Li 3 (n : Int) x) = ((b.Ae.zipIdx.filter λ z => z.1.Kind == 3 && z.1.B == (n : Int)).map λ z => (z.2 : Int)) := by
     unfold ofL
     congr 1
     exact cr λ z _ => Aza 3 (by decide) n z.1
    have hzf := Aan n p.Ag b.Ae p.Ag 0 rfl (by omega)
    rw [hz]
    have hin : ∀ z, z ∈ (b.Ae.zipIdx.filter λ z => z.1.Kind == 3 && z.1.B == (n : Int)) -> z.2 < p.Ag.length := by
     rintro ⟨x, j⟩ hm
     have := (an.1 hm).1
     rw [cy] at this
     have := (aa.1 this).1
     dsimp only; omega
    have hsz : (b.Ae.zipIdx.filter λ z => z.1.Kind == 3 && z.1.B == (n : Int)).length <= 24 := ay (bk _ _) (by simpa using hbl)
    generalize hm : (b.Ae.zipIdx.filter λ z => z.1.Kind == 3 && z.1.B == (n : Int)) = m at hin hsz hzf
    refine (c6 (xs := m.map λ z => (z.2 : Int)) (I := λ j s => s = (((m.take j).filter λ z => p.Ag.getD z.2 false).length : Int)) (A := λ s => s = ((m.filter λ z => p.Ag.getD z.2 false).length : Int)) (B := λ (_ : Unit) => False) rfl (λ j x s hx hs => ?_) λ s hs => ?_).inner (λ s hs => ?_) (λ _ h => h.elim)
    ·rw [az, Option.map_eq_some_iff] at hx
     obtain ⟨z, hz, rfl⟩ := hx
     have hzl := hin z (ae hz)
     obtain ⟨v, hv⟩ : ∃ v, p.Ag[z.2]? = some v := ⟨_, af hzl⟩
     have hg : p.Ag.getD z.2 false = v := by simp [List.getD, hv]
     have hle : ((m.take j).filter λ z => p.Ag.getD z.2 false).length <= 24 := ay (bk _ _) (by simp; omega)
     unfold Akc
     rw [Bm hv, Bi hz, aY]
     simp only [ab]
     refine c3 (λ hq => c5 ?_) (λ hq => c5 ?_)
     ·rw [hs, Bb (by omega), bf, hg, if_pos hq]
      simp
     ·rw [hs, bf, hg, if_neg (ff hq)]
      simp
    ·rw [aA, ax] at hs; exact hs
    ·rw [hs, hzf, Bb (by omega)]
     refine c3 (λ hc => ?_) (λ _ => c5 ⟨by omega, by omega⟩)
     simp only [da] at hc; omega
   ·have hjl := (aa.1 hj).1
    rw [aG]
    have hcnt : cnt 0 j = (j : Int) := C_ (by omega)
    unfold Ake A2o
    rw [(jI h x).2 (hp.brk.mem x (ae hj)), hcnt]
    cases j with
    | zero => rfl
    | succ j =>
     obtain ⟨a, ha⟩ : ∃ a, p.Ao[j]? = some a := ⟨_, af (by omega)⟩
     have hlt := hp.brk.asc j a x ha hj
     have e : w64 (((j + 1 : Nat) : Int) - 1) = (j : Int) := by rw [Bb (by omega)]; omega
     have hpz : decide (((j + 1 : Nat) : Int) > 0) = true := dh (by omega)
     have hb : Aai a x = true := by
      unfold Aai
      unfold Pn at hlt
      simp only [aH, ac, da, de]
      exact hlt
     rw [e, Bm ha, hpz]
     simp [Az, Dj, hb]
  ·have hjl := (aa.1 hj).1
   rw [aG]
   have hcnt : cnt 0 j = (j : Int) := C_ (by omega)
   obtain ⟨c, hc⟩ : ∃ c, b.Ad[j]? = some c := ⟨_, af (by omega)⟩
   unfold Akf
   rw [hcnt, Bm hc]
   simp only [ab]
   rw [bet (hp.lim j x c hj hc)]; rfl
 ·have hr := hp.run x (ae hj)
  unfold Akg A2p
  rw [bet hr.1, bet hr.2.1, bet hr.2.2.1, bet hr.2.2.2]; rfl
theorem Av6 {l : List Al} {n : Nat} {x : Al} (h : l[n]? = some x) : D4 (l.take n ++ l.drop (n + 1)) n x = l := by
 have hn := (aa.1 h).1
 have ht : (l.take n).length = n := by simp; omega
 unfold D4
 rw [ch (by omega), List.take_take, Nat.min_self, List.drop_append_of_le_length (by omega), List.drop_of_length_le (by omega), cm]
 conv => rhs; rw [← cg n l]
 rw [List.drop_eq_getElem_cons hn]
 have : l[n] = x := by rw [af hn] at h; cases h; rfl
 rw [this]
theorem Kx {l : List Al} {n j : Nat} (hn : n < l.length) {y : Al} (h : (l.take n ++ l.drop (n + 1))[j]? = some y) : (j < n /\ l[j]? = some y) \/ (n <= j /\ l[j + 1]? = some y) := by
 have ht : (l.take n).length = n := by simp; omega
 rw [bM] at h
 split at h
 ·rename_i h1
  rw [ht] at h1
  rw [am, if_pos h1] at h
  exact .inl ⟨h1, h⟩
 ·rename_i h1
  rw [ht] at h1 h
  rw [aq] at h
  refine .inr ⟨by omega, ?_⟩
  rw [← h]; congr 1; omega
theorem Az8 {b : Aa} (h : Aw b) {l : List Al} (hl : D7 b l) {n : Nat} (hn : n < l.length) : D7 b (l.take n ++ l.drop (n + 1)) := by
 have hs := He h hl
 have hsm : ∀ y, y ∈ l -> Co y := λ y hy => (hl.mem y hy).small h
 have hlen := hl.len
 refine ⟨by simp; omega, λ y hy => ?_, λ j y z hy hz => ?_⟩
 ·rcases ar.1 hy with hy | hy
  ·exact hl.mem y (aP hy)
  ·exact hl.mem y (bV hy)
 ·rcases Kx hn hy with ⟨a1, a2⟩ | ⟨a1, a2⟩ <;> rcases Kx hn hz with ⟨b1, b2⟩ | ⟨b1, b2⟩
  ·exact hl.asc j y z a2 b2
  ·exact (Ad7 (hsm y (ae a2)) (hsm z (ae b2))).2 (hs j (j + 1 + 1) y z (by omega) a2 b2)
  ·omega
  ·exact hl.asc (j + 1) y z a2 b2
theorem Az9 {b : Aa} (h : Aw b) {l : List Al} (hl : D7 b l) {n : Nat} {x : Al} (hx : l[n]? = some x) : At (l.take n ++ l.drop (n + 1)) x n /\ (l.take n ++ l.drop (n + 1))[n]? ≠ some x := by
 have hs := He h hl
 have hn := (aa.1 hx).1
 refine ⟨⟨by simp; omega, λ j y hj hy => ?_, λ j y hj hy => ?_⟩, λ e => ?_⟩
 ·rcases Kx hn hy with ⟨_, a2⟩ | ⟨a1, _⟩
  ·exact hs j n y x hj a2 hx
  ·omega
 ·rcases Kx hn hy with ⟨a1, _⟩ | ⟨_, a2⟩
  ·omega
  ·have := hs n (j + 1) x y (by omega) hx a2; omega
 ·rcases Kx hn e with ⟨a1, _⟩ | ⟨_, a2⟩
  ·omega
  ·have := hs n (n + 1) x x (by omega) hx a2; omega
theorem A31 {b : Aa} (h : Aw b) {p : Ab} (hp : As b p) (t : Int) {x : Al} (hx : Ca b x) (v : Bool) : Ok (Hv ⟨b, p, t⟩ x v) (Wo b) := by
 obtain ⟨n, hat⟩ := A_l h hp.brk hx
 have hlen := hp.brk.len
 have hsearch := Nc (He h hp.brk) (λ y hy => (hp.brk.mem y hy).small h) (hx.small h) (by omega)
 have hbad : ∀ (hv : (p.Ao[n]? = some x) ↔ v = true), Ok (Hv ⟨b, p, t⟩ x v) (Wo b) := by
  intro hv
  unfold Hv
  refine hsearch.bind λ y hy => ?_
  obtain ⟨m, e1, hat2, hf⟩ := hy
  have e2 := hat.uniq hat2
  subst e2
  have : y.2 = v := by
   rw [bp]; exact hf.trans hv
  rw [this]
  exact c3 (λ _ => c4 (.inl (by simp))) (λ hc => by simp at hc)
 by_cases hin : p.Ao[n]? = some x
 ·cases v with
  | true => exact hbad ⟨λ _ => rfl, λ _ => hin⟩
  | false =>
   have hn := (aa.1 hin).1
   have he := Az9 h hp.brk hin
   have hq : As b ⟨p.Ag, p.Ac, p.Ak, p.Ao.take n ++ p.Ao.drop (n + 1)⟩ := { ncl := hp.ncl, nso := hp.nso, nli := hp.nli, run := hp.run, lim := hp.lim, one := hp.one, brk := Az8 h hp.brk hn }
   have := A3p h (p := ⟨p.Ag, p.Ac, p.Ak, p.Ao.take n ++ p.Ao.drop (n + 1)⟩) hq.brk (q := p) hx t he.1 he.2 (by simp; omega) (Av6 hin).symm hp.nso
   rw [this]
   refine c4 (.inr ?_)
   exact I9 hq (Tk _ _ _) (Ahm hp.run (λ hk => by have := hp.nso; unfold Ca at hx; omega) (by omega))
 ·cases v with
  | false => exact hbad ⟨λ e => absurd e hin, λ e => by cases e⟩
  | true =>
   by_cases hl : p.Ao.length < 32
   ·rw [A32 h hp hx t hat hin hl]
    exact c4 (.inr (Aq1 h hp hx hat hin hl))
   ·unfold Hv
    refine hsearch.bind λ y _ => c3 (λ _ => c4 (.inl (by simp))) (λ _ => c3 (λ _ => c4 (.inl (by simp))) (λ hc => ?_))
    simp [Q0] at hc; omega
def A6r : Ab := ⟨[], [], [], []⟩
theorem Azr {b : Aa} (a : An) : Ok (Alj b a) λ y => y = true -> ((a.Kind = 1 \/ a.Kind = 2) -> Ca b ⟨2, a.Unit⟩) /\ ((a.Kind = 3 \/ a.Kind = 4) -> Ca b ⟨1, a.Unit⟩) /\ (a.Kind = 5 -> Ca b ⟨4, a.Unit⟩) /\ ((a.Kind = 8 \/ a.Kind = 9) -> Ca b ⟨a.Value, a.Unit⟩) := by
 unfold Alj
 refine Ok.andThen (A := λ z => z = true ↔ (a.Kind = 1 \/ a.Kind = 2)) (B := λ (_ : Unit) => False) ?_ (λ z hz => ?_) (λ _ h => h.elim)
 ·unfold zY
  refine c3 (λ hk => cK ?_) (λ hk => cK ?_)
  ·simp only [de] at hk ⊢; omega
  ·simp only [dg, ne_eq] at hk
   simp only [de]; omega
 refine c3 (λ hq => c4 λ hk => ?_) (λ hq => ?_)
 ·have := hz.1 hq
  have hk := (Mc b _ _).1 hk
  exact ⟨λ _ => hk, λ e => by omega, λ e => by omega, λ e => by omega⟩
 have hn12 : ¬ (a.Kind = 1 \/ a.Kind = 2) := λ e => by rw [hz.2 e] at hq; cases hq
 refine Ok.andThen (A := λ z => z = true ↔ (a.Kind = 3 \/ a.Kind = 4)) (B := λ (_ : Unit) => False) ?_ (λ z hz => ?_) (λ _ h => h.elim)
 ·unfold zX
  refine c3 (λ hk => cK ?_) (λ hk => cK ?_)
  ·simp only [de] at hk ⊢; omega
  ·simp only [dg, ne_eq] at hk
   simp only [de]; omega
 refine c3 (λ hq => c4 λ hk => ?_) (λ hq => ?_)
 ·have := hz.1 hq
  have hk := (Mc b _ _).1 hk
  exact ⟨λ e => by omega, λ _ => hk, λ e => by omega, λ e => by omega⟩
 have hn34 : ¬ (a.Kind = 3 \/ a.Kind = 4) := λ e => by rw [hz.2 e] at hq; cases hq
 refine c3 (λ hq => c4 λ hk => ?_) (λ hq5 => c3 (λ hq => c4 λ _ => ?_) (λ hq6 => c3 (λ hq => c4 λ hk => ?_) (λ hq8 => c3 (λ hq => c4 λ hk => ?_) (λ hq9 => c4 λ _ => ?_))))
 ·simp only [de] at hq
  have hk := (Mc b _ _).1 hk
  exact ⟨λ e => by omega, λ e => by omega, λ _ => hk, λ e => by omega⟩
 ·simp only [de] at hq
  exact ⟨λ e => by omega, λ e => by omega, λ e => by omega, λ e => by omega⟩
 ·have hk := (Mc b _ _).1 hk
  simp only [de] at hq
  exact ⟨λ e => by omega, λ e => by omega, λ e => by omega, λ _ => hk⟩
 ·have hk := (Mc b _ _).1 hk
  simp only [de] at hq
  exact ⟨λ e => by omega, λ e => by omega, λ e => by omega, λ _ => hk⟩
 ·simp only [dg, ne_eq] at hq5 hq8 hq9
  exact ⟨λ e => by omega, λ e => by omega, λ e => by omega, λ e => by omega⟩
theorem A_d {b : Aa} (h : Aw b) {p : Ab} (hp : As b p) {t : Int} (ht : 0 <= t /\ t <= 2147483648) {a : An} (hk : 1 <= a.Kind /\ a.Kind <= 9)
  (hw : ((a.Kind = 1 \/ a.Kind = 2) -> Ca b ⟨2, a.Unit⟩) /\ ((a.Kind = 3 \/ a.Kind = 4) -> Ca b ⟨1, a.Unit⟩) /\ (a.Kind = 5 -> Ca b ⟨4, a.Unit⟩) /\ ((a.Kind = 8 \/ a.Kind = 9) -> Ca b ⟨a.Value, a.Unit⟩)) : Ok (U2 ⟨b, p, t⟩ a) (Wo b) := by
 obtain ⟨w1, w2, w3, w4⟩ := hw
 unfold Ca at w2 w3
 dsimp only at w2 w3
 unfold U2
 refine c3 (λ _ => (A0j h hp _).bind λ y hy => c4 hy) (λ q1 => ?_)
 refine c3 (λ _ => (A3m h hp _).bind λ y hy => c4 hy) (λ q2 => ?_)
 refine c3 (λ _ => (Azm h hp _ _).bind λ y hy => c4 hy) (λ q6 => ?_)
 refine c3 (λ q => ?_) (λ q3 => ?_)
 ·simp only [de] at q
  exact (Ay2 h hp ht (by omega) (by omega)).bind λ y hy => c4 hy
 refine c3 (λ q => ?_) (λ q4 => ?_)
 ·simp only [de] at q
  exact (A3c h hp (by omega) (by omega)).bind λ y hy => c4 hy
 refine c3 (λ q => ?_) (λ q5 => ?_)
 ·simp only [de] at q
  exact (Azo hp (by omega) (by omega)).bind λ y hy => c4 hy
 refine c3 (λ _ => (A26 h hp t).bind λ y hy => c4 (.inr hy)) (λ q7 => ?_)
 simp only [dg, ne_eq] at q1 q2 q3 q4 q5 q6 q7
 exact (A31 h hp t (w4 (by omega)) _).bind λ y hy => c4 hy
theorem A80 {b : Aa} (h : Aw b) {p : Ab} (hp : As b p) (t : Int) (a : An) : Ok (F83 b p t a) λ y => (y.2 ≠ 0 /\ y.1 = A6r) \/ (y.2 = 0 /\ As b y.1) := by
 unfold F83
 rw [Fa h hp, Gp h hp]
 simp only [ab]
 refine c3 (λ hc => by simp at hc) (λ _ => c3 (λ _ => c4 (.inl ⟨by simp, rfl⟩)) (λ hr => ?_))
 simp only [A2h, bq, db] at hr
 refine (Azr a).bind λ y hy => c3 (λ _ => c4 (.inl ⟨by simp, rfl⟩)) (λ hk => ?_)
 simp only [Bool.not_eq_false'] at hk
 refine (A_d h hp (by omega) (by omega) (hy hk)).bind λ z hz => c3 (λ hc => c4 (.inl ⟨by simpa using hc, rfl⟩)) (λ hc => ?_)
 simp only [dj] at hc
 rcases hz with hz | hz
 ·exact absurd hc hz
 ·exact c4 (.inr ⟨rfl, hz⟩)
theorem A9a {b : Aa} (h : Aw b) {s : Ai} (hs : Bw s) : Ok (qT s b) λ y => Bw y.2 := by
 have hbu := h.buses
 have hbl := h.brl
 have hso := h.sol
 have hco := h.col
 unfold qT
 refine (Ht hs 1 9 (by omega) (by omega) (by omega)).bind λ y hy => ?_
 refine Ok.andThen (A := λ _ => True) (B := λ (_ : Unit) => False) ?_ (λ z _ => ?_) (λ _ h => h.elim)
 ·unfold Yy
  exact c3 (λ _ => cK trivial) (λ _ => cK trivial)
 refine c3 (λ _ => ?_) (λ _ => ?_)
 ·exact (T3 hy.1 _ (by rw [Bb (by omega)]; omega)).bind λ u hu => c4 hu.1
 refine Ok.andThen (A := λ _ => True) (B := λ (_ : Unit) => False) ?_ (λ z _ => ?_) (λ _ h => h.elim)
 ·unfold Yx
  exact c3 (λ _ => cK trivial) (λ _ => cK trivial)
 refine c3 (λ _ => ?_) (λ _ => c3 (λ _ => ?_) (λ _ => c3 (λ _ => ?_) (λ _ => c3 (λ _ => ?_) (λ _ => c3 (λ _ => ?_) (λ _ => c4 hy.1)))))
 ·exact (T3 hy.1 _ (by rw [Bb (by omega)]; omega)).bind λ u hu => c4 hu.1
 ·exact (T3 hy.1 _ (by rw [Bb (by omega)]; omega)).bind λ u hu => (D6 hu.1 _ (by simp) (by simp)).bind λ v hv => c4 hv.1
 ·exact (T3 hy.1 _ (by rw [Bb (by omega)]; omega)).bind λ u hu => (T3 hu.1 _ (by rw [Bb (by omega)]; omega)).bind λ v hv => c4 hv.1
 ·exact (Ht hy.1 1 4 (by omega) (by omega) (by omega)).bind λ u hu => (T3 hu.1 _ (by omega)).bind λ v hv => c4 hv.1
 ·exact (Ht hy.1 1 4 (by omega) (by omega) (by omega)).bind λ u hu => (T3 hu.1 _ (by omega)).bind λ v hv => c4 hv.1
abbrev Dm := List (Aj × Bool)
def Tie (L : Dm) (i j : Nat) : Prop := ∃ z, z ∈ L /\ z.1.Kind = 1 /\ z.2 = true /\ ((z.1.A.toNat = i /\ z.1.B.toNat = j) \/ (z.1.A.toNat = j /\ z.1.B.toNat = i))
theorem Tie.symm {L : Dm} {i j : Nat} (h : Tie L i j) : Tie L j i := by
 obtain ⟨z, h1, h2, h3, h4⟩ := h
 exact ⟨z, h1, h2, h3, h4.symm⟩
inductive Dg (L : Dm) (i : Nat) : Nat -> Nat -> Prop
 | refl : Dg L i 0 i
 | stay {r j : Nat} : Dg L i r j -> Dg L i (r + 1) j
 | step {r j k : Nat} : Dg L i r j -> Tie L j k -> Dg L i (r + 1) k
def Gs (L : Dm) (i j : Nat) : Prop := ∃ r, Dg L i r j
theorem Gs.refl (L : Dm) (i : Nat) : Gs L i i := ⟨0, .refl⟩
theorem Gs.tie {L : Dm} {i j k : Nat} (h : Gs L i j) (t : Tie L j k) : Gs L i k := by
 obtain ⟨r, h⟩ := h; exact ⟨r + 1, h.step t⟩
theorem Gs.trans {L : Dm} {i j k : Nat} (h : Gs L i j) (h2 : Gs L j k) : Gs L i k := by
 obtain ⟨r, h2⟩ := h2
 induction h2 with
 | refl => exact h
 | stay _ ih => exact ih
 | step _ t ih => exact ih.tie t
theorem Gs.symm {L : Dm} {i j : Nat} (h : Gs L i j) : Gs L j i := by
 obtain ⟨r, h⟩ := h
 induction h with
 | refl => exact .refl L i
 | stay _ ih => exact ih
 | step _ t ih => exact (Gs.tie (.refl L _) t.symm).trans ih
theorem Dg.le {L : Dm} {i j r s : Nat} (h : Dg L i r j) (hs : r <= s) : Dg L i s j := by
 induction s with
 | zero =>
  have : r = 0 := by omega
  subst this; exact h
 | succ s ih =>
  by_cases e : r = s + 1
  ·subst e; exact h
  ·exact (ih (by omega)).stay
open Classical in
noncomputable def cn (p : Nat -> Prop) : Nat -> Nat
 | 0 => 0
 | n + 1 => cn p n + if p n then 1 else 0
theorem A2c (p : Nat -> Prop) : ∀ n, cn p n <= n
 | 0 => ao _
 | n + 1 => by have := A2c p n; unfold cn; split <;> omega
theorem yR {p q : Nat -> Prop} : ∀ n, (∀ k, k < n -> p k -> q k) -> cn p n <= cn q n
 | 0, _ => ao _
 | n + 1, h => by
  have := yR n λ k hk => h k (by omega)
  have h1 := h n (by omega)
  unfold cn
  by_cases hp : p n
  ·rw [if_pos hp, if_pos (h1 hp)]; omega
  ·rw [if_neg hp]; split <;> omega
theorem Arc {p q : Nat -> Prop} : ∀ n, (∀ k, k < n -> p k -> q k) -> cn p n = cn q n -> ∀ k, k < n -> q k -> p k
 | 0, _, _, k, hk, _ => by omega
 | n + 1, h, e, k, hk, hq => by
  have hm := yR n λ k hk => h k (by omega)
  have h1 := h n (by omega)
  unfold cn at e
  by_cases hp : p n
  ·rw [if_pos hp, if_pos (h1 hp)] at e
   by_cases ek : k = n
   ·subst ek; exact hp
   ·exact Arc n (λ k hk => h k (by omega)) (by omega) k (by omega) hq
  ·rw [if_neg hp] at e
   by_cases hqn : q n
   ·rw [if_pos hqn] at e; omega
   ·rw [if_neg hqn] at e
    by_cases ek : k = n
    ·subst ek; exact absurd hq hqn
    ·exact Arc n (λ k hk => h k (by omega)) (by omega) k (by omega) hq
def Aee (L : Dm) (n : Nat) : Prop := ∀ i j, Tie L i j -> i < n /\ j < n
theorem jR {L : Dm} {n i j : Nat} (hL : Aee L n) (_ : i < n) (h : Gs L i j) : Dg L i n j := by
 have hst : ∃ r, r <= n /\ ∀ k, k < n -> Dg L i (r + 1) k -> Dg L i r k := by
  by_cases hex : ∃ r, r <= n /\ ∀ k, k < n -> Dg L i (r + 1) k -> Dg L i r k
  ·exact hex
  exfalso
  have hgrow : ∀ r, r <= n -> cn (Dg L i r) n < cn (Dg L i (r + 1)) n := by
   intro r hr
   have hm := yR (p := Dg L i r) (q := Dg L i (r + 1)) n λ k _ h => h.stay
   rcases Nat.lt_or_eq_of_le hm with h | h
   ·exact h
   ·exact absurd ⟨r, hr, Arc n (λ k _ h => h.stay) h⟩ hex
  have hge : ∀ r, r <= n + 1 -> r <= cn (Dg L i r) n := by
   intro r
   induction r with
   | zero => intro _; omega
   | succ r ih => intro hr; have := ih (by omega); have := hgrow r (by omega); omega
  have h1 := hge (n + 1) (ao _)
  have h2 := A2c (Dg L i (n + 1)) n
  omega
 obtain ⟨r, hr, hs⟩ := hst
 obtain ⟨s, h⟩ := h
 have key : ∀ s k, Dg L i s k -> Dg L i r k := by
  intro s k h
  induction h with
  | refl => exact Dg.refl.le (by omega)
  | stay _ ih => exact ih
  | step h0 t ih => exact hs _ (hL _ _ t).2 (ih.step t)
 exact (key s j h).le hr
def Cr (b : Aa) (p : Ab) : Dm := b.Ae.zip p.Ag
theorem uK {b : Aa} (h : Aw b) (p : Ab) : Aee (Cr b p) b.Aq.toNat := by
 rintro i j ⟨z, hz, hk, _, he⟩
 have := h.br z.1 (bS hz).1
 unfold Oi at this
 omega
theorem Az4 {s : List Int} {i : Nat} (h : i < s.length) : s[i]? = some (s.getD i 0) := by
 rw [af h]; simp [List.getD, List.getElem?_eq_getElem h]
theorem Td {s : List Int} {z : Aj × Bool} {i : Nat} (hi : i < s.length) : (Dt s z).getD i 0 = if (z.1.Kind = 1 /\ z.2 = true) /\ (i = z.1.A.toNat \/ i = z.1.B.toNat) then min (s.getD z.1.A.toNat 0) (s.getD z.1.B.toNat 0) else s.getD i 0 := by
 unfold Dt
 by_cases hk : z.1.Kind = 1 /\ z.2 = true
 ·rw [if_pos hk]
  by_cases hB : i = z.1.B.toNat
  ·rw [if_pos ⟨hk, .inr hB⟩]
   simp [List.getD, ← hB, hi]
  ·by_cases hA : i = z.1.A.toNat
   ·rw [if_pos ⟨hk, .inl hA⟩]
    have h1 : ¬ z.1.B.toNat = i := λ e => hB e.symm
    simp only [List.getD, aI h1]
    rw [← hA, bt hi]; rfl
   ·rw [if_neg (λ e => e.2.elim hA hB)]
    have h1 : ¬ z.1.B.toNat = i := λ e => hB e.symm
    have h2 : ¬ z.1.A.toNat = i := λ e => hA e.symm
    simp only [List.getD, aI h1, aI h2]
 ·rw [if_neg hk, if_neg (λ e => hk e.1)]
def Lab (L : Dm) (s : List Int) : Prop := ∀ i, i < s.length -> Gs L (s.getD i 0).toNat i
theorem Avs {L : Dm} {s : List Int} (h : Lab L s) {z : Aj × Bool} (hz : z ∈ L) (hr : z.1.Kind = 1 -> z.1.A.toNat < s.length /\ z.1.B.toNat < s.length) : Lab L (Dt s z) := by
 intro i hi
 rw [Eh] at hi
 rw [Td hi]
 split
 ·rename_i hc
  obtain ⟨⟨hk, hv⟩, hab⟩ := hc
  obtain ⟨ha, hb⟩ := hr hk
  have tAB : Tie L z.1.A.toNat z.1.B.toNat := ⟨z, hz, hk, hv, .inl ⟨rfl, rfl⟩⟩
  have c1 := h _ ha
  have c2 := h _ hb
  rcases Int.le_total (s.getD z.1.A.toNat 0) (s.getD z.1.B.toNat 0) with e | e
  ·rw [Int.min_eq_left e]
   rcases hab with rfl | rfl
   ·exact c1
   ·exact c1.tie tAB
  ·rw [Int.min_eq_right e]
   rcases hab with rfl | rfl
   ·exact c2.tie tAB.symm
   ·exact c2
 ·exact h i hi
theorem Qq {L : Dm} {n : Nat} : ∀ (l : Dm) (s : List Int), s.length = n -> (∀ z, z ∈ l -> z ∈ L /\ (z.1.Kind = 1 -> z.1.A.toNat < n /\ z.1.B.toNat < n)) -> Lab L s -> Lab L (Cp l s)
 | [], _, _, _, h => h
 | z :: l, s, hs, hz, h => Qq l (Dt s z) (by rw [Eh]; exact hs) (λ y hy => hz y (ai _ hy)) (Avs h (hz z ag).1 (by rw [hs]; exact (hz z ag).2))
theorem Te {s : List Int} (z : Aj × Bool) {i : Nat} (hi : i < s.length) : (Dt s z).getD i 0 <= s.getD i 0 := by
 rw [Td hi]
 split
 ·rename_i hc
  rcases hc.2 with rfl | rfl
  ·exact Int.min_le_left _ _
  ·exact Int.min_le_right _ _
 ·exact bv _
theorem Qr : ∀ (l : Dm) (s : List Int) {i : Nat}, i < s.length -> (Cp l s).getD i 0 <= s.getD i 0
 | [], _, _, _ => bv _
 | z :: l, s, i, hi => cd (Qr l (Dt s z) (by rw [Eh]; exact hi)) (Te z hi)
theorem jF : ∀ (l : Dm) (s : List Int) {z : Aj × Bool}, z ∈ l -> z.1.Kind = 1 -> z.2 = true -> z.1.A.toNat < s.length -> z.1.B.toNat < s.length -> ∀ i, i = z.1.A.toNat \/ i = z.1.B.toNat -> (Cp l s).getD i 0 <= min (s.getD z.1.A.toNat 0) (s.getD z.1.B.toNat 0)
 | [], _, _, h, _, _, _, _, _, _ => by cases h
 | y :: l, s, z, hz, hk, hv, ha, hb, i, hi => by
  show (Cp l (Dt s y)).getD i 0 <= _
  have hil : i < s.length := by rcases hi with rfl | rfl <;> assumption
  by_cases e : z = y
  ·subst e
   refine cd (Qr l _ (by rw [Eh]; exact hil)) ?_
   rw [Td hil, if_pos ⟨⟨hk, hv⟩, hi⟩]
   exact bv _
  ·have hz' : z ∈ l := by
    rcases ah.1 hz with h | h
    ·exact absurd h e
    ·exact h
   refine cd (jF l (Dt s y) hz' hk hv (by rw [Eh]; exact ha) (by rw [Eh]; exact hb) i hi) ?_
   have h1 := Te y ha
   have h2 := Te y hb
   omega
theorem Ko {n i : Nat} (h : i < n) : (Cs n).getD i 0 = (i : Int) := by
 simp [Cs, List.getD, List.getElem?_range h]
theorem Aqw {L : Dm} {n : Nat} (hL : Aee L n) : ∀ r i j, i < n -> j < n -> Dg L j r i -> ((List.range r).foldl (λ s _ => Cp L s) (Cs n)).getD i 0 <= (j : Int) := by
 intro r
 have hlen : ∀ r, ((List.range r).foldl (λ s _ => Cp L s) (Cs n)).length = n := by
  intro r
  induction r with
  | zero => simp [Cs]
  | succ r ih => rw [bT, aM]; simp only [bl, List.foldl_nil, Fr]; exact ih
 induction r with
 | zero =>
  intro i j hi hj h
  cases h
  show (Cs n).getD i 0 <= _
  rw [Ko hi]
  exact bv _
 | succ r ih =>
  intro i j hi hj h
  have hrl := hlen r
  rw [bT, aM]
  simp only [bl, List.foldl_nil]
  generalize (List.range r).foldl (λ s _ => Cp L s) (Cs n) = s at *
  cases h with
  | stay h => exact cd (Qr L s (by omega)) (ih i j hi hj h)
  | step h t =>
   rename_i k
   have hk := hL _ _ t
   have h1 := ih k j hk.1 hj h
   obtain ⟨z, hz, hz1, hz2, he⟩ := t
   have hA : z.1.A.toNat < s.length := by omega
   have hB : z.1.B.toNat < s.length := by omega
   have h2 := jF L s hz hz1 hz2 hA hB i (by omega)
   rcases he with ⟨e1, e2⟩ | ⟨e1, e2⟩
   ·rw [e1] at h2; omega
   ·rw [e2] at h2; omega
theorem Qp {b : Aa} (h : Aw b) (p : Ab) {i j : Nat} (hi : i < b.Aq.toNat) (hj : j < b.Aq.toNat) : (groups b p).getD i 0 = (groups b p).getD j 0 ↔ Gs (Cr b p) i j := by
 have hL := uK h p
 have hlen := Gw b p
 have hlab : Lab (Cr b p) (groups b p) := by
  have hz : ∀ z, z ∈ Cr b p -> z ∈ Cr b p /\ (z.1.Kind = 1 -> z.1.A.toNat < b.Aq.toNat /\ z.1.B.toNat < b.Aq.toNat) := by
   intro z hz
   refine ⟨hz, λ hk => ?_⟩
   have := h.br z.1 (bS hz).1
   unfold Oi at this
   omega
  have key : ∀ (xs : List Nat) (s : List Int), s.length = b.Aq.toNat -> Lab (Cr b p) s -> Lab (Cr b p) (xs.foldl (λ s _ => Cp (b.Ae.zip p.Ag) s) s) := by
   intro xs
   induction xs with
   | nil => intro s _ h; exact h
   | cons x xs ih => intro s hl h; exact ih _ (by rw [Fr]; exact hl) (Qq _ s hl hz h)
  refine key _ _ (by simp [Cs]) ?_
  intro k hk
  have hk' : k < b.Aq.toNat := by simpa [Cs] using hk
  rw [Ko hk']
  exact .refl _ k
 have hlow : ∀ i j, i < b.Aq.toNat -> j < b.Aq.toNat -> Gs (Cr b p) j i -> (groups b p).getD i 0 <= (j : Int) := λ i j hi hj hc => Aqw hL _ i j hi hj (jR hL hj hc)
 have hlo := Nm h p
 have hrange : ∀ i, i < b.Aq.toNat -> 0 <= (groups b p).getD i 0 /\ ((groups b p).getD i 0).toNat < b.Aq.toNat := by
  intro i hi
  have := hlo i _ (Az4 (by omega))
  omega
 constructor
 ·intro e
  have c1 := hlab i (by omega)
  have c2 := hlab j (by omega)
  rw [e] at c1
  exact c1.symm.trans c2
 ·intro hc
  have r1 := hrange i hi
  have r2 := hrange j hj
  have c1 := hlab i (by omega)
  have c2 := hlab j (by omega)
  have l1 := hlow j _ hj r1.2 (c1.trans hc)
  have l2 := hlow i _ hi r2.2 (c2.trans hc.symm)
  omega
def F2 (s : List Bool) (z : Aj × Bool) : List Bool :=
 if (z.1.Kind = 1 /\ z.2 = true) /\ (s.getD z.1.A.toNat false || s.getD z.1.B.toNat false) = true then (s.set z.1.A.toNat true).set z.1.B.toNat true else s
theorem Fb (s : List Bool) (z : Aj × Bool) : (F2 s z).length = s.length := by unfold F2; split <;> simp
def Gt (L : Dm) (s : List Bool) : List Bool := L.foldl F2 s
theorem K1 : ∀ (l : Dm) (s : List Bool), (Gt l s).length = s.length
 | [], _ => rfl
 | z :: l, s => by show (Gt l (F2 s z)).length = _; rw [K1 l, Fb]
theorem Ay6 {s : List Bool} {m i : Nat} (hi : i < s.length) : (s.set m true).getD i false = (decide (m = i) || s.getD i false) := by
 by_cases e : m = i
 ·subst e; simp [List.getD, hi]
 ·simp [List.getD, List.getElem?_set_ne e, e]
theorem Km {s : List Bool} {z : Aj × Bool} {i : Nat} (hi : i < s.length) : (F2 s z).getD i false = true ↔ s.getD i false = true \/ (((z.1.Kind = 1 /\ z.2 = true) /\ (s.getD z.1.A.toNat false || s.getD z.1.B.toNat false) = true) /\ (i = z.1.A.toNat \/ i = z.1.B.toNat)) := by
 unfold F2
 split
 ·rename_i hc
  rw [Ay6 (by simpa using hi), Ay6 hi, aH, aH, decide_eq_true_iff, decide_eq_true_iff]
  constructor
  ·rintro (e | e | e)
   ·exact .inr ⟨hc, .inr e.symm⟩
   ·exact .inr ⟨hc, .inl e.symm⟩
   ·exact .inl e
  ·rintro (e | ⟨_, e | e⟩)
   ·exact .inr (.inr e)
   ·exact .inr (.inl e.symm)
   ·exact .inl e.symm
 ·rename_i hc
  exact ⟨.inl, λ e => e.elim id λ e => absurd e.1 hc⟩
def Got (L : Dm) (n : Nat) (s : List Bool) : Prop := ∀ i, i < s.length -> s.getD i false = true -> Gs L n i
theorem Au3 {L : Dm} {n : Nat} {s : List Bool} (h : Got L n s) {z : Aj × Bool} (hz : z ∈ L) (hr : z.1.Kind = 1 -> z.1.A.toNat < s.length /\ z.1.B.toNat < s.length) : Got L n (F2 s z) := by
 intro i hi e
 rw [Fb] at hi
 rcases (Km hi).1 e with e | ⟨⟨⟨hk, hv⟩, ho⟩, hab⟩
 ·exact h i hi e
 ·obtain ⟨ha, hb⟩ := hr hk
  have t : Tie L z.1.A.toNat z.1.B.toNat := ⟨z, hz, hk, hv, .inl ⟨rfl, rfl⟩⟩
  simp only [aH] at ho
  rcases ho with ho | ho
  ·have c := h _ ha ho
   rcases hab with rfl | rfl
   ·exact c
   ·exact c.tie t
  ·have c := h _ hb ho
   rcases hab with rfl | rfl
   ·exact c.tie t.symm
   ·exact c
theorem Zv {L : Dm} {n m : Nat} : ∀ (l : Dm) (s : List Bool), s.length = m -> (∀ z, z ∈ l -> z ∈ L /\ (z.1.Kind = 1 -> z.1.A.toNat < m /\ z.1.B.toNat < m)) -> Got L n s -> Got L n (Gt l s)
 | [], _, _, _, h => h
 | z :: l, s, hs, hz, h => Zv l (F2 s z) (by rw [Fb]; exact hs) (λ y hy => hz y (ai _ hy)) (Au3 h (hz z ag).1 (by rw [hs]; exact (hz z ag).2))
theorem P8 : ∀ (l : Dm) (s : List Bool) {i : Nat}, i < s.length -> s.getD i false = true -> (Gt l s).getD i false = true
 | [], _, _, _, h => h
 | z :: l, s, _, hi, h => P8 l (F2 s z) (by rw [Fb]; exact hi) ((Km hi).2 (.inl h))
theorem Zu : ∀ (l : Dm) (s : List Bool) {z : Aj × Bool}, z ∈ l -> z.1.Kind = 1 -> z.2 = true -> z.1.A.toNat < s.length -> z.1.B.toNat < s.length -> (s.getD z.1.A.toNat false || s.getD z.1.B.toNat false) = true -> ∀ i, i = z.1.A.toNat \/ i = z.1.B.toNat -> (Gt l s).getD i false = true
 | [], _, _, h, _, _, _, _, _, _, _ => by cases h
 | y :: l, s, z, hz, hk, hv, ha, hb, ho, i, hi => by
  show (Gt l (F2 s y)).getD i false = true
  have hil : i < s.length := by rcases hi with rfl | rfl <;> assumption
  by_cases e : z = y
  ·subst e
   exact P8 l _ (by rw [Fb]; exact hil) ((Km hil).2 (.inr ⟨⟨⟨hk, hv⟩, ho⟩, hi⟩))
  ·have hz' : z ∈ l := by
    rcases ah.1 hz with h | h
    ·exact absurd h e
    ·exact h
   refine Zu l (F2 s y) hz' hk hv (by rw [Fb]; exact ha) (by rw [Fb]; exact hb) ?_ i hi
   simp only [aH] at ho ⊢
   exact ho.imp (λ e => (Km ha).2 (.inl e)) (λ e => (Km hb).2 (.inl e))
def Kn (L : Dm) (r : Nat) (s : List Bool) : List Bool := (List.range r).foldl (λ s _ => Gt L s) s
theorem Kc (L : Dm) (r : Nat) (s : List Bool) : Kn L (r + 1) s = Gt L (Kn L r s) := by
 unfold Kn; rw [bT, aM]; rfl
theorem Hx (L : Dm) (s : List Bool) : ∀ r, (Kn L r s).length = s.length
 | 0 => rfl
 | r + 1 => by rw [Kc, K1, Hx L s r]
theorem Ap7 {L : Dm} {n m : Nat} (hL : Aee L m) {s : List Bool} (hs : s.length = m) (hn : s.getD n false = true) : ∀ r i, i < m -> Dg L n r i -> (Kn L r s).getD i false = true := by
 intro r
 induction r with
 | zero => intro i _ h; cases h; exact hn
 | succ r ih =>
  intro i hi h
  rw [Kc]
  have hl := Hx L s r
  cases h with
  | stay h => exact P8 L _ (by omega) (ih i hi h)
  | step h t =>
   rename_i k
   have hk := hL _ _ t
   have h1 := ih k hk.1 h
   obtain ⟨z, hz, hz1, hz2, he⟩ := t
   refine Zu L _ hz hz1 hz2 (by omega) (by omega) ?_ i (by omega)
   rcases he with ⟨e1, _⟩ | ⟨_, e2⟩
   ·rw [e1, h1]; rfl
   ·rw [e2, h1]; simp
def I_ (b : Aa) (p : Ab) (n : Nat) : List Int := ((List.range b.Aq.toNat).filter λ i => (groups b p).getD i 0 == (groups b p).getD n 0).map λ (i : Nat) => (i : Int)
theorem Ay9 {b : Aa} (h : Aw b) {p : Ab} (hp : As b p) {n : Nat} (hn : n < b.Aq.toNat) : Alt b p (n : Int) = some (I_ b p n) := by
 have hbu := h.buses
 have hbl := h.brl
 have hncl := hp.ncl
 have hL := uK h p
 refine cL ?_
 unfold Alt
 refine (Ok.mkI (by omega) (by omega)).bind λ y hy => ?_
 have hyl : y.length = b.Aq.toNat := by rw [hy]; simp
 refine (cN (by omega) (by omega)).bind λ _ _ => (cI (by omega) (by omega)).bind λ z hz => ?_
 rw [aE] at hz
 have hzl : z.length = b.Aq.toNat := by rw [hz]; simpa using hyl
 have hzn : z.getD n false = true := by rw [hz]; simp [List.getD, hyl, hn]
 have hzg : Got (Cr b p) n z := by
  intro i hi e
  have hiy : i < y.length := by omega
  rw [hz, Ay6 hiy] at e
  simp only [aH, da] at e
  rcases e with e | e
  ·subst e; exact .refl _ _
  ·rw [hy] at e; simp [List.getD, show i < b.Aq.toNat by omega] at e
 clear hz
 refine Ok.andThen (A := λ s => s = Kn (Cr b p) b.Aq.toNat z) (B := λ (_ : Unit) => False) ?_ (λ s hs => ?_) (λ _ h => h.elim)
 ·refine c6 (I := λ j s => s = Kn (Cr b p) j z) rfl (λ j x s hx hs => ?_) λ s hs => by rw [hs, hzl]
  unfold Aah
  have hsl : s.length = b.Aq.toNat := by rw [hs, Hx, hzl]
  refine (c6 (I := λ k r => r = Gt ((Cr b p).take k) s) (A := λ r => r = Gt (Cr b p) s) (B := λ (_ : Unit) => False) rfl (λ k u r hu hr => ?_) λ r hr => ?_).inner (λ r hr => c5 (by rw [hr, hs, Kc])) (λ _ h => h.elim)
  ·have hk := (aa.1 hu).1
   have hcnt : cnt 0 k = (k : Int) := C_ (by omega)
   have hrl : r.length = b.Aq.toNat := by rw [hr, K1, hsl]
   obtain ⟨⟨a0, a1⟩, hkind⟩ := h.br u (ae hu)
   obtain ⟨v, hv⟩ : ∃ v, p.Ag[k]? = some v := ⟨_, af (by omega)⟩
   have hzk : (Cr b p)[k]? = some (u, v) := by unfold Cr; rw [List.getElem?_zip_eq_some]; exact ⟨hu, hv⟩
   have hnext : Gt ((Cr b p).take (k + 1)) s = F2 r (u, v) := by
    rw [Bi hzk, Gt, aM, hr]; rfl
   rw [hnext]
   have hB : u.Kind = 1 -> 0 <= u.B /\ u.B < b.Aq := λ e => by omega
   unfold Aag
   rw [hcnt, Bm hv]
   by_cases k1 : u.Kind = 1
   ·have h2 := hB k1
    obtain ⟨ga, hga⟩ : ∃ ga, r[u.A.toNat]? = some ga := ⟨_, af (by omega)⟩
    obtain ⟨gb, hgb⟩ : ∃ gb, r[u.B.toNat]? = some gb := ⟨_, af (by omega)⟩
    have hda : r.getD u.A.toNat false = ga := by simp [List.getD, hga]
    have hdb : r.getD u.B.toNat false = gb := by simp [List.getD, hgb]
    have ea : getI r u.A = some ga := by have := Bm hga; rwa [bC a0] at this
    have eb : getI r u.B = some gb := by have := Bm hgb; rwa [bC h2.1] at this
    rw [de.2 k1]
    refine Ok.bind (P := λ w => w = v) (cF (λ _ => c4 rfl) λ hn => (hn ⟨rfl, trivial⟩).elim) λ w hw => ?_
    subst hw
    cases w with
    | false =>
     refine Ok.bind (P := λ _ => True) (cQ (λ _ => cN a0 (by omega)) λ _ => trivial) λ _ _ => ?_
     refine Ok.bind (P := λ _ => True) (cQ (λ _ => cN h2.1 (by omega)) λ _ => trivial) λ _ _ => ?_
     refine c3 (λ hq => by simp [Tu] at hq) (λ _ => c5 ?_)
     unfold F2
     rw [if_neg (by simp)]
    | true =>
     rw [ea, eb]
     refine Ok.bind (P := λ w => w = ga) (cF (λ _ => c4 rfl) λ hn => (hn ⟨rfl, trivial⟩).elim) λ w hw => ?_
     subst hw
     refine Ok.bind (P := λ x => (w || x) = (w || gb)) (cF (λ _ => c4 rfl) λ hn => ?_) λ x hx => ?_
     ·cases w with
      | true => rfl
      | false => exact (hn ⟨rfl, rfl, trivial⟩).elim
     have hc8 : Tu u true w x = (w || gb) := by
      unfold Tu
      rw [hx, de.2 k1]; rfl
     rw [hc8]
     refine c3 (λ hq => ?_) (λ hq => c5 ?_)
     ·refine Ok.bind (P := λ _ => True) (cV rfl) λ _ _ => (cI a0 (by omega)).bind λ r1 e1 => ?_
      refine (cN h2.1 (by rw [e1]; simp; omega)).bind λ _ _ => (cI h2.1 (by rw [e1]; simp; omega)).bind λ r2 e2 => c5 ?_
      rw [e2, e1]
      unfold F2
      rw [if_pos ⟨⟨k1, rfl⟩, by rw [hda, hdb]; exact hq⟩]
     ·unfold F2
      rw [if_neg (λ e => by have := e.2; rw [hda, hdb, hq] at this; cases this)]
   ·have k0 : (u.Kind == 1) = false := dg.2 k1
    rw [k0]
    refine Ok.bind (P := λ _ => True) (cF (λ hg => absurd hg.1 (by simp)) λ _ => trivial) λ y7 _ => ?_
    refine Ok.bind (P := λ _ => True) (cF (λ hg => absurd hg.1 (by simp)) λ _ => trivial) λ y9 _ => ?_
    refine Ok.bind (P := λ _ => True) (cF (λ hg => absurd hg.1 (by simp)) λ _ => trivial) λ y11 _ => ?_
    refine c3 (λ hq => by simp [Tu, k0] at hq) (λ _ => c5 ?_)
    unfold F2
    rw [if_neg (λ e => k1 e.1.1)]
  ·have : b.Ae.length = (Cr b p).length := by unfold Cr; rw [List.length_zip]; omega
   rw [hr, this, ax]
 ·have hsl : s.length = b.Aq.toNat := by rw [hs, Hx, hzl]
  have hval : ∀ i, i < b.Aq.toNat -> s.getD i false = ((groups b p).getD i 0 == (groups b p).getD n 0) := by
   intro i hi
   rw [bp, de, Qp h p hi hn]
   have hg : ∀ r, Got (Cr b p) n (Kn (Cr b p) r z) := by
    intro r
    induction r with
    | zero => exact hzg
    | succ r ih =>
     rw [Kc]
     refine Zv (m := b.Aq.toNat) _ _ (by rw [Hx, hzl]) (λ y hy => ⟨hy, λ hk => ?_⟩) ih
     have := h.br y.1 (bS hy).1
     unfold Oi at this
     omega
   constructor
   ·intro e
    rw [hs] at e
    exact (hg _ i (by rw [Hx, hzl]; exact hi) e).symm
   ·intro c
    rw [hs]
    exact Ap7 hL hzl hzn _ i hi (jR hL hn c.symm)
  refine Ok.andThen (A := λ y => y = I_ b p n) (B := λ (_ : Unit) => False) ?_ (λ y hy => c4 hy) (λ _ h => h.elim)
  refine c6 (I := λ j y => y = ((List.range j).filter λ i => (groups b p).getD i 0 == (groups b p).getD n 0).map λ (i : Nat) => (i : Int)) rfl (λ j x y hx hy => ?_) λ y hy => ?_
  ·have hj := (aa.1 hx).1
   have hcnt : cnt 0 j = (j : Int) := C_ (by omega)
   have hv := hval j (by omega)
   have hxd : s.getD j false = x := by simp [List.getD, hx]
   rw [hxd] at hv
   have hyl2 : y.length <= j := by rw [hy]; exact Dk _ j
   rw [Fu, ← hy]
   unfold Aaf
   refine c3 (λ hq => ?_) (λ hq => c5 ?_)
   ·refine (c9 (by simp; omega)).bind λ w hw => c5 ?_
    rw [hw, hcnt, if_pos (by rw [← hv]; exact hq)]
   ·rw [if_neg (by rw [← hv, hq]; simp), aN]
  ·rw [hy, hsl]; rfl
def ofZ (b : Aa) (k i : Int) : List (Aj × Nat) := b.Ae.zipIdx.filter λ z => z.1.Kind == k && z.1.B == i
theorem Aqf {b : Aa} {k : Int} (hk : k ≠ 1) (i : Int) : (ofL b λ x => Li k i x) = (ofZ b k i).map λ z => (z.2 : Int) := by
 unfold ofL ofZ
 congr 1
 exact cr λ z _ => Aza k hk i z.1
theorem Ow {b : Aa} {k i : Int} {z : Aj × Nat} (h : z ∈ ofZ b k i) : b.Ae[z.2]? = some z.1 := by
 have := (an.1 h).1
 rwa [cy] at this
theorem Aex (q : Aj -> Bool) (C : List Bool) : ∀ (l : List Aj) (c : List Bool) (k : Nat), C.drop k = c -> l.length = c.length ->
  (((l.zipIdx k).filter λ z => q z.1).find? λ z => C.getD z.2 false).map (·.1) = ((l.zip c).find? λ z => q z.1 && z.2).map (·.1)
 | [], _, _, _, _ => by simp
 | x :: l, [], _, _, h => by simp at h
 | x :: l, v :: c, k, hd, h => by
  have hv : C[k]? = some v := by
   have := congrArg (·[0]?) hd
   simpa [List.getElem?_drop] using this
  have hd' : C.drop (k + 1) = c := by rw [← bF, hd]; rfl
  have ih := Aex q C l c (k + 1) hd' (by simpa using h)
  have hg : C.getD k false = v := by simp [List.getD, hv]
  simp only [List.zipIdx_cons, bf, bo, b9]
  cases hq : q x with
  | false => simpa only [Bool.false_and, bK, if_false] using ih
  | true =>
   simp only [if_true, b9, hg, aZ]
   cases v with
   | false => exact ih
   | true => rfl
theorem S9 {b : Aa} {p : Ab} (hc : p.Ag.length = b.Ae.length) (k i : Int) : Dc b p k i = ((ofZ b k i).find? λ z => p.Ag.getD z.2 false).map (·.1.A) := by
 have := Aex (λ x => x.Kind == k && x.B == i) p.Ag b.Ae p.Ag 0 rfl (by omega)
 unfold Dc ofZ
 have h2 := congrArg (Option.map (·.A)) this
 simp only [Option.map_map] at h2
 exact h2.symm
theorem jT {b : Aa} {p : Ab} (hc : p.Ag.length = b.Ae.length) {k i : Int} {z : Aj × Nat} (h : z ∈ ofZ b k i) : p.Ag[z.2]? = some (p.Ag.getD z.2 false) := by
 have := (aa.1 (Ow h)).1
 rw [af (by omega)]
 simp [List.getD, List.getElem?_eq_getElem (show z.2 < p.Ag.length by omega)]
theorem Pe {b : Aa} (h : Aw b) {p : Ab} (hp : As b p) (i : Int) : F27 b p i = some (Et (Ev b p i)) := by
 have hn := hp.nso
 have hc := hp.ncl
 refine cL ?_
 unfold F27
 rw [Ir h hp]
 simp only [ab]
 by_cases hi : 0 <= i /\ i < b.Ac.length
 ·obtain ⟨x, hx⟩ : ∃ x, p.Ac[i.toNat]? = some x := ⟨_, af (by omega)⟩
  have hg : getI p.Ac i = some x := by have := Bm hx; rwa [bC hi.1] at this
  have hd : p.Ac.getD i.toNat default = x := by simp [List.getD, hx]
  have hcond : ((((0 : Int) != 0) || (decide (i < 0))) || (decide (i >= (b.Ac.length : Int)))) = false := by
   rw [cw]; intro e; simp at e; omega
  rw [hcond, hg]
  refine Ok.bind (P := λ y => y = x) (cF (λ _ => c4 rfl) λ hn => (hn ⟨rfl, trivial⟩).elim) λ y hy => ?_
  subst hy
  refine c3 (λ hq => c4 ?_) (λ hq => ?_)
  ·simp only [Aed, hcond, aS, bne_iff_ne, ne_eq] at hq
   unfold Ev
   rw [if_neg (λ e => by rw [hd] at e; exact hq e.2.2)]; rfl
  ·simp only [Aed, hcond, aS, dj] at hq
   have hcon : Ev b p i = Dc b p 2 i := by
    unfold Ev
    rw [if_pos ⟨hi.1, by omega, by rw [hd]; exact hq⟩]
   rw [Agm h, Aqf (by decide), hcon, S9 hc]
   simp only [ab]
   obtain ⟨n, rfl⟩ : ∃ n : Nat, i = (n : Int) := ⟨i.toNat, by omega⟩
   have hlen := vR (b := b) (k := 2) (by decide) n
   rw [Aqf (by decide), h.one n (by omega), aA] at hlen
   obtain ⟨z, hz⟩ := List.length_eq_one_iff.1 hlen
   have hzm : z ∈ ofZ b 2 (n : Int) := by rw [hz]; exact ag
   have hcz := jT hc hzm
   have hbz := Ow hzm
   rw [hz]
   show Ok ((getI [(z.2 : Int)] 0).bind _) _
   rw [show getI [(z.2 : Int)] 0 = some (z.2 : Int) from rfl]
   simp only [ab, Bm hcz, b9, List.find?_nil]
   cases hv : p.Ag.getD z.2 false with
   | false => exact c4 rfl
   | true =>
    simp only [be, cond_false, Bm hbz, ab]
    exact c4 rfl
 ·refine Ok.bind (P := λ _ => True) (cF (λ hg => ?_) λ _ => trivial) λ y _ => ?_
  ·have := hg.1
   simp at this; omega
  refine c3 (λ hq => c4 ?_) (λ hq => ?_)
  ·unfold Ev
   rw [if_neg (λ e => hi (by omega))]; rfl
  ·simp [Aed] at hq; omega
theorem Ahl {b : Aa} (h : Aw b) {p : Ab} (hp : As b p) {i : Int} (h0 : 0 <= i) (h1 : i < b.Ad.length) : F48 b p i = some (Et (Dc b p 3 i)) := by
 have hc := hp.ncl
 refine cL ?_
 unfold F48
 rw [Ir h hp]
 simp only [ab]
 refine c3 (λ hq => ?_) (λ _ => ?_)
 ·simp [A2s] at hq; omega
 rw [Agm h, Aqf (by decide), S9 hc]
 simp only [ab]
 have key : ∀ (m : List (Aj × Nat)) (k : Nat), (∀ z, z ∈ m -> b.Ae[z.2]? = some z.1 /\ p.Ag[z.2]? = some (p.Ag.getD z.2 false)) ->
   foldI (qS b p) (m.map λ z => (z.2 : Int)) k () = match m.find? λ z => p.Ag.getD z.2 false with
    | some z => some (.ret (z.1.A, true))
    | none => some (.next ()) := by
  intro m
  induction m with
  | nil => intro k _; rfl
  | cons z m ih =>
   intro k hm
   obtain ⟨e1, e2⟩ := hm z ag
   simp only [bu, foldI, qS, Bm e1, Bm e2, ab, b9]
   cases p.Ag.getD z.2 false with
   | true => rfl
   | false => exact ih (k + 1) λ y hy => hm y (ai _ hy)
 rw [key _ 0 λ z hz => ⟨Ow hz, jT hc hz⟩]
 cases (ofZ b 3 i).find? λ z => p.Ag.getD z.2 false with
 | none => exact c4 rfl
 | some z => exact c4 rfl
theorem Ag9 (l : List Int) (x : Int) : F55 l x = some (l.any (· == x)) := by
 unfold F55
 have : ∀ (l : List Int) (k : Nat), foldI (qQ x) l k () = bif l.any (· == x) then some (.ret true) else some (.next ()) := by
  intro l
  induction l with
  | nil => intro k; rfl
  | cons y l ih =>
   intro k
   simp only [foldI, qQ, List.any_cons]
   cases hy : (y == x) with
   | true => rfl
   | false => simp only [cond_false, aS]; exact ih (k + 1)
 rw [this]
 cases l.any (· == x) <;> rfl
theorem Af0 {b : Aa} {p : Ab} {n : Nat} {a : Int} (h0 : 0 <= a) (h1 : a < b.Aq) : (I_ b p n).any (· == a) = ((groups b p).getD a.toNat 0 == (groups b p).getD n 0) := by
 rw [bp, bI]
 constructor
 ·rintro ⟨x, hx, e⟩
  rw [de] at e; subst e
  obtain ⟨i, hi, rfl⟩ := al.1 hx
  rw [aE]
  exact (an.1 hi).2
 ·intro e
  refine ⟨a, al.2 ⟨a.toNat, an.2 ⟨aK.2 (by omega), e⟩, by omega⟩, by simp⟩
theorem Hp {b : Aa} (h : Aw b) (p : Ab) {n : Nat} (hn : n < b.Aq.toNat) : 0 <= (groups b p).getD n 0 /\ ((groups b p).getD n 0).toNat <= n /\ (((groups b p).getD n 0).toNat : Int) = (groups b p).getD n 0 := by
 have := Nm h p n _ (Az4 (by rw [Gw]; exact hn))
 omega
theorem Vk {b : Aa} (h : Aw b) {p : Ab} (hp : As b p) {n : Nat} (hn : n < b.Aq.toNat) : F54 b p (n : Int) = some (isl b p ((groups b p).getD n 0).toNat, true) := by
 have hso := h.sol
 have hco := h.col
 have hg := Hp h p hn
 refine cL ?_
 unfold F54
 rw [Ir h hp]
 simp only [ab]
 refine c3 (λ hc => ?_) (λ _ => ?_)
 ·simp [A2m] at hc; omega
 rw [Ay9 h hp hn]
 simp only [ab]
 refine Ok.andThen (A := λ s => s.2 = Eb b p b.Ac.length ((groups b p).getD n 0).toNat) (B := λ (_ : Unit) => False) ?_ (λ s hs => ?_) (λ _ h => h.elim)
 ·refine c7 (λ s => (0 <= s.1 /\ s.1 <= (b.Ac.length : Int)) /\ s.2 = Eb b p s.1.toNat ((groups b p).getD n 0).toNat) (λ s => ((b.Ac.length : Int) - s.1).toNat) _ _ ?_ ?_ ?_
  ·exact ⟨by dsimp only; omega, rfl⟩
  ·dsimp only; omega
  ·rintro ⟨i, s⟩ ⟨⟨g1, g2⟩, g3⟩
   dsimp only at g1 g2 g3
   unfold Akb A2l
   dsimp only
   have hsl : s.length <= i.toNat := by rw [g3]; exact Dk _ _
   refine c3 (λ hq => ?_) (λ hq => cJ ?_)
   ·simp only [da] at hq
    have e1 : w64 (i + 1) = i + 1 := Bb (by omega)
    have e2 : (i + 1).toNat = i.toNat + 1 := by omega
    have e3 : ((i.toNat : Nat) : Int) = i := by omega
    rw [e1, Pe h hp]
    simp only [ab, Ag9]
    have hnext : Eb b p (i.toNat + 1) ((groups b p).getD n 0).toNat = s ++ if (Ea b p (Ev b p i) == some (((groups b p).getD n 0).toNat : Int)) = true then [i] else [] := by
     unfold Eb at g3 ⊢
     rw [Fu, ← g3, e3]
    have hskip : (Ea b p (Ev b p i) == some (((groups b p).getD n 0).toNat : Int)) = false -> Ok (some (.next (i + 1, s)) : Option (Ctl (Int × List Int) Unit)) (H_ (λ s' => ((0 <= s'.1 /\ s'.1 <= (b.Ac.length : Int)) /\ s'.2 = Eb b p s'.1.toNat ((groups b p).getD n 0).toNat) /\ ((b.Ac.length : Int) - s'.1).toNat < ((b.Ac.length : Int) - i).toNat) (λ s => s.2 = Eb b p b.Ac.length ((groups b p).getD n 0).toNat) (λ _ => False)) := by
     intro hf
     refine c5 ⟨⟨by dsimp only; omega, ?_⟩, by dsimp only; omega⟩
     dsimp only
     rw [e2, hnext, hf]; simp
    cases hco : Ev b p i with
    | none =>
     refine Ok.bind (P := λ _ => True) (cF (λ hg => absurd hg.1 (by simp [Et])) λ _ => trivial) λ y _ => ?_
     refine c3 (λ hq => by simp [Et] at hq) (λ _ => hskip (by rw [hco]; rfl))
    | some a =>
     have ha := X2 h hco
     refine Ok.bind (P := λ y => y = (I_ b p n).any (· == a)) (cF (λ _ => c4 rfl) λ hn => (hn ⟨rfl, trivial⟩).elim) λ y hy => ?_
     rw [Af0 ha.1 ha.2] at hy
     have hgr : (Ea b p (Ev b p i) == some (((groups b p).getD n 0).toNat : Int)) = ((groups b p).getD a.toNat 0 == (groups b p).getD n 0) := by
      rw [hco, hg.2.2]; rfl
     refine c3 (λ hq => ?_) (λ hq => ?_)
     ·simp only [Et, aZ] at hq
      refine (c9 (by simp; omega)).bind λ w hw => c5 ⟨⟨by dsimp only; omega, ?_⟩, by dsimp only; omega⟩
      dsimp only
      rw [e2, hnext, hgr, ← hy, hq, hw]; rfl
     ·simp only [Et, aZ] at hq
      exact hskip (by rw [hgr, ← hy, hq])
   ·simp only [db] at hq
    dsimp only
    rw [g3]
    have : i.toNat = b.Ac.length := by omega
    rw [this]
 ·refine Ok.andThen (A := λ s => s.2 = Fw b p b.Ad.length ((groups b p).getD n 0).toNat) (B := λ (_ : Unit) => False) ?_ (λ t ht => c4 ?_) (λ _ h => h.elim)
  ·refine c7 (λ s => (0 <= s.1 /\ s.1 <= (b.Ad.length : Int)) /\ s.2 = Fw b p s.1.toNat ((groups b p).getD n 0).toNat) (λ s => ((b.Ad.length : Int) - s.1).toNat) _ _ ?_ ?_ ?_
   ·exact ⟨by dsimp only; omega, rfl⟩
   ·dsimp only; omega
   ·rintro ⟨i, s⟩ ⟨⟨g1, g2⟩, g3⟩
    dsimp only at g1 g2 g3
    unfold Aka A2k
    dsimp only
    have hsl : s.length <= i.toNat := by rw [g3]; exact Dk _ _
    refine c3 (λ hq => ?_) (λ hq => cJ ?_)
    ·simp only [da] at hq
     have e1 : w64 (i + 1) = i + 1 := Bb (by omega)
     have e2 : (i + 1).toNat = i.toNat + 1 := by omega
     have e3 : ((i.toNat : Nat) : Int) = i := by omega
     rw [e1, Ahl h hp g1 hq]
     simp only [ab, Ag9]
     have hnext : Fw b p (i.toNat + 1) ((groups b p).getD n 0).toNat = s ++ if (Ea b p (Dc b p 3 i) == some (((groups b p).getD n 0).toNat : Int)) = true then [i] else [] := by
      unfold Fw at g3 ⊢
      rw [Fu, ← g3, e3]
     have hskip : (Ea b p (Dc b p 3 i) == some (((groups b p).getD n 0).toNat : Int)) = false -> Ok (some (.next (i + 1, s)) : Option (Ctl (Int × List Int) Unit)) (H_ (λ s' => ((0 <= s'.1 /\ s'.1 <= (b.Ad.length : Int)) /\ s'.2 = Fw b p s'.1.toNat ((groups b p).getD n 0).toNat) /\ ((b.Ad.length : Int) - s'.1).toNat < ((b.Ad.length : Int) - i).toNat) (λ s => s.2 = Fw b p b.Ad.length ((groups b p).getD n 0).toNat) (λ _ => False)) := by
      intro hf
      refine c5 ⟨⟨by dsimp only; omega, ?_⟩, by dsimp only; omega⟩
      dsimp only
      rw [e2, hnext, hf]; simp
     cases hco : Dc b p 3 i with
     | none =>
      refine Ok.bind (P := λ _ => True) (cF (λ hg => absurd hg.1 (by simp [Et])) λ _ => trivial) λ y _ => ?_
      refine c3 (λ hq => by simp [Et] at hq) (λ _ => hskip (by rw [hco]; rfl))
     | some a =>
      have ha := Xq h hco
      refine Ok.bind (P := λ y => y = (I_ b p n).any (· == a)) (cF (λ _ => c4 rfl) λ hn => (hn ⟨rfl, trivial⟩).elim) λ y hy => ?_
      rw [Af0 ha.1 ha.2] at hy
      have hgr : (Ea b p (Dc b p 3 i) == some (((groups b p).getD n 0).toNat : Int)) = ((groups b p).getD a.toNat 0 == (groups b p).getD n 0) := by
       rw [hco, hg.2.2]; rfl
      refine c3 (λ hq => ?_) (λ hq => ?_)
      ·simp only [Et, aZ] at hq
       refine (c9 (by simp; omega)).bind λ w hw => c5 ⟨⟨by dsimp only; omega, ?_⟩, by dsimp only; omega⟩
       dsimp only
       rw [e2, hnext, hgr, ← hy, hq, hw]; rfl
      ·simp only [Et, aZ] at hq
       exact hskip (by rw [hgr, ← hy, hq])
    ·simp only [db] at hq
     dsimp only
     rw [g3]
     have : i.toNat = b.Ad.length := by omega
     rw [this]
  ·rw [hs, ht]
   unfold isl Dr I_
   rw [hg.2.2]
def Hn (b : Aa) (p : Ab) (f : Nat) : Bool := (groups b p).getD f 0 == (f : Int)
theorem J4 {b : Aa} (h : Aw b) (p : Ab) {n : Nat} (hn : n < b.Aq.toNat) : Hn b p ((groups b p).getD n 0).toNat = true := by
 have hg := Hp h p hn
 unfold Hn
 rw [de, hg.2.2]
 have hm : ((groups b p).getD n 0).toNat < b.Aq.toNat := by omega
 have hL := uK h p
 have hself : Gs (Cr b p) ((groups b p).getD n 0).toNat n := by
  have hlab : ∀ (xs : List Nat) (s : List Int), s.length = b.Aq.toNat -> Lab (Cr b p) s -> Lab (Cr b p) (xs.foldl (λ s _ => Cp (b.Ae.zip p.Ag) s) s) := by
   intro xs
   induction xs with
   | nil => intro s _ h; exact h
   | cons x xs ih =>
    intro s hl h2
    refine ih _ (by rw [Fr]; exact hl) (Qq _ s hl (λ z hz => ⟨hz, λ hk => ?_⟩) h2)
    have := h.br z.1 (bS hz).1
    unfold Oi at this
    omega
  refine hlab (List.range b.Aq.toNat) (Cs b.Aq.toNat) (by simp [Cs]) ?_ n ?_
  ·intro k hk
   rw [Ko (by simpa [Cs] using hk)]
   exact .refl _ k
  ·have := Gw b p
   unfold groups at this
   rw [this]; exact hn
 exact (Qp h p hm hn).2 hself
theorem Az5 {b : Aa} (h : Aw b) (p : Ab) {f : Nat} (hf : f < b.Aq.toNat) : Ih (isl b p f) = Hn b p f := by
 rw [bp]
 unfold Ih isl Dr
 simp only [ba, dg, ne_eq, aA]
 constructor
 ·intro e
  have hne : (List.range b.Aq.toNat).filter (λ i => (groups b p).getD i 0 == (f : Int)) ≠ [] := λ e2 => e (by rw [e2]; rfl)
  obtain ⟨i, hi⟩ := List.exists_mem_of_ne_nil _ hne
  obtain ⟨h1, h2⟩ := an.1 hi
  rw [de] at h2
  have := J4 h p (aK.1 h1)
  rw [h2, aE] at this
  exact this
 ·intro e e2
  have hm : f ∈ (List.range b.Aq.toNat).filter (λ i => (groups b p).getD i 0 == (f : Int)) := an.2 ⟨aK.2 hf, e⟩
  have := List.length_pos_iff.2 (List.ne_nil_of_mem hm)
  omega
def Ke (b : Aa) (p : Ab) (n : Nat) : List Nat := (List.range n).filter (Hn b p)
theorem Gv {b : Aa} (h : Aw b) (p : Ab) : Bj b p = (Ke b p b.Aq.toNat).map (isl b p) := by
 unfold Bj Ke
 rw [List.filter_map]
 congr 1
 exact cr λ f hf => Az5 h p (aK.1 hf)
theorem Ats {b : Aa} (h : Aw b) (p : Ab) {n : Nat} (hn : n < b.Aq.toNat) : ∃ m : Nat, (I_ b p n)[0]? = some (m : Int) /\ (m = n ↔ Hn b p n = true) := by
 have hg := Hp h p hn
 have hm : ((groups b p).getD n 0).toNat < b.Aq.toNat := by omega
 have hgg := J4 h p hn
 unfold Hn at hgg
 rw [de, hg.2.2] at hgg
 have hfind : (List.range b.Aq.toNat).find? (λ i => (groups b p).getD i 0 == (groups b p).getD n 0) = some ((groups b p).getD n 0).toNat := by
  rw [List.find?_range_eq_some]
  refine ⟨by rw [de]; exact hgg, aK.2 hm, λ j hj => ?_⟩
  simp only [ba, dg, ne_eq]
  intro e
  have := Hp h p (n := j) (by omega)
  omega
 refine ⟨((groups b p).getD n 0).toNat, ?_, ?_⟩
 ·unfold I_
  rw [az, ← List.head?_eq_getElem?, List.head?_filter, hfind]; rfl
 ·unfold Hn
  rw [de]; omega
theorem Ji {b : Aa} (h : Aw b) {p : Ab} (hp : As b p) : F25 b p = some (Bj b p) := by
 have hbu := h.buses
 rw [Gv h]
 refine cL ?_
 unfold F25
 rw [Ir h hp]
 simp only [ab]
 refine c3 (λ hc => by simp at hc) (λ _ => ?_)
 refine Ok.andThen (A := λ s => s.2 = (Ke b p b.Aq.toNat).map (isl b p)) (B := λ (_ : Unit) => False) ?_ (λ s hs => c4 hs) (λ _ h => h.elim)
 refine c7 (λ s => (0 <= s.1 /\ s.1 <= b.Aq) /\ s.2 = (Ke b p s.1.toNat).map (isl b p)) (λ s => (b.Aq - s.1).toNat) _ _ ?_ ?_ ?_
 ·exact ⟨by dsimp only; omega, rfl⟩
 ·dsimp only; omega
 ·rintro ⟨i, s⟩ ⟨⟨g1, g2⟩, g3⟩
  dsimp only at g1 g2 g3
  unfold Ako
  dsimp only
  refine c3 (λ hq => ?_) (λ hq => cJ ?_)
  ·simp only [da] at hq
   obtain ⟨n, rfl⟩ : ∃ n : Nat, i = (n : Int) := ⟨i.toNat, by omega⟩
   have hn : n < b.Aq.toNat := by omega
   have e1 : w64 ((n : Int) + 1) = (n : Int) + 1 := Bb (by omega)
   have e2 : ((n : Int) + 1).toNat = n + 1 := by omega
   have hg := Hp h p hn
   obtain ⟨m, hm, hmn⟩ := Ats h p hn
   have hbuses : (isl b p ((groups b p).getD n 0).toNat).Aq = I_ b p n := by
    unfold isl Dr I_
    rw [hg.2.2]
   rw [aE] at g3
   have hsl : s.length <= n := by
    rw [g3, aA]
    exact ay (bk _ _) (by simp)
   have hnext : Ke b p (n + 1) = Ke b p n ++ if Hn b p n = true then [n] else [] := by
    unfold Ke
    rw [bT, aY]
    congr 1
    cases hq : Hn b p n <;> simp [hq]
   rw [e1, Vk h hp hn]
   simp only [ab, hbuses]
   have hg0 : getI (I_ b p n) 0 = some (m : Int) := Bm (j := 0) hm
   rw [hg0]
   simp only [ab]
   refine c3 (λ hq => ?_) (λ hq => c5 ⟨⟨by dsimp only; omega, ?_⟩, by dsimp only; omega⟩)
   ·simp only [de] at hq
    have hle := hmn.1 (by omega)
    refine (c9 (by simp; omega)).bind λ w hw => c5 ⟨⟨by dsimp only; omega, ?_⟩, by dsimp only; omega⟩
    dsimp only
    have hgn : ((groups b p).getD n 0).toNat = n := by
     unfold Hn at hle
     rw [de] at hle; omega
    rw [e2, hnext, if_pos hle, hw, g3, bB, hgn]; rfl
   ·simp only [dg, ne_eq] at hq
    have hle : ¬ Hn b p n = true := λ e => hq (by rw [hmn.2 e])
    dsimp only
    rw [e2, hnext, if_neg hle, aN, g3]
  ·simp only [db] at hq
   dsimp only
   have : i.toNat = b.Aq.toNat := by omega
   rw [g3, this]
theorem Ww {b : Aa} (h : Aw b) {p : Ab} (hp : As b p) : Y6 b p = some (⟨p.Ag, El b p, p.Ak, p.Ao⟩, 0) := by
 have hn := hp.nso
 refine cL ?_
 unfold Y6
 rw [Ir h hp]
 simp only [ab]
 refine c3 (λ hc => by simp at hc) (λ _ => ?_)
 refine Ok.bind (P := λ y => y = ⟨p.Ag, El b p, p.Ak, p.Ao⟩) ?_ λ y hy => c4 (by rw [hy])
 unfold Atd
 rw [yQ h hp, Ji h hp]
 simp only [ab]
 refine Ok.andThen (A := λ s => s = El b p) (B := λ (_ : Unit) => False) ?_ (λ s hs => c4 (by rw [hs])) (λ _ h => h.elim)
 refine c6 (I := λ j s => s = ((Bj b p).take j).foldl (C4 p) p.Ac) rfl (λ j x s hx hs => ?_) λ s hs => ?_
 ·have hi := O6 (ae hx)
  have hl : s.length = p.Ac.length := by rw [hs, Kf]
  have hnext : ((Bj b p).take (j + 1)).foldl (C4 p) p.Ac = C4 p s x := by rw [Bi hx, aM, ← hs]; rfl
  rw [hnext]
  unfold Aaa
  cases hsrc : x.Ac with
  | nil => exact c5 (by unfold C4; rw [hsrc])
  | cons m l =>
   have hm := hi m (by rw [hsrc]; exact ag)
   obtain ⟨u, hu⟩ : ∃ u, p.Ac[m.toNat]? = some u := ⟨_, af (by omega)⟩
   have hgu : getI p.Ac m = some u := by have := Bm hu; rwa [bC hm.1] at this
   have hd : p.Ac.getD m.toNat default = u := by simp [List.getD, hu]
   have hf : C4 p s x = Eo u (m :: l) s := by unfold C4; rw [hsrc]; simp only [hd]
   rw [hf]
   have hin : ∀ k, k ∈ m :: l -> 0 <= k /\ k < p.Ac.length := λ k hk => by
    have := hi k (by rw [hsrc]; exact hk)
    omega
   refine (c6 (I := λ k r => r = Eo u ((m :: l).take k) s) (A := λ r => r = Eo u (m :: l) s) (B := λ (_ : Unit) => False) rfl (λ k n r hk hr => ?_) λ r hr => by rw [hr, ax]).inner (λ r hr => c5 hr) (λ _ h => h.elim)
   have hnk := hin n (ae hk)
   have hrl : r.length = p.Ac.length := by rw [hr, G3, hl]
   unfold zZ
   rw [hsrc, show getI (m :: l) 0 = some m from rfl]
   simp only [ab, hgu]
   refine (c8 hnk.1 (by omega)).bind λ v hv => (cI hnk.1 (by omega)).bind λ r1 e1 => ?_
   have hvg : r1[n.toNat]? = some (⟨v.State, v.Since, u.Ar, v.Phase⟩ : Ah) := by rw [e1, bt (by omega)]
   refine Ok.bind (P := λ w => w = (⟨v.State, v.Since, u.Ar, v.Phase⟩ : Ah)) ((c8 hnk.1 (by rw [e1]; simp; omega)).mono λ w hw => by rw [hvg] at hw; cases hw; rfl) λ w hw => ?_
   refine (cI hnk.1 (by rw [e1]; simp; omega)).bind λ r2 e2 => c5 ?_
   have hdv : r.getD n.toNat default = v := by simp [List.getD, hv]
   rw [Aav hk, ← hr, hdv, e2, e1, hw, List.set_set]; rfl
 ·rw [ax] at hs; exact hs
theorem Ay5 {ss : List Ah} {n : Nat} (h : n < ss.length) : ss.set n (ss.getD n default) = ss := by
 apply bA
 intro i
 rw [au]
 split
 ·rename_i e; subst e
  simp [List.getD, List.getElem?_eq_getElem h]
 ·rfl
theorem Aaw {like : Ah} : ∀ (idx : List Int) (ss : List Ah), (∀ i, i ∈ idx -> i.toNat < ss.length /\ W7 like (ss.getD i.toNat default) = ss.getD i.toNat default) -> Eo like idx ss = ss
 | [], _, _ => rfl
 | i :: idx, ss, h => by
  obtain ⟨h1, h2⟩ := h i ag
  show Eo like idx (ss.set i.toNat (W7 like (ss.getD i.toNat default))) = ss
  rw [h2, Ay5 h1]
  exact Aaw idx ss λ j hj => h j (ai _ hj)
theorem Xu {ss : List Ah} {m n : Nat} {y : Ah} : (ss.set m y).getD n default = if m = n /\ m < ss.length then y else ss.getD n default := by
 unfold List.getD
 rw [au]
 by_cases e : m = n
 ·subst e
  by_cases hl : m < ss.length
  ·simp [hl]
  ·simp [hl]
 ·simp [e]
theorem Zr (like : Ah) : ∀ (idx : List Int) (ss : List Ah) (n : Nat), ((Eo like idx ss).getD n default).State = (ss.getD n default).State
 | [], _, _ => rfl
 | i :: idx, ss, n => by
  show ((Eo like idx _).getD n default).State = _
  rw [Zr like idx, Xu]
  split
  ·rename_i e; rw [← e.1]; rfl
  ·rfl
theorem Xc {like : Ah} : ∀ (idx : List Int) (ss : List Ah) {n : Nat}, (∀ i, i ∈ idx -> i.toNat ≠ n) -> (Eo like idx ss).getD n default = ss.getD n default
 | [], _, _, _ => rfl
 | i :: idx, ss, n, h => by
  show (Eo like idx _).getD n default = _
  rw [Xc idx _ (λ j hj => h j (ai _ hj)), Xu, if_neg (λ e => h i ag e.1)]
theorem Amt {like : Ah} : ∀ (idx : List Int) (ss : List Ah) {n : Nat}, n < ss.length -> (∃ i, i ∈ idx /\ i.toNat = n) -> ((Eo like idx ss).getD n default).Ar = like.Ar /\ ((Eo like idx ss).getD n default).Phase = like.Phase
 | [], _, _, _, h => by obtain ⟨_, h, _⟩ := h; cases h
 | i :: idx, ss, n, hn, h => by
  by_cases hr : ∃ j, j ∈ idx /\ j.toNat = n
  ·exact Amt idx _ (by simpa using hn) hr
  ·have hi : i.toNat = n := by
    obtain ⟨j, hj, e⟩ := h
    rcases ah.1 hj with rfl | hj
    ·exact e
    ·exact absurd ⟨j, hj, e⟩ hr
   have : (Eo like (i :: idx) ss).getD n default = W7 like (ss.getD i.toNat default) := by
    show (Eo like idx _).getD n default = _
    rw [Xc idx _ (λ j hj e => hr ⟨j, hj, e⟩), Xu, if_pos ⟨hi, by omega⟩]
   rw [this]; exact ⟨rfl, rfl⟩
def Alz (b : Aa) (p : Ab) : Prop := ∀ x, x ∈ Bj b p -> ∀ i j, i ∈ x.Ac -> j ∈ x.Ac ->
 (p.Ac.getD i.toNat default).Ar = (p.Ac.getD j.toNat default).Ar /\ (p.Ac.getD i.toNat default).Phase = (p.Ac.getD j.toNat default).Phase
theorem Ahe {b : Aa} {p : Ab} (hn : p.Ac.length = b.Ac.length) (h : Alz b p) : El b p = p.Ac := by
 have key : ∀ l : List Af, (∀ x, x ∈ l -> x ∈ Bj b p) -> l.foldl (C4 p) p.Ac = p.Ac := by
  intro l
  induction l with
  | nil => intro _; rfl
  | cons x l ih =>
   intro hl
   have hx := hl x ag
   have hst : C4 p p.Ac x = p.Ac := by
    unfold C4
    split
    ·rfl
    ·rename_i i r e
     refine Aaw _ _ λ j hj => ?_
     have hj2 := O6 hx j hj
     have ha := h x hx i j (by rw [e]; exact ag) hj
     refine ⟨by omega, ?_⟩
     unfold W7
     rw [ha.1, ha.2]
   rw [bl, hst]
   exact ih λ y hy => hl y (ai _ hy)
 exact key _ λ _ hx => hx
theorem Al7 (p : Ab) (s : List Ah) (x : Af) (n : Nat) : ((C4 p s x).getD n default).State = (s.getD n default).State := by
 unfold C4
 split
 ·rfl
 ·exact Zr _ _ _ _
theorem Adz (b : Aa) (p : Ab) (n : Nat) : ((El b p).getD n default).State = (p.Ac.getD n default).State := by
 have key : ∀ (l : List Af) (s : List Ah), ((l.foldl (C4 p) s).getD n default).State = (s.getD n default).State := by
  intro l
  induction l with
  | nil => intro s; rfl
  | cons x l ih => intro s; rw [bl, ih, Al7]
 exact key _ _
theorem Adw {b : Aa} {p q : Ab} (hc : q.Ag = p.Ag) (hl : q.Ac.length = p.Ac.length) (hs : ∀ n : Nat, (q.Ac.getD n default).State = (p.Ac.getD n default).State) : Bj b q = Bj b p := by
 have hled : ∀ k i, Dc b q k i = Dc b p k i := λ k i => by unfold Dc; rw [hc]
 have hgr : groups b q = groups b p := by unfold groups; rw [hc]
 have hcon : ∀ i, Ev b q i = Ev b p i := λ i => by unfold Ev; rw [hled, hl, hs]
 have hgo : ∀ o, Ea b q o = Ea b p o := λ o => by unfold Ea; rw [hgr]
 have hisl : isl b q = isl b p := by
  funext f
  unfold isl Dr Eb Fw
  simp only [hgr, hled, hcon, hgo]
 unfold Bj
 rw [hisl]
theorem Ve {b : Aa} {p : Ab} {f : Nat} {i : Int} : i ∈ (isl b p f).Ac ↔ ∃ k : Nat, i = (k : Int) /\ k < b.Ac.length /\ Ea b p (Ev b p (k : Int)) = some (f : Int) := by
 constructor
 ·intro h
  obtain ⟨k, hk, e⟩ := al.1 h
  obtain ⟨h1, h2⟩ := an.1 hk
  exact ⟨k, e.symm, aK.1 h1, by rwa [de] at h2⟩
 ·rintro ⟨k, e, h1, h2⟩
  exact al.2 ⟨k, an.2 ⟨aK.2 h1, by rw [de]; exact h2⟩, e.symm⟩
theorem Ay3 {b : Aa} {p : Ab} {f g : Nat} (hfg : f ≠ g) {i j : Int} (hi : i ∈ (isl b p f).Ac) (hj : j ∈ (isl b p g).Ac) : i.toNat ≠ j.toNat := by
 obtain ⟨k, rfl, _, e1⟩ := Ve.1 hi
 obtain ⟨m, rfl, _, e2⟩ := Ve.1 hj
 rw [aE, aE]
 intro e; subst e
 rw [e1] at e2
 have := cq e2
 exact hfg (by omega)
def Ad8 (b : Aa) (p : Ab) (f : Nat) : Ah := p.Ac.getD ((isl b p f).Ac.headD 0).toNat default
theorem Ahg {b : Aa} {p : Ab} {n : Nat} : ∀ (fs : List Nat) (s : List Ah), (∀ f, f ∈ fs -> ∀ i, i ∈ (isl b p f).Ac -> i.toNat ≠ n) -> ((fs.map (isl b p)).foldl (C4 p) s).getD n default = s.getD n default
 | [], _, _ => rfl
 | f :: fs, s, h => by
  rw [bu, bl, Ahg fs _ (λ g hg => h g (ai _ hg))]
  have hf := h f ag
  unfold C4
  split
  ·rfl
  ·exact Xc _ _ hf
theorem yI {b : Aa} {p : Ab} (hn : p.Ac.length = b.Ac.length) : ∀ (fs : List Nat) (s : List Ah), s.length = p.Ac.length -> fs.Nodup -> ∀ f, f ∈ fs -> ∀ i, i ∈ (isl b p f).Ac ->
  (((fs.map (isl b p)).foldl (C4 p) s).getD i.toNat default).Ar = (Ad8 b p f).Ar /\ (((fs.map (isl b p)).foldl (C4 p) s).getD i.toNat default).Phase = (Ad8 b p f).Phase
 | [], _, _, _, _, h, _, _ => by cases h
 | g :: fs, s, hs, hnd, f, hf, i, hi => by
  obtain ⟨h1, h2⟩ := List.nodup_cons.1 hnd
  rw [bu, bl]
  by_cases e : f = g
  ·subst e
   rw [Ahg fs _ (λ k hk j hj => Ay3 (λ e => h1 (by rw [← e]; exact hk)) hj hi)]
   obtain ⟨k, rfl, hk, _⟩ := Ve.1 hi
   unfold C4
   split
   ·rename_i e; rw [e] at hi; cases hi
   ·rename_i m r e
    have : Ad8 b p f = p.Ac.getD m.toNat default := by unfold Ad8; rw [e]; rfl
    rw [this]
    exact Amt _ _ (by rw [aE]; omega) ⟨_, hi, rfl⟩
  ·rcases ah.1 hf with h | hf
   ·exact absurd h e
   ·exact yI hn fs _ (by rw [Ml]; exact hs) h2 f hf i hi
theorem yG {b : Aa} (h : Aw b) {p : Ab} (hn : p.Ac.length = b.Ac.length) : Alz b ⟨p.Ag, El b p, p.Ak, p.Ao⟩ := by
 have hisl : Bj b ⟨p.Ag, El b p, p.Ak, p.Ao⟩ = Bj b p := Adw rfl (H5 b p) (Adz b p)
 intro x hx i j hi hj
 rw [hisl, Gv h] at hx
 obtain ⟨f, hf, rfl⟩ := al.1 hx
 have hnd : (Ke b p b.Aq.toNat).Nodup := (List.nodup_range).sublist List.filter_sublist
 have hfl : El b p = ((Ke b p b.Aq.toNat).map (isl b p)).foldl (C4 p) p.Ac := by
  rw [← Gv h]; rfl
 have e1 := yI hn _ p.Ac rfl hnd f hf i hi
 have e2 := yI hn _ p.Ac rfl hnd f hf j hj
 dsimp only
 rw [hfl]
 exact ⟨e1.1.trans e2.1.symm, e1.2.trans e2.2.symm⟩
def Hd (b : Aa) (p : Ab) (n : Nat) : Bool := decide (((isl b p ((groups b p).getD n 0).toNat).Ac.length : Int) > 0)
theorem Abz {b : Aa} (h : Aw b) {p : Ab} (hp : As b p) {n : Nat} (hn : n < b.Aq.toNat) : F28 b p (n : Int) = some (Hd b p n) := by
 unfold F28
 rw [Vk h hp hn]
 simp [Hd]
theorem Aw7 {b : Aa} {p : Ab} {n f : Nat} (hn : n < b.Aq.toNat) : (isl b p f).Aq.any ((n : Int) == ·) = ((groups b p).getD n 0 == (f : Int)) := by
 rw [bp, bI]
 constructor
 ·rintro ⟨x, hx, e⟩
  rw [de] at e; subst e
  obtain ⟨i, hi, e⟩ := al.1 hx
  have : i = n := by omega
  subst this
  exact (an.1 hi).2
 ·intro e
  exact ⟨n, al.2 ⟨n, an.2 ⟨aK.2 hn, e⟩, rfl⟩, by simp⟩
theorem of_eq {b : Aa} (h : Aw b) {p : Ab} (hp : As b p) {n : Nat} (hn : n < b.Aq.toNat) : G9 b p (n : Int) = some (isl b p ((groups b p).getD n 0).toNat, true) := by
 have hg := Hp h p hn
 have hbu := h.buses
 unfold G9
 rw [Jh h hp, Gv h]
 simp only [ab]
 have key : ∀ (fs : List Nat) (k : Nat), foldI (L3 (n : Int)) (fs.map (isl b p)) k () = if ((groups b p).getD n 0).toNat ∈ fs then some (.ret (isl b p ((groups b p).getD n 0).toNat, true)) else some (.next ()) := by
  intro fs
  induction fs with
  | nil => intro k; rfl
  | cons f fs ih =>
   intro k
   have hbl : (isl b p f).Aq.length <= 9223372036854775807 := by
    have := Dk (λ i => (groups b p).getD i 0 == (f : Int)) b.Aq.toNat
    simp only [isl, Dr]
    omega
   simp only [bu, foldI, L3, Fe _ _ hbl, ab, Aw7 hn]
   by_cases e : (groups b p).getD n 0 = (f : Int)
   ·have e2 : ((groups b p).getD n 0).toNat = f := by omega
    rw [de.2 e, e2, if_pos ag]; rfl
   ·have e2 : ((groups b p).getD n 0).toNat ≠ f := by omega
    rw [dg.2 e]
    simp only [cond_false]
    rw [ih]
    by_cases hm : ((groups b p).getD n 0).toNat ∈ fs
    ·rw [if_pos hm, if_pos (ai _ hm)]
    ·rw [if_neg hm, if_neg (λ hh => (ah.1 hh).elim e2 hm)]
 have hm : ((groups b p).getD n 0).toNat ∈ Ke b p b.Aq.toNat := an.2 ⟨aK.2 (by omega), J4 h p hn⟩
 rw [key, if_pos hm]
 rfl
theorem A3s {b : Aa} (h : Aw b) {p : Ab} (hp : As b p) {n : Nat} (hn : n < b.Aq.toNat) : U5 b p (n : Int) = some (Hd b p n) := by
 unfold U5
 rw [of_eq h hp hn]
 simp [Hd]
theorem Amk {b : Aa} (h : Aw b) {s : Ai} (hs : Bw s) : Ok (qO s b) λ y => (As b y.1 /\ Alz b y.1 /\ y.1.Ao.length <= 4) /\ Bw y.2 := by
 unfold qO
 refine (A1b h hs).bind λ y hy => ?_
 rw [Ww h hy.1.1]
 exact c4 ⟨⟨I9 hy.1.1 (H5 b _) (Qv hy.1.1), yG h hy.1.1.nso, hy.1.2⟩, hy.2⟩
theorem A1c {b : Aa} (h : Aw b) {s : Ai} (hs : Bw s) : Ok (qU s b) λ y => ((∀ t, App b t y.1) /\ (5 <= y.1.Time /\ y.1.Time <= 20) /\ y.1.Bc = [] /\ y.1.Power.Ao.length <= 4) /\ Bw y.2 := by
 have hbu := h.buses
 unfold qU
 refine (Ht hs 5 20 (by omega) (by omega) (by omega)).bind λ y hy => (Amk h hy.1).bind λ z hz => ?_
 refine Ok.andThen (A := λ s => Bw ⟨s.2.1, s.2.2.1⟩ /\ s.2.2.2.length = b.Aq.toNat /\ ∀ x, x ∈ s.2.2.2 -> (-1 <= x.High /\ x.High <= 4) /\ -1 <= x.Low /\ x.Low <= 4) (B := λ (_ : Unit) => False) ?_ (λ s hs => ?_) (λ _ h => h.elim)
 ·refine c7 (λ s => (0 <= s.1 /\ s.1 <= b.Aq) /\ Bw ⟨s.2.1, s.2.2.1⟩ /\ (s.2.2.2.length : Int) = s.1 /\ ∀ x, x ∈ s.2.2.2 -> (-1 <= x.High /\ x.High <= 4) /\ -1 <= x.Low /\ x.Low <= 4) (λ s => (b.Aq - s.1).toNat) _ _ ?_ ?_ ?_
  ·exact ⟨by dsimp only; omega, hz.2, by simp, λ x hx => by cases hx⟩
  ·dsimp only; omega
  ·rintro ⟨i, L, a, l⟩ ⟨⟨g1, g2⟩, g3, g4, g5⟩
   dsimp only at g1 g2 g3 g4 g5
   unfold Yz
   dsimp only
   refine c3 (λ hq => ?_) (λ hq => cJ ?_)
   ·simp only [da] at hq
    have e1 : w64 (i + 1) = i + 1 := Bb (by omega)
    rw [e1]
    refine (Ht g3 (-1) 4 (by omega) (by omega) (by omega)).bind λ u hu => (Ht hu.1 (-1) 4 (by omega) (by omega) (by omega)).bind λ v hv => (c9 (by simp; omega)).bind λ w hw => c5 ?_
    refine ⟨⟨by dsimp only; omega, hv.1, by rw [hw]; simp; omega, λ x hx => ?_⟩, by dsimp only; omega⟩
    rw [hw] at hx
    rcases ar.1 hx with hx | hx
    ·exact g5 x hx
    ·simp only [aT] at hx
     subst hx
     exact ⟨hu.2, hv.2⟩
   ·simp only [db] at hq
    exact ⟨g3, by dsimp only; omega, g5⟩
 ·refine c4 ⟨⟨λ t => ?_, hy.2, rfl, hz.1.2.2⟩, hs.1⟩
  exact {
   st := hz.1.1
   fol := Ahe hz.1.1.nso hz.1.2.1
   time := by have := hy.2; dsimp only; omega
   nro := hs.2.1
   ros := λ x hx => by
    have := hs.2.2 x hx
    have := hy.2
    unfold A22
    dsimp only
    omega }
theorem Ayz {s : Ai} (hs : Bw s) : Ok (F9 s) λ y => A88 y.1 /\ Aom y.2.1 /\ ((∀ t, App y.1 t y.2.2.1) /\ (5 <= y.2.2.1.Time /\ y.2.2.1.Time <= 20) /\ y.2.2.1.Bc = [] /\ y.2.2.1.Power.Ao.length <= 4) /\ Bw y.2.2.2 := by
 unfold F9
 exact (A1u hs).bind λ b hb => (A08 hb.2).bind λ y hy => (A1c hb.1.ok hy.2).bind λ p hp => c4 ⟨hb.1, hy.1, hp.1, hp.2⟩
theorem Amh {p : Ab} (k n : Int) : F49 p k n = some (brk p.Ao k n) := by
 unfold F49 brk
 have : ∀ (l : List Al) (i : Nat), foldI (qR k n) l i () = bif l.any (λ x => k == x.Kind && n == x.Number) then some (.ret true) else some (.next ()) := by
  intro l
  induction l with
  | nil => intro i; rfl
  | cons x l ih =>
   intro i
   simp only [foldI, qR, A2r, List.any_cons]
   have e : (x.Kind == k && x.Number == n) = (k == x.Kind && n == x.Number) := by
    rw [bp]; simp only [ac, de]; omega
   rw [e]
   cases (k == x.Kind && n == x.Number) with
   | true => rfl
   | false => simp only [cond_false, aS]; exact ih (i + 1)
 rw [this]
 cases p.Ao.any λ x => k == x.Kind && n == x.Number <;> rfl
theorem F0 {b : Aa} {i : Nat} (h : i < b.Ad.length) : b.Ad[i]? = some (b.Ad.getD i default) := by
 rw [af h]; simp [List.getD, List.getElem?_eq_getElem h]
theorem An6 {p : Ab} {i : Nat} (h : i < p.Ak.length) : p.Ak[i]? = some (p.Ak.getD i 0) := by
 rw [af h]; simp [List.getD, List.getElem?_eq_getElem h]

theorem Ky {b : Aa} {p : Ab} (hp : As b p) {j : Nat} (hj : j < b.Ae.length) : p.Ag[j]? = some (p.Ag.getD j false) := by
 have := hp.ncl
 rw [af (by omega)]; simp [List.getD, List.getElem?_eq_getElem (show j < p.Ag.length by omega)]
theorem Pg {b : Aa} {j : Nat} {x : Aj} (hx : b.Ae[j]? = some x) : b.Ae.getD j default = x := by simp [List.getD, hx]
def B6 (p : Ab) (x : Aj) : Bool :=
 brk p.Ao 3 x.A || (if x.Kind = 1 then brk p.Ao 3 x.B else if x.Kind = 2 then brk p.Ao 1 x.B || ((p.Ac.getD x.B.toNat default).State != 2) else brk p.Ao 4 x.B)
theorem A4f {b : Aa} {p : Ab} (hp : As b p) (k n : Int) (acts : List An) : Kz k n ⟨b, p, acts⟩ = some (brk p.Ao k n, ⟨b, p, acts⟩) := by
 have := hp.brk.len
 unfold Kz
 rw [Gg (by dsimp only; omega)]; rfl
theorem Awl {b : Aa} (h : Aw b) {p : Ab} (hp : As b p) (acts : List An) {x : Aj} (hx : x ∈ b.Ae) : Uj ⟨b, p, acts⟩ x = some (B6 p x, ⟨b, p, acts⟩) := by
 have hbr := (h.br x hx).2
 have hns := hp.nso
 unfold Uj B6
 simp only [A4f hp, ab]
 cases brk p.Ao 3 x.A with
 | true => rfl
 | false =>
  simp only [cond_false, aS]
  rcases hbr with ⟨hk, _⟩ | ⟨hk, h0, h1⟩ | ⟨hk, _⟩
  ·rw [hk]; rfl
  ·rw [hk]
   have e : p.Ac[x.B.toNat]? = some (p.Ac.getD x.B.toNat default) := by
    rw [af (by omega)]; simp [List.getD, List.getElem?_eq_getElem (show x.B.toNat < p.Ac.length by omega)]
   have e2 : getI p.Ac x.B = some (p.Ac.getD x.B.toNat default) := by
    unfold getI; rw [dh h0]; exact e
   rw [e2]
   cases brk p.Ao 1 x.B <;> rfl
  ·rw [hk]; rfl
def B5 (b : Aa) (C : List Bool) (q : Aj -> Bool) (n : Nat) : List Int := ((List.range n).filter λ i => C.getD i false && q (b.Ae.getD i default)).map λ (i : Nat) => (i : Int)
theorem Ft {b : Aa} {C : List Bool} {q : Aj -> Bool} {n : Nat} {i : Int} : i ∈ B5 b C q n ↔ ∃ k : Nat, i = (k : Int) /\ k < n /\ C.getD k false = true /\ q (b.Ae.getD k default) = true := by
 unfold B5
 simp only [al, an, aK, ac]
 constructor
 ·rintro ⟨k, ⟨h1, h2, h3⟩, rfl⟩; exact ⟨k, rfl, h1, h2, h3⟩
 ·rintro ⟨k, rfl, h1, h2, h3⟩; exact ⟨k, ⟨h1, h2, h3⟩, rfl⟩
theorem Gm (b : Aa) (C : List Bool) (q : Aj -> Bool) (n : Nat) : (B5 b C q n).length <= n := Dk _ n
def C5 (C : List Bool) (l : List Int) : List Bool := l.foldl (λ c i => c.set i.toNat false) C
def Lc (l : List Int) : List An := l.map λ i => ⟨2, i, 0⟩
theorem Kq : ∀ (l : List Int) (C : List Bool), (C5 C l).length = C.length
 | [], _ => rfl
 | i :: l, C => by
  show (C5 (C.set i.toNat false) l).length = _
  rw [Kq l]; simp
theorem Qb (C : List Bool) (l : List Int) (i : Int) : C5 C (l ++ [i]) = (C5 C l).set i.toNat false := by
 unfold C5; rw [aM]; rfl
theorem Nh : ∀ (l : List Int) (C : List Bool) (k : Nat), (C5 C l).getD k false = (C.getD k false && !l.any λ i => i.toNat == k)
 | [], _, _ => by simp [C5]
 | i :: l, C, k => by
  show (C5 (C.set i.toNat false) l).getD k false = _
  rw [Nh l]
  simp only [List.any_cons]
  by_cases e : i.toNat = k
  ·subst e
   have : (C.set i.toNat false).getD i.toNat false = false := by
    simp only [List.getD, au]
    by_cases hl : i.toNat < C.length
    ·simp [hl]
    ·simp [hl]
   rw [this]; simp
  ·have : (C.set i.toNat false).getD k false = C.getD k false := by
    simp only [List.getD, au, if_neg e]
   rw [this]
   have e2 : (i.toNat == k) = false := by simpa using e
   rw [e2, aS]
theorem Xm {b : Aa} : ∀ (l : List Int) {p : Ab}, As b p -> As b ⟨C5 p.Ag l, p.Ac, p.Ak, p.Ao⟩
 | [], _, hp => hp
 | i :: l, p, hp => Xm l (p := ⟨p.Ag.set i.toNat false, p.Ac, p.Ak, p.Ao⟩) (Aqe hp i.toNat)
theorem Azh {b : Aa} {p : Ab} {acts : List An} (ha : acts.length <= 1000000) {i : Int} (h0 : 0 <= i) (h1 : i < p.Ag.length) : Mv ⟨b, p, acts⟩ i = some ⟨b, ⟨p.Ag.set i.toNat false, p.Ac, p.Ak, p.Ao⟩, acts ++ [⟨2, i, 0⟩]⟩ := by
 refine cL ?_
 unfold Mv
 refine (c8 h0 h1).bind λ _ _ => (cI h0 h1).bind λ y hy => (c9 (by simp; omega)).bind λ z hz => c4 ?_
 rw [hy, hz]
theorem Xl {b : Aa} {p : Ab} {acts : List An} {l : List Int} (ha : acts.length + l.length <= 1000000) (hl : ∀ i, i ∈ l -> 0 <= i /\ i < p.Ag.length) :
  Ok (foldI Nw l 0 (b.Aq, b.Ae, b.Ac, b.Ad, b.Phase, b.Ar, p.Ag, p.Ac, p.Ak, p.Ao, acts)) (D3 (λ s => s = (b.Aq, b.Ae, b.Ac, b.Ad, b.Phase, b.Ar, C5 p.Ag l, p.Ac, p.Ak, p.Ao, acts ++ Lc l)) λ (_ : Unit) => False) := by
 refine c6 (I := λ j s => s = (b.Aq, b.Ae, b.Ac, b.Ad, b.Phase, b.Ar, C5 p.Ag (l.take j), p.Ac, p.Ak, p.Ao, acts ++ Lc (l.take j))) (by simp [C5, Lc]) (λ j i s hi hs => ?_) λ s hs => ?_
 ·have hj := (aa.1 hi).1
  have hin := hl i (ae hi)
  subst hs
  unfold Nw
  have e := Azh (b := b) (p := ⟨C5 p.Ag (l.take j), p.Ac, p.Ak, p.Ao⟩) (acts := acts ++ Lc (l.take j)) (by simp [Lc]; omega) hin.1 (by rw [Kq]; exact hin.2)
  refine Ok.bind (P := λ y => y = _) (cE e rfl) λ y hy => c5 ?_
  subst hy
  rw [Bi hi, Qb]
  simp [Lc]
 ·rw [ax] at hs; exact hs
def acA (b : Aa) (C : List Bool) (q : Aj -> Bool) : List An := Lc (B5 b C q b.Ae.length)
def acC (b : Aa) (C : List Bool) (q : Aj -> Bool) : List Bool := C5 C (B5 b C q b.Ae.length)
theorem V8 (b : Aa) (C : List Bool) (q : Aj -> Bool) : (acA b C q).length <= b.Ae.length := by
 unfold acA Lc
 rw [aA]; exact Gm b C q _
theorem Pk {b : Aa} {p : Ab} (hp : As b p) (q : Aj -> Bool) : As b ⟨acC b p.Ag q, p.Ac, p.Ak, p.Ao⟩ := Xm _ hp
theorem Pl (b : Aa) (C : List Bool) (q : Aj -> Bool) {k : Nat} (hk : k < b.Ae.length) : (acC b C q).getD k false = (C.getD k false && !q (b.Ae.getD k default)) := by
 unfold acC
 rw [Nh]
 cases hc : C.getD k false with
 | false => rfl
 | true =>
  rw [aZ, aZ]
  congr 1
  rw [bp, bI]
  constructor
  ·rintro ⟨i, hi, e⟩
   obtain ⟨m, rfl, _, _, hq⟩ := Ft.1 hi
   have : m = k := by simpa using e
   subst this; exact hq
  ·intro hq
   exact ⟨(k : Int), Ft.2 ⟨k, rfl, hk, hc, hq⟩, by simp⟩
theorem Jj {b : Aa} {C : List Bool} {q : Aj -> Bool} {j : Nat} {x : Aj} (hx : b.Ae[j]? = some x) : B5 b C q (j + 1) = B5 b C q j ++ if (C.getD j false && q x) = true then [(j : Int)] else [] := by
 unfold B5
 rw [Fu, Pg hx]
theorem Atn {b : Aa} (h : Aw b) {p : Ab} (hp : As b p) {acts : List An} (ha : acts.length <= 1000) : Uq ⟨b, p, acts⟩ = some ⟨b, ⟨acC b p.Ag (B6 p), p.Ac, p.Ak, p.Ao⟩, acts ++ acA b p.Ag (B6 p)⟩ := by
 have hbl := h.brl
 have hnc := hp.ncl
 refine cL ?_
 unfold Uq
 refine Ok.andThen (A := λ s => s = (b.Aq, b.Ae, b.Ac, b.Ad, b.Phase, b.Ar, B5 b p.Ag (B6 p) b.Ae.length, p.Ag, p.Ac, p.Ak, p.Ao, acts)) (B := λ (_ : Unit) => False) ?_ (λ s hs => ?_) (λ _ h => h.elim)
 ·refine c6 (I := λ j s => s = (b.Aq, b.Ae, b.Ac, b.Ad, b.Phase, b.Ar, B5 b p.Ag (B6 p) j, p.Ag, p.Ac, p.Ak, p.Ao, acts)) rfl (λ j x s hx hs => ?_) λ s hs => hs
  have hj : j < b.Ae.length := (aa.1 hx).1
  have hfl := Gm b p.Ag (B6 p) j
  have hfs := Jj (C := p.Ag) (q := B6 p) hx
  subst hs
  unfold Uo
  rw [C_ (by omega), Bm (Ky hp hj)]
  simp only [ab]
  have hd := Awl h hp acts (ae hx)
  cases hC : p.Ag.getD j false with
  | false =>
   rw [hC] at hfs
   refine c5 ?_
   rw [hfs]; simp
  | true =>
   rw [hC] at hfs
   refine Ok.bind (P := λ y => y = (B6 p x, (⟨b, p, acts⟩ : Ax))) (cE hd rfl) λ y hy => ?_
   subst hy
   cases hq : B6 p x with
   | false =>
    rw [hq] at hfs
    refine c5 ?_
    rw [hfs]; simp
   | true =>
    rw [hq] at hfs
    refine Ok.bind (P := λ y => y = B5 b p.Ag (B6 p) j ++ [(j : Int)]) (c9 (by simp; omega)) λ y hy => c5 ?_
    rw [hy, hfs]; simp
 ·subst hs
  have hfl := Gm b p.Ag (B6 p) b.Ae.length
  refine Ok.andThen (Xl (b := b) (p := p) (acts := acts) (l := B5 b p.Ag (B6 p) b.Ae.length) (by omega) λ i hi => ?_) (λ s hs => ?_) (λ _ h => h.elim)
  ·obtain ⟨k, rfl, hk, _⟩ := Ft.1 hi
   omega
  ·subst hs
   exact c4 rfl
def Cv (b : Aa) (p : Ab) (x : Aj) : Bool := x.Kind == 3 && !Hd b p x.A.toNat
theorem A38 {b : Aa} (h : Aw b) {p : Ab} (hp : As b p) (acts : List An) {x : Aj} (hx : x ∈ b.Ae) : Ui x ⟨b, p, acts⟩ = some (Cv b p x, ⟨b, p, acts⟩) := by
 have hA := (h.br x hx).1
 have hl := A3s h hp (n := x.A.toNat) (by omega)
 rw [bC hA.1] at hl
 unfold Ui Cv
 rw [hl]
 cases x.Kind == 3 <;> rfl
theorem Atm {b : Aa} (h : Aw b) {p : Ab} (hp : As b p) {acts : List An} (ha : acts.length <= 1000) : Un ⟨b, p, acts⟩ = some ⟨b, ⟨acC b p.Ag (Cv b p), p.Ac, p.Ak, p.Ao⟩, acts ++ acA b p.Ag (Cv b p)⟩ := by
 have hbl := h.brl
 have hnc := hp.ncl
 refine cL ?_
 unfold Un
 refine Ok.andThen (A := λ s => s = (b.Aq, b.Ae, b.Ac, b.Ad, b.Phase, b.Ar, B5 b p.Ag (Cv b p) b.Ae.length, p.Ag, p.Ac, p.Ak, p.Ao, acts)) (B := λ (_ : Unit) => False) ?_ (λ s hs => ?_) (λ _ h => h.elim)
 ·refine c6 (I := λ j s => s = (b.Aq, b.Ae, b.Ac, b.Ad, b.Phase, b.Ar, B5 b p.Ag (Cv b p) j, p.Ag, p.Ac, p.Ak, p.Ao, acts)) rfl (λ j x s hx hs => ?_) λ s hs => hs
  have hj : j < b.Ae.length := (aa.1 hx).1
  have hfl := Gm b p.Ag (Cv b p) j
  have hfs := Jj (C := p.Ag) (q := Cv b p) hx
  subst hs
  unfold Um
  rw [C_ (by omega), Bm (Ky hp hj)]
  simp only [ab]
  have hd := A38 h hp acts (ae hx)
  cases hC : p.Ag.getD j false with
  | false =>
   rw [hC] at hfs
   refine c5 ?_
   rw [hfs]; simp
  | true =>
   rw [hC] at hfs
   refine Ok.bind (P := λ y => y = (Cv b p x, (⟨b, p, acts⟩ : Ax))) (cE hd rfl) λ y hy => ?_
   subst hy
   cases hq : Cv b p x with
   | false =>
    rw [hq] at hfs
    refine c5 ?_
    rw [hfs]; simp
   | true =>
    rw [hq] at hfs
    refine Ok.bind (P := λ y => y = B5 b p.Ag (Cv b p) j ++ [(j : Int)]) (c9 (by simp; omega)) λ y hy => c5 ?_
    rw [hy, hfs]; simp
 ·subst hs
  have hfl := Gm b p.Ag (Cv b p) b.Ae.length
  refine Ok.andThen (Xl (b := b) (p := p) (acts := acts) (l := B5 b p.Ag (Cv b p) b.Ae.length) (by omega) λ i hi => ?_) (λ s hs => ?_) (λ _ h => h.elim)
  ·obtain ⟨k, rfl, hk, _⟩ := Ft.1 hi
   omega
  ·subst hs
   exact c4 rfl
def Cg (b : Aa) (p : Ab) : Ab := ⟨acC b p.Ag (B6 p), p.Ac, p.Ak, p.Ao⟩
def yT (b : Aa) (p : Ab) : Ab := ⟨acC b (Cg b p).Ag (Cv b (Cg b p)), p.Ac, p.Ak, p.Ao⟩
def E5 (b : Aa) (p : Ab) : Ab := ⟨(yT b p).Ag, El b (yT b p), p.Ak, p.Ao⟩
def X3 (b : Aa) (p : Ab) : List An := acA b p.Ag (B6 p) ++ acA b (Cg b p).Ag (Cv b (Cg b p))
theorem V6 {b : Aa} {p : Ab} (hp : As b p) : As b (Cg b p) := Pk hp _
theorem V5 {b : Aa} {p : Ab} (hp : As b p) : As b (yT b p) := Pk (V6 hp) _
theorem J6 {b : Aa} {p : Ab} (hp : As b p) : As b (E5 b p) := I9 (V5 hp) (H5 b _) (Qv (V5 hp))
theorem Ah6 (b : Aa) (p : Ab) : (X3 b p).length <= 2 * b.Ae.length := by
 have h1 := V8 b p.Ag (B6 p)
 have h2 := V8 b (Cg b p).Ag (Cv b (Cg b p))
 unfold X3
 rw [aJ]; omega
theorem A0k {b : Aa} (h : Aw b) {p : Ab} (hp : As b p) : Uz ⟨b, p, []⟩ = some ⟨b, E5 b p, X3 b p⟩ := by
 have hbl := h.brl
 have hl := V8 b p.Ag (B6 p)
 unfold Uz
 rw [Atn h hp (by simp)]
 simp only [ab, cm]
 have e2 := Atm h (V6 hp) (acts := acA b p.Ag (B6 p)) (by omega)
 have e3 := Ab1 h (V5 hp)
 refine cL ?_
 refine Ok.bind (P := λ y => y = _) (cE e2 rfl) λ y hy => ?_
 subst hy
 refine Ok.bind (P := λ y => y = _) (cE e3 rfl) λ y hy => ?_
 subst hy
 exact c4 rfl
def key (b : Aa) (c : Int) : Int := (b.Ad.getD c.toNat default).Bn * 100 + c
theorem Hq {l : List Int} {m k : Nat} {v : Int} : (l.set m v).getD k 0 = if m = k /\ m < l.length then v else l.getD k 0 := by
 simp only [List.getD, au]
 by_cases e : m = k
 ·subst e
  by_cases hl : m < l.length
  ·simp [hl]
  ·simp [hl]
 ·simp [e]
theorem Mk {l : List Int} {k : Nat} (h : k < l.length) : getI l (k : Int) = some (l.getD k 0) := Bm (by
 rw [af h]; simp [List.getD, List.getElem?_eq_getElem h])
structure Srt (b : Aa) (n i : Nat) (d : List Int) : Prop where
 len : d.length = n
 low : ∀ k, k < i -> k < n -> 0 <= d.getD k 0 /\ d.getD k 0 < (i : Int)
 asc : ∀ k m, k < m -> m < i -> m < n -> key b (d.getD k 0) < key b (d.getD m 0)
 rest : ∀ k, i <= k -> k < n -> d.getD k 0 = (k : Int)
 mem : ∀ v, v < n -> ∃ k, k < n /\ d.getD k 0 = (v : Int)
structure Ins (b : Aa) (n i j : Nat) (d : List Int) : Prop where
 len : d.length = n
 here : d.getD j 0 = (i : Int)
 low : ∀ k, k <= i -> k ≠ j -> 0 <= d.getD k 0 /\ d.getD k 0 < (i : Int)
 asc : ∀ k m, k < m -> m <= i -> k ≠ j -> m ≠ j -> key b (d.getD k 0) < key b (d.getD m 0)
 big : ∀ k, j < k -> k <= i -> key b (i : Int) < key b (d.getD k 0)
 rest : ∀ k, i < k -> k < n -> d.getD k 0 = (k : Int)
 mem : ∀ v, v < n -> ∃ k, k < n /\ d.getD k 0 = (v : Int)
theorem Srt.ins {b : Aa} {n i : Nat} {d : List Int} (h : Srt b n i d) (hi : i < n) : Ins b n i i d where
 len := h.len
 here := h.rest i (ao _) hi
 low k hk hne := h.low k (by omega) (by omega)
 asc k m hkm hm hk hm2 := h.asc k m hkm (by omega) (by omega)
 big k h1 h2 := by omega
 rest k h1 h2 := h.rest k (by omega) h2
 mem := h.mem
theorem Ins.done {b : Aa} {n i j : Nat} {d : List Int} (h : Ins b n i j d) (hj : j <= i) (hk : 0 < j -> key b (d.getD (j - 1) 0) < key b (i : Int)) : Srt b n (i + 1) d := by
 refine ⟨h.len, λ k h1 h2 => ?_, λ k m hkm hm hn => ?_, λ k h1 h2 => h.rest k (by omega) h2, h.mem⟩
 ·by_cases e : k = j
  ·rw [e, h.here]; omega
  ·have := h.low k (by omega) e
   omega
 ·have lo : ∀ k, k < j -> key b (d.getD k 0) < key b (i : Int) := λ k hkj => by
   have h3 := hk (by omega)
   by_cases e : k = j - 1
   ·rw [e]; exact h3
   ·have := h.asc k (j - 1) (by omega) (by omega) (by omega) (by omega)
    omega
  by_cases e : k = j
  ·subst e
   rw [h.here]
   exact h.big m hkm (by omega)
  ·by_cases e2 : m = j
   ·subst e2
    rw [h.here]
    exact lo k hkm
   ·exact h.asc k m hkm (by omega) e e2
theorem Ins.step {b : Aa} {n i j : Nat} {d : List Int} (h : Ins b n i j d) (hj : j <= i) (h0 : 0 < j) (hi : i < n) (hk : key b (i : Int) < key b (d.getD (j - 1) 0)) : Ins b n i (j - 1) ((d.set j (d.getD (j - 1) 0)).set (j - 1) (i : Int)) := by
 have hl := h.len
 have ev : ∀ k, ((d.set j (d.getD (j - 1) 0)).set (j - 1) (i : Int)).getD k 0 = if k = j - 1 then (i : Int) else if k = j then d.getD (j - 1) 0 else d.getD k 0 := λ k => by
  rw [Hq, Hq, bx]
  by_cases e1 : k = j - 1
  ·have c1 : j - 1 = k /\ j - 1 < d.length := ⟨e1.symm, by omega⟩
   rw [if_pos c1, if_pos e1]
  ·have c1 : ¬ (j - 1 = k /\ j - 1 < d.length) := λ hh => e1 hh.1.symm
   rw [if_neg c1, if_neg e1]
   by_cases e2 : k = j
   ·have c2 : j = k /\ j < d.length := ⟨e2.symm, by omega⟩
    rw [if_pos c2, if_pos e2]
   ·have c2 : ¬ (j = k /\ j < d.length) := λ hh => e2 hh.1.symm
    rw [if_neg c2, if_neg e2]
 refine ⟨by simp [hl], ?_, λ k h1 h2 => ?_, λ k m hkm hm hk1 hm1 => ?_, λ k h1 h2 => ?_, λ k h1 h2 => ?_, λ v hv => ?_⟩
 ·rw [ev, if_pos rfl]
 ·rw [ev, if_neg h2]
  split
  ·exact h.low (j - 1) (by omega) (by omega)
  ·exact h.low k h1 (by omega)
 ·rw [ev, ev, if_neg hk1, if_neg hm1]
  by_cases e1 : k = j
  ·rw [if_pos e1, if_neg (by omega)]
   subst e1
   exact h.asc (k - 1) m (by omega) hm (by omega) (by omega)
  ·rw [if_neg e1]
   by_cases e2 : m = j
   ·rw [if_pos e2]
    exact h.asc k (j - 1) (by omega) (by omega) e1 (by omega)
   ·rw [if_neg e2]
    exact h.asc k m hkm hm e1 e2
 ·rw [ev, if_neg (by omega)]
  split
  ·exact hk
  ·exact h.big k (by omega) h2
 ·rw [ev, if_neg (by omega), if_neg (by omega)]
  exact h.rest k h1 h2
 ·obtain ⟨k, hk1, hk2⟩ := h.mem v hv
  by_cases e1 : k = j
  ·refine ⟨j - 1, by omega, ?_⟩
   rw [ev, if_pos rfl, ← hk2, e1, h.here]
  ·by_cases e2 : k = j - 1
   ·refine ⟨j, by omega, ?_⟩
    rw [ev, if_neg (by omega), if_pos rfl, ← hk2, e2]
   ·refine ⟨k, hk1, ?_⟩
    rw [ev, if_neg e2, if_neg e1]; exact hk2
theorem Au6 {b : Aa} {x y : Nat} (hx : x < b.Ad.length) (hy : y < b.Ad.length) : Mu (x : Int) (y : Int) b = some (if (b.Ad.getD x default).Bn < (b.Ad.getD y default).Bn then -1 else if (b.Ad.getD x default).Bn > (b.Ad.getD y default).Bn then 1 else 0) := by
 unfold Mu
 rw [Bm (F0 hx), Bm (F0 hy)]
 simp only [ab, Ah5]
theorem Az1 {b : Aa} (h : Aw b) {i : Nat} (hi : i < b.Ad.length) {d : List Int} (hd : Ins b b.Ad.length i i d) :
  Ok (whileN (Nu 0 b) 1152921504606846976 ((i : Int), d)) (D3 (λ s => Srt b b.Ad.length (i + 1) s.2) λ (_ : Unit) => False) := by
 have hcl := h.col
 refine c7 (λ s => ∃ j : Nat, s.1 = (j : Int) /\ j <= i /\ Ins b b.Ad.length i j s.2) (λ s => s.1.toNat) _ _ ⟨i, rfl, ao _, hd⟩ (by dsimp only; omega) ?_
 rintro ⟨z, d⟩ ⟨j, hz, hj, hI⟩
 dsimp only at hz hI
 subst hz
 have hl := hI.len
 unfold Nu
 dsimp only
 by_cases h0 : 0 < j
 ·have e1 : decide ((j : Int) > 0) = true := dh (by omega)
  have e2 : w64 ((j : Int) - 1) = ((j - 1 : Nat) : Int) := by rw [Bb (by omega)]; omega
  have hlow := hI.low (j - 1) (by omega) (by omega)
  obtain ⟨v, hv⟩ : ∃ v : Nat, d.getD (j - 1) 0 = (v : Int) := ⟨(d.getD (j - 1) 0).toNat, by omega⟩
  have hvi : v < i := by omega
  have ec := Au6 (b := b) hi (show v < b.Ad.length by omega)
  have g1 : Az [(decide ((j : Int) > 0), true)] (getI d (j : Int)) default = some (i : Int) := by
   rw [e1, Mk (by omega), hI.here]; rfl
  have g2 : Az [(decide ((j : Int) > 0), true)] (getI d (w64 ((j : Int) - 1))) default = some (v : Int) := by
   rw [e1, e2, Mk (by omega), hv]; rfl
  rw [g1, g2]
  simp only [ab]
  have g3 : Az [(decide ((j : Int) > 0), true)] (Mu (i : Int) (v : Int) b) default = Mu (i : Int) (v : Int) b := by rw [e1]; rw [ec]; rfl
  rw [g3, ec]
  simp only [ab]
  have hci := h.co i _ (F0 hi)
  have hcv := h.co v _ (F0 (show v < b.Ad.length by omega))
  have ki : key b (i : Int) = (b.Ad.getD i default).Bn * 100 + (i : Int) := by unfold key; rw [aE]
  have kv : key b (v : Int) = (b.Ad.getD v default).Bn * 100 + (v : Int) := by unfold key; rw [aE]
  refine c3 (λ hq => ?_) (λ hq => ?_)
  ·simp only [X4, ac, da] at hq
   have hlt : (b.Ad.getD i default).Bn < (b.Ad.getD v default).Bn := by
    have := hq.2
    split at this
    ·assumption
    ·split at this <;> omega
   have e3 : getI d (w64 ((j : Int) - 1)) = some (d.getD (j - 1) 0) := by rw [e2, Mk (by omega)]
   have e4 : getI d (j : Int) = some (i : Int) := by rw [Mk (by omega), hI.here]
   rw [e3, e4]
   simp only [ab]
   rw [e2, Xd (by omega)]
   simp only [ab]
   rw [Mk (by rw [bx]; omega)]
   simp only [ab]
   rw [Xd (by rw [bx]; omega)]
   simp only [ab]
   refine c5 ⟨⟨j - 1, rfl, by omega, hI.step hj h0 hi ?_⟩, by dsimp only; omega⟩
   rw [hv, ki, kv]; omega
  ·refine cJ (hI.done hj λ _ => ?_)
   simp only [X4, Bool.and_eq_false_iff, db] at hq
   have hge : ¬ (b.Ad.getD i default).Bn < (b.Ad.getD v default).Bn := by
    intro hlt
    rw [if_pos hlt] at hq
    omega
   rw [hv, ki, kv]; omega
 ·have h00 : j = 0 := by omega
  subst h00
  exact cJ (hI.done hj λ hh => by omega)
theorem A3e {b : Aa} (h : Aw b) {d : List Int} (hd : Srt b b.Ad.length 0 d) : Ok (T9 d b) λ y => Srt b b.Ad.length b.Ad.length y.1 := by
 have hcl := h.col
 have hl := hd.len
 unfold T9 qZ
 rw [hl]
 refine Ok.bind (P := λ y => Srt b b.Ad.length b.Ad.length y.1) ?_ λ y hy => c4 hy
 refine Ok.andThen (A := λ s => s = ((0 : Int), (20 : Int), d, b.Aq, b.Ae, b.Ac, b.Ad, b.Phase, b.Ar)) (B := λ (_ : Unit) => False) ?_ (λ s hs => ?_) (λ _ h => h.elim)
 ·refine c7 (λ s => s = ((0 : Int), (20 : Int), d, b.Aq, b.Ae, b.Ac, b.Ad, b.Phase, b.Ar)) (λ _ => 0) _ _ rfl (by omega) ?_
  intro s hs
  subst hs
  unfold T7
  dsimp only
  refine c3 (λ hq => ?_) (λ _ => cJ rfl)
  simp only [da] at hq
  omega
 ·subst hs
  dsimp only
  refine Ok.bind (P := λ y => Srt b b.Ad.length b.Ad.length y.1) ?_ λ y hy => ?_
  ·unfold T5
   have e1 : w64 (0 + 1) = 1 := by rw [Bb (by omega)]; rfl
   rw [e1]
   refine Ok.andThen (A := λ s => Srt b b.Ad.length b.Ad.length s.2) (B := λ (_ : Unit) => False) ?_ (λ s hs => c4 hs) (λ _ h => h.elim)
   refine c7 (λ s => ∃ i : Nat, s.1 = (i : Int) /\ 1 <= i /\ (i <= b.Ad.length \/ b.Ad.length = 0) /\ Srt b b.Ad.length i s.2) (λ s => (100 - s.1).toNat) _ _ ⟨1, rfl, by omega, by omega, ?_⟩ (by dsimp only; omega) ?_
   ·refine ⟨hl, λ k h1 h2 => ?_, λ k m h1 h2 h3 => by omega, λ k h1 h2 => hd.rest k (by omega) h2, hd.mem⟩
    have : k = 0 := by omega
    subst this
    have := hd.rest 0 (ao _) h2
    dsimp only
    rw [this]; omega
   ·rintro ⟨z, d'⟩ ⟨i, hz, h1, h2, hS⟩
    dsimp only at hz hS
    subst hz
    unfold T4
    dsimp only
    refine c3 (λ hq => ?_) (λ hq => cJ ?_)
    ·simp only [da] at hq
     have hin : i < b.Ad.length := by omega
     refine Ok.inner (Az1 h hin (hS.ins hin)) (λ s hs => ?_) (λ _ h => h.elim)
     have e2 : w64 ((i : Int) + 1) = ((i + 1 : Nat) : Int) := by rw [Bb (by omega)]; omega
     rw [e2]
     exact c5 ⟨⟨i + 1, rfl, by omega, by omega, hs⟩, by dsimp only; omega⟩
    ·simp only [db] at hq
     dsimp only
     have hge : b.Ad.length <= i := by omega
     refine ⟨hS.len, λ k g1 g2 => ?_, λ k m g1 g2 g3 => hS.asc k m g1 (by omega) g3, λ k g1 g2 => by omega, hS.mem⟩
     obtain ⟨w1, w2⟩ := hS.low k (by omega) g2
     exact ⟨w1, by omega⟩
  ·refine Ok.andThen (A := λ _ => True) (B := λ (_ : Unit) => False) ?_ (λ s hs => c4 hy) (λ _ h => h.elim)
   refine c7 (λ _ => True) (λ _ => 0) _ _ trivial (by omega) ?_
   intro s _
   unfold T6
   refine c3 (λ hq => ?_) (λ _ => cJ trivial)
   simp only [da] at hq
   omega
def Gk (b : Aa) : List Int := (Y1 b).getD []
theorem Jw {b : Aa} (h : Aw b) : Y1 b = some (Gk b) /\ Srt b b.Ad.length b.Ad.length (Gk b) := by
 have hcl := h.col
 have key : Ok (Y1 b) λ y => Srt b b.Ad.length b.Ad.length y := by
  unfold Y1
  rw [Ah7 h]
  simp only [ab]
  refine c3 (λ hc => by simp at hc) (λ _ => ?_)
  refine Ok.andThen (A := λ s => s.2 = Cs b.Ad.length) (B := λ (_ : Unit) => False) ?_ (λ s hs => ?_) (λ _ h => h.elim)
  ·refine c7 (λ s => ∃ i : Nat, s.1 = (i : Int) /\ i <= b.Ad.length /\ s.2 = Cs i) (λ s => (100 - s.1).toNat) _ _ ⟨0, rfl, by omega, rfl⟩ (by dsimp only; omega) ?_
   rintro ⟨z, d⟩ ⟨i, hz, h1, h2⟩
   dsimp only at hz h2
   subst hz
   subst h2
   unfold zH Aws
   dsimp only
   refine c3 (λ hq => ?_) (λ hq => cJ ?_)
   ·simp only [da] at hq
    refine (c9 (by simp [Cs]; omega)).bind λ y hy => ?_
    have e2 : w64 ((i : Int) + 1) = ((i + 1 : Nat) : Int) := by rw [Bb (by omega)]; omega
    rw [e2]
    refine c5 ⟨⟨i + 1, rfl, by omega, ?_⟩, by dsimp only; omega⟩
    dsimp only
    rw [hy]
    unfold Cs
    rw [bT, bB]; rfl
   ·simp only [db] at hq
    have : i = b.Ad.length := by omega
    subst this; rfl
  ·rw [hs]
   refine (A3e h ?_).bind λ y hy => c4 hy
   refine ⟨by simp [Cs], λ k h1 => by omega, λ k m _ h1 => by omega, λ k _ h2 => Ko h2, λ v hv => ⟨v, hv, Ko hv⟩⟩
 obtain ⟨r, e, hr⟩ := key
 have : Gk b = r := by unfold Gk; rw [e]; rfl
 rw [this]
 exact ⟨e, hr⟩
theorem Au8 {b : Aa} (h : Aw b) {c : Int} (hc : c ∈ Gk b) : 0 <= c /\ c < b.Ad.length := by
 have hs := (Jw h).2
 obtain ⟨k, hk⟩ := List.mem_iff_getElem?.1 hc
 have hlt := (aa.1 hk).1
 have := hs.low k (by have := hs.len; omega) (by have := hs.len; omega)
 have e : (Gk b).getD k 0 = c := by simp [List.getD, hk]
 rwa [e] at this
theorem vQ {b : Aa} (h : Aw b) : (Gk b).length = b.Ad.length := (Jw h).2.len
theorem Au7 {b : Aa} (h : Aw b) : (Gk b).Nodup := by
 have hs := (Jw h).2
 have hl := hs.len
 rw [cz, List.pairwise_iff_getElem]
 intro i j hi hj hij e
 have := hs.asc i j hij (by omega) (by omega)
 simp only [List.getD, af hi, af hj, bG, e] at this
 omega
def Jq (L : List Int) (l : List Int) : Int := l.foldl (λ s c => s + L.getD c.toNat 0) 0
theorem M0 (L : List Int) (l : List Int) (c : Int) : Jq L (l ++ [c]) = Jq L l + L.getD c.toNat 0 := by
 unfold Jq; rw [aM]; rfl
def B2 (b : Aa) (p : Ab) (n : Nat) : Nat := ((groups b p).getD n 0).toNat
def B8 (b : Aa) (p : Ab) (n : Nat) : Int := if 0 < (isl b p (B2 b p n)).Ac.length then Jq p.Ak (isl b p (B2 b p n)).Ad else 0
def Kd (b : Aa) : List Int := b.Ac.map (·.Rating)
def E2 (b : Aa) (p : Ab) (n : Nat) : Int := Jq (Kd b) (isl b p (B2 b p n)).Ac
theorem Gd {b : Aa} {p : Ab} {f : Nat} {i : Int} (hi : i ∈ (isl b p f).Ad) : 0 <= i /\ i < b.Ad.length := by
 obtain ⟨k, hk, rfl⟩ := al.1 hi
 have := aK.1 (an.1 hk).1
 omega
theorem yD {b : Aa} {p : Ab} {f : Nat} {i : Int} (hi : i ∈ (isl b p f).Ac) : 0 <= i /\ i < b.Ac.length := by
 obtain ⟨k, hk, rfl⟩ := al.1 hi
 have := aK.1 (an.1 hk).1
 omega
theorem Mh {b : Aa} (h : Aw b) {p : Ab} (hp : As b p) {c : Int} (h0 : 0 <= c) (h1 : c < b.Ad.length) : getI p.Ak c = some (p.Ak.getD c.toNat 0) /\ 0 <= p.Ak.getD c.toNat 0 /\ p.Ak.getD c.toNat 0 <= (b.Ad.getD c.toNat default).Load /\ p.Ak.getD c.toNat 0 <= 50000 := by
 have hn := hp.nli
 obtain ⟨k, rfl⟩ : ∃ k : Nat, c = (k : Int) := ⟨c.toNat, by omega⟩
 rw [aE]
 have hg := F0 (b := b) (i := k) (by omega)
 have hl := hp.lim k _ _ (An6 (p := p) (by omega)) hg
 have hc := (h.co k _ hg).1
 exact ⟨Bm (An6 (by omega)), hl.1, hl.2, by omega⟩
theorem A8g {b : Aa} {c : Int} (h0 : 0 <= c) (h1 : c < b.Ad.length) : getI b.Ad c = some (b.Ad.getD c.toNat default) := by
 obtain ⟨k, rfl⟩ : ∃ k : Nat, c = (k : Int) := ⟨c.toNat, by omega⟩
 rw [aE]
 exact Bm (F0 (by omega))
theorem An5 {b : Aa} (h : Aw b) {p : Ab} (hp : As b p) {n : Nat} (hn : n < b.Aq.toNat) : Uc b p (n : Int) = some (B8 b p n) /\ 0 <= B8 b p n /\ B8 b p n <= 800000 := by
 have hcl := h.col
 have hlen : (isl b p (B2 b p n)).Ad.length <= b.Ad.length := Dk _ _
 have key : Ok (Uc b p (n : Int)) λ y => y = B8 b p n /\ 0 <= B8 b p n /\ B8 b p n <= 800000 := by
  unfold Uc
  have hof : G9 b p (n : Int) = some (isl b p (B2 b p n), true) := of_eq h hp hn
  rw [hof]
  simp only [ab]
  refine Ok.andThen (A := λ s => s = B8 b p n /\ 0 <= B8 b p n /\ B8 b p n <= 800000) (B := λ (_ : Unit) => False) ?_ (λ s hs => c4 hs) (λ _ h => h.elim)
  by_cases hs : 0 < (isl b p (B2 b p n)).Ac.length
  ·refine c6 (I := λ j s => s = Jq p.Ak ((isl b p (B2 b p n)).Ad.take j) /\ 0 <= s /\ s <= 50000 * (j : Int)) ⟨rfl, by omega, by omega⟩ (λ j c s hc hI => ?_) λ s hI => ?_
   ·obtain ⟨h1, h2, h3⟩ := hI
    have hj : j < (isl b p (B2 b p n)).Ad.length := (aa.1 hc).1
    have hcm := Gd (ae hc)
    obtain ⟨g1, g2, g3, g4⟩ := Mh h hp hcm.1 hcm.2
    unfold Wh
    have e : decide (((isl b p (B2 b p n)).Ac.length : Int) > 0) = true := dh (by omega)
    show Ok (bif decide (((isl b p (B2 b p n)).Ac.length : Int) > 0) then _ else _) _
    rw [e, g1]
    simp only [cond_true, ab]
    rw [Bb (by omega)]
    refine c5 ⟨?_, by omega, by omega⟩
    rw [Bi hc, M0, h1]
   ·rw [ax] at hI
    have e : B8 b p n = Jq p.Ak (isl b p (B2 b p n)).Ad := by unfold B8; rw [if_pos hs]
    rw [e, ← hI.1]
    exact ⟨rfl, hI.2.1, by omega⟩
  ·have e : B8 b p n = 0 := by unfold B8; rw [if_neg hs]
   rw [e]
   refine c6 (I := λ _ s => s = 0) rfl (λ j c s hc hI => ?_) λ s hI => ⟨hI, by omega, by omega⟩
   unfold Wh
   have e : decide (((isl b p (B2 b p n)).Ac.length : Int) > 0) = false := di (by omega)
   show Ok (bif decide (((isl b p (B2 b p n)).Ac.length : Int) > 0) then _ else _) _
   rw [e]
   exact c5 hI
 obtain ⟨r, e, h1, h2⟩ := key
 rw [h1] at e
 exact ⟨e, h2⟩
theorem Abx {b : Aa} (h : Aw b) {p : Ab} (hp : As b p) {n : Nat} (hn : n < b.Aq.toNat) : Ud b p (n : Int) = some (E2 b p n) /\ 0 <= E2 b p n /\ E2 b p n <= 400000 := by
 have hcl := h.sol
 have hlen : (isl b p (B2 b p n)).Ac.length <= b.Ac.length := Dk _ _
 have key : Ok (Ud b p (n : Int)) λ y => y = E2 b p n /\ 0 <= E2 b p n /\ E2 b p n <= 400000 := by
  unfold Ud
  have hof : G9 b p (n : Int) = some (isl b p (B2 b p n), true) := of_eq h hp hn
  rw [hof]
  simp only [ab]
  refine Ok.andThen (A := λ s => s = E2 b p n /\ 0 <= E2 b p n /\ E2 b p n <= 400000) (B := λ (_ : Unit) => False) ?_ (λ s hs => c4 hs) (λ _ h => h.elim)
  refine c6 (I := λ j s => s = Jq (Kd b) ((isl b p (B2 b p n)).Ac.take j) /\ 0 <= s /\ s <= 50000 * (j : Int)) ⟨rfl, by omega, by omega⟩ (λ j c s hc hI => ?_) λ s hI => ?_
  ·obtain ⟨h1, h2, h3⟩ := hI
   have hj : j < (isl b p (B2 b p n)).Ac.length := (aa.1 hc).1
   have hcm := yD (ae hc)
   unfold zG
   refine (c8 hcm.1 hcm.2).bind λ y hy => ?_
   have hr := (h.so y (ae hy)).1
   have e : (Kd b).getD c.toNat 0 = y.Rating := by simp [Kd, List.getD, hy]
   rw [Bb (by omega)]
   refine c5 ⟨?_, by omega, by omega⟩
   rw [Bi hc, M0, h1, e]
  ·rw [ax] at hI
   unfold E2
   rw [← hI.1]
   exact ⟨rfl, hI.2.1, by omega⟩
 obtain ⟨r, e, h1, h2⟩ := key
 rw [h1] at e
 exact ⟨e, h2⟩
def Cf (b : Aa) (p : Ab) (n : Nat) : Int := max 0 (B8 b p n - E2 b p n)
theorem Ab3 {b : Aa} (h : Aw b) {p : Ab} (hp : As b p) (acts : List An) {n : Nat} (hn : n < b.Aq.toNat) : Pp ⟨b, p, acts⟩ (n : Int) = some (Cf b p n) := by
 obtain ⟨h1, h2, h3⟩ := An5 h hp hn
 obtain ⟨h4, h5, h6⟩ := Abx h hp hn
 unfold Pp
 simp only [h1, h4, ab]
 rw [Bb (by omega)]; rfl
theorem A34 {b : Aa} (h : Aw b) {p : Ab} (hp : As b p) {n : Nat} (hn : n < b.Aq.toNat) : 0 <= Cf b p n /\ Cf b p n <= 800000 := by
 obtain ⟨h1, h2, h3⟩ := An5 h hp hn
 obtain ⟨h4, h5, h6⟩ := Abx h hp hn
 unfold Cf
 omega
def Bh (p : Ab) (L : List Int) : Ab := ⟨p.Ag, p.Ac, L, p.Ao⟩
def Br (p : Ab) (C : List Bool) : Ab := ⟨C, p.Ac, p.Ak, p.Ao⟩
def C7 (b : Aa) (p : Ab) (n : Nat) (c : Int) : Int := min (Cf b p n) (p.Ak.getD c.toNat 0 - (b.Ad.getD c.toNat default).Least)
def Ig (b : Aa) (p : Ab) (n : Nat) (z : List Int × List An) (c : Int) : List Int × List An :=
 if 0 < C7 b (Bh p z.1) n c then (z.1.set c.toNat (z.1.getD c.toNat 0 - C7 b (Bh p z.1) n c), z.2 ++ [⟨5, c, z.1.getD c.toNat 0 - C7 b (Bh p z.1) n c⟩]) else z
def Gc (b : Aa) (p : Ab) (n : Nat) (l : List Int) (z : List Int × List An) : List Int × List An := l.foldl (Ig b p n) z
theorem Aau {b : Aa} {p : Ab} (hp : As b p) {c : Nat} {v : Int} (hv : 0 <= v /\ v <= (b.Ad.getD c default).Load) : As b (Bh p (p.Ak.set c v)) where
 ncl := hp.ncl
 nso := hp.nso
 nli := by simp [Bh, hp.nli]
 run := hp.run
 lim i n x hn hx := by
  simp only [Bh, au] at hn
  by_cases e : c = i
  ·subst e
   have ex : b.Ad.getD c default = x := by simp [List.getD, hx]
   rw [ex] at hv
   rw [if_pos rfl] at hn
   split at hn
   ·cases hn; exact hv
   ·cases hn
  ·rw [if_neg e] at hn
   exact hp.lim i n x hn hx
 one := hp.one
 brk := hp.brk
theorem yC {b : Aa} (h : Aw b) {p : Ab} {n : Nat} {z : List Int × List An} (hz : As b (Bh p z.1)) {c : Int} (h0 : 0 <= c) (h1 : c < b.Ad.length) : As b (Bh p (Ig b p n z c).1) := by
 unfold Ig
 split
 ·rename_i hl
  obtain ⟨_, g2, g3, _⟩ := Mh h hz h0 h1
  have hco := (h.co c.toNat _ (F0 (b := b) (i := c.toNat) (by omega))).2.1
  have hm : C7 b (Bh p z.1) n c <= z.1.getD c.toNat 0 - (b.Ad.getD c.toNat default).Least := Int.min_le_right _ _
  exact Aau (p := Bh p z.1) hz (c := c.toNat) ⟨by omega, by
   have : (Bh p z.1).Ak.getD c.toNat 0 = z.1.getD c.toNat 0 := rfl
   omega⟩
 ·exact hz
theorem Ag0 {b : Aa} (h : Aw b) {p : Ab} (hp : As b p) {acts : List An} {l : List Int} (hl : ∀ c, c ∈ l -> 0 <= c /\ c < b.Ad.length) (ha : acts.length + l.length <= 100000) {n : Nat} (hn : n < b.Aq.toNat) :
  Ps ⟨b, p, acts⟩ l (n : Int) = some ⟨b, Bh p (Gc b p n l (p.Ak, acts)).1, (Gc b p n l (p.Ak, acts)).2⟩ /\ As b (Bh p (Gc b p n l (p.Ak, acts)).1) /\ (Gc b p n l (p.Ak, acts)).2.length <= acts.length + l.length := by
 have key : Ok (Ps ⟨b, p, acts⟩ l (n : Int)) λ y => y = ⟨b, Bh p (Gc b p n l (p.Ak, acts)).1, (Gc b p n l (p.Ak, acts)).2⟩ /\ As b (Bh p (Gc b p n l (p.Ak, acts)).1) /\ (Gc b p n l (p.Ak, acts)).2.length <= acts.length + l.length := by
  unfold Ps
  refine Ok.andThen (A := λ s => s = Gc b p n l (p.Ak, acts) /\ As b (Bh p s.1) /\ s.2.length <= acts.length + l.length) (B := λ (_ : Unit) => False) ?_ (λ s hs => ?_) (λ _ h => h.elim)
  ·refine c6 (I := λ j s => s = Gc b p n (l.take j) (p.Ak, acts) /\ As b (Bh p s.1) /\ s.2.length <= acts.length + j) ⟨rfl, hp, by simp⟩ (λ j c s hc hI => ?_) λ s hI => ?_
   ·obtain ⟨h1, h2, h3⟩ := hI
    have hj : j < l.length := (aa.1 hc).1
    have hin := hl c (ae hc)
    obtain ⟨g1, g2, g3, g4⟩ := Mh h h2 hin.1 hin.2
    have hco := (h.co c.toNat _ (F0 (b := b) (i := c.toNat) (by omega))).2.1
    have hcl := (h.co c.toNat _ (F0 (b := b) (i := c.toNat) (by omega))).1
    have hex := A34 h h2 hn
    have hE := Ab3 h h2 s.2 hn
    have hsucc : Gc b p n (l.take (j + 1)) (p.Ak, acts) = Ig b p n s c := by
     rw [Bi hc, h1]; unfold Gc; rw [aM]; rfl
    have hok := yC (n := n) h h2 hin.1 hin.2
    have hless : w64 ((Bh p s.1).Ak.getD c.toNat 0 - (b.Ad.getD c.toNat default).Least) = (Bh p s.1).Ak.getD c.toNat 0 - (b.Ad.getD c.toNat default).Least := Bb (by omega)
    have hlen : s.1.length = b.Ad.length := h2.nli
    unfold Uf
    refine Ok.bind (P := λ y => y = Cf b (Bh p s.1) n) (cE hE rfl) λ y hy => ?_
    subst hy
    refine Ok.bind (P := λ y => y = (Bh p s.1).Ak.getD c.toNat 0) (cE g1 rfl) λ y hy => ?_
    subst hy
    refine Ok.bind (P := λ y => y = b.Ad.getD c.toNat default) (cE (A8g hin.1 hin.2) rfl) λ y hy => ?_
    subst hy
    have em : min (Cf b (Bh p s.1) n) (w64 ((Bh p s.1).Ak.getD c.toNat 0 - (b.Ad.getD c.toNat default).Least)) = C7 b (Bh p s.1) n c := by rw [hless]; rfl
    have hlb : 0 < C7 b (Bh p s.1) n c -> 0 <= (Bh p s.1).Ak.getD c.toNat 0 - C7 b (Bh p s.1) n c /\ (Bh p s.1).Ak.getD c.toNat 0 - C7 b (Bh p s.1) n c <= 50000 := λ hh => by
     have hm : C7 b (Bh p s.1) n c <= (Bh p s.1).Ak.getD c.toNat 0 - (b.Ad.getD c.toNat default).Least := Int.min_le_right _ _
     omega
    refine c3 (λ hq => ?_) (λ hq => ?_)
    ·simp only [X5, em, da, gt_iff_lt] at hq
     have hb2 := hlb hq
     rw [em, Bb (by omega)]
     have eS : Ig b p n s c = (s.1.set c.toNat (s.1.getD c.toNat 0 - C7 b (Bh p s.1) n c), s.2 ++ [⟨5, c, s.1.getD c.toNat 0 - C7 b (Bh p s.1) n c⟩]) := by unfold Ig; rw [if_pos hq]
     refine (cI hin.1 (by omega)).bind λ y hy => ?_
     subst hy
     refine Ok.bind (P := λ v => v = s.1.getD c.toNat 0 - C7 b (Bh p s.1) n c) ?_ λ v hv => ?_
     ·refine (c8 hin.1 (by rw [bx]; omega)).mono λ v hv => ?_
      rw [bt (by omega)] at hv
      cases hv; rfl
     ·subst hv
      refine (c9 (by simp; omega)).bind λ w hw => c5 ?_
      subst hw
      rw [hsucc, eS]
      rw [eS] at hok
      exact ⟨rfl, hok, by simp; omega⟩
    ·simp only [X5, em, db, gt_iff_lt] at hq
     have eS : Ig b p n s c = s := by unfold Ig; rw [if_neg hq]
     refine c5 ?_
     rw [hsucc, eS]
     exact ⟨rfl, h2, by show s.2.length <= _; omega⟩
   ·rw [ax] at hI
    exact hI
  ·obtain ⟨h1, h2, h3⟩ := hs
   subst h1
   exact c4 ⟨rfl, h2, h3⟩
 obtain ⟨r, e, h1, h2⟩ := key
 rw [h1] at e
 exact ⟨e, h2⟩
def isC (c : Int) (x : Aj) : Bool := x.Kind == 3 && x.B == c
theorem Atl {b : Aa} (h : Aw b) {p : Ab} (hp : As b p) {acts : List An} (ha : acts.length <= 100000) (c : Int) : Ul ⟨b, p, acts⟩ c = some (⟨b, Br p (acC b p.Ag (isC c)), acts ++ acA b p.Ag (isC c)⟩, c) := by
 have hbl := h.brl
 have hnc := hp.ncl
 refine cL ?_
 unfold Ul
 refine Ok.andThen (A := λ s => s = B5 b p.Ag (isC c) b.Ae.length) (B := λ (_ : Unit) => False) ?_ (λ s hs => ?_) (λ _ h => h.elim)
 ·refine c6 (I := λ j s => s = B5 b p.Ag (isC c) j) rfl (λ j x s hx hs => ?_) λ s hs => hs
  have hj : j < b.Ae.length := (aa.1 hx).1
  have hfl := Gm b p.Ag (isC c) j
  have hfs := Jj (C := p.Ag) (q := isC c) hx
  subst hs
  unfold Uk
  rw [C_ (by omega), Bm (Ky hp hj)]
  simp only [ab]
  have e : T8 x c = isC c x := rfl
  rw [e, hfs]
  cases (p.Ag.getD j false && isC c x) with
  | false => refine c5 ?_; simp
  | true =>
   refine Ok.bind (P := λ y => y = B5 b p.Ag (isC c) j ++ [(j : Int)]) (c9 (by simp; omega)) λ y hy => c5 ?_
   rw [hy]; simp
 ·subst hs
  have hfl := Gm b p.Ag (isC c) b.Ae.length
  refine Ok.andThen (Xl (b := b) (p := p) (acts := acts) (l := B5 b p.Ag (isC c) b.Ae.length) (by omega) λ i hi => ?_) (λ s hs => ?_) (λ _ h => h.elim)
  ·obtain ⟨k, rfl, hk, _⟩ := Ft.1 hi
   omega
  ·subst hs
   exact c4 rfl
def G_ (b : Aa) (p : Ab) (n : Nat) (z : List Bool × List An) (c : Int) : List Bool × List An :=
 if 0 < p.Ak.getD c.toNat 0 /\ 0 < Cf b (Br p z.1) n then (acC b z.1 (isC c), z.2 ++ acA b z.1 (isC c)) else z
def D8 (b : Aa) (p : Ab) (n : Nat) (l : List Int) (z : List Bool × List An) : List Bool × List An := l.foldl (G_ b p n) z
theorem Amn {b : Aa} (h : Aw b) {p : Ab} (hp : As b p) {acts : List An} {l : List Int} (hl : ∀ c, c ∈ l -> 0 <= c /\ c < b.Ad.length) (ha : acts.length + 24 * l.length <= 100000) {n : Nat} (hn : n < b.Aq.toNat) :
  Pr ⟨b, p, acts⟩ l (n : Int) = some ⟨b, Br p (D8 b p n l (p.Ag, acts)).1, (D8 b p n l (p.Ag, acts)).2⟩ /\ As b (Br p (D8 b p n l (p.Ag, acts)).1) /\ (D8 b p n l (p.Ag, acts)).2.length <= acts.length + 24 * l.length := by
 have hbl := h.brl
 have key : Ok (Pr ⟨b, p, acts⟩ l (n : Int)) λ y => y = ⟨b, Br p (D8 b p n l (p.Ag, acts)).1, (D8 b p n l (p.Ag, acts)).2⟩ /\ As b (Br p (D8 b p n l (p.Ag, acts)).1) /\ (D8 b p n l (p.Ag, acts)).2.length <= acts.length + 24 * l.length := by
  unfold Pr
  refine Ok.andThen (A := λ s => ∃ z : List Bool × List An, s = (b.Aq, b.Ae, b.Ac, b.Ad, b.Phase, b.Ar, z.1, p.Ac, p.Ak, p.Ao, z.2) /\ z = D8 b p n l (p.Ag, acts) /\ As b (Br p z.1) /\ z.2.length <= acts.length + 24 * l.length) (B := λ (_ : Unit) => False) ?_ (λ s hs => ?_) (λ _ h => h.elim)
  ·refine c6 (I := λ j s => ∃ z : List Bool × List An, s = (b.Aq, b.Ae, b.Ac, b.Ad, b.Phase, b.Ar, z.1, p.Ac, p.Ak, p.Ao, z.2) /\ z = D8 b p n (l.take j) (p.Ag, acts) /\ As b (Br p z.1) /\ z.2.length <= acts.length + 24 * j) ⟨(p.Ag, acts), rfl, rfl, hp, by simp⟩ (λ j c s hc hI => ?_) λ s hI => ?_
   ·obtain ⟨z, h0, h1, h2, h3⟩ := hI
    subst h0
    have hj : j < l.length := (aa.1 hc).1
    have hin := hl c (ae hc)
    obtain ⟨g1, g2, g3, g4⟩ := Mh h hp hin.1 hin.2
    have hE := Ab3 h h2 z.2 hn
    have hsucc : D8 b p n (l.take (j + 1)) (p.Ag, acts) = G_ b p n z c := by
     rw [Bi hc, h1]; unfold D8; rw [aM]; rfl
    unfold Ue
    refine Ok.bind (P := λ y => y = p.Ak.getD c.toNat 0) (cE g1 rfl) λ y hy => ?_
    subst hy
    have stay : ¬ (0 < p.Ak.getD c.toNat 0 /\ 0 < Cf b (Br p z.1) n) -> ∃ w : List Bool × List An, (b.Aq, b.Ae, b.Ac, b.Ad, b.Phase, b.Ar, z.1, p.Ac, p.Ak, p.Ao, z.2) = (b.Aq, b.Ae, b.Ac, b.Ad, b.Phase, b.Ar, w.1, p.Ac, p.Ak, p.Ao, w.2) /\ w = D8 b p n (l.take (j + 1)) (p.Ag, acts) /\ As b (Br p w.1) /\ w.2.length <= acts.length + 24 * (j + 1) := λ hh => by
     have eS : G_ b p n z c = z := by unfold G_; rw [if_neg hh]
     exact ⟨z, rfl, by rw [hsucc, eS], h2, by omega⟩
    cases hq : decide (p.Ak.getD c.toNat 0 > 0) with
    | false =>
     simp only [db] at hq
     exact c5 (stay λ hh => hq hh.1)
    | true =>
     simp only [da] at hq
     refine Ok.bind (P := λ y => y = Cf b (Br p z.1) n) (cE hE rfl) λ y hy => ?_
     subst hy
     cases hq2 : decide (Cf b (Br p z.1) n > 0) with
     | false =>
      simp only [db] at hq2
      exact c5 (stay λ hh => hq2 hh.2)
     | true =>
      simp only [da] at hq2
      have hS := Atl h h2 (acts := z.2) (by omega) c
      refine Ok.bind (P := λ y => y = _) (cE hS rfl) λ y hy => c5 ?_
      subst hy
      have eS : G_ b p n z c = (acC b z.1 (isC c), z.2 ++ acA b z.1 (isC c)) := by unfold G_; rw [if_pos ⟨hq, hq2⟩]
      refine ⟨(acC b z.1 (isC c), z.2 ++ acA b z.1 (isC c)), rfl, by rw [hsucc, eS], Pk h2 (isC c), ?_⟩
      have := V8 b z.1 (isC c)
      show (z.2 ++ acA b z.1 (isC c)).length <= _
      rw [aJ]; omega
   ·rw [ax] at hI
    exact hI
  ·obtain ⟨z, h0, h1, h2, h3⟩ := hs
   subst h0; subst h1
   exact c4 ⟨rfl, h2, h3⟩
 obtain ⟨r, e, h1, h2⟩ := key
 rw [h1] at e
 exact ⟨e, h2⟩
def C1 (x : Af) (c : Int) : Bool := x.Ad.any (c == ·)
theorem A13 {x : Af} (hx : x.Ad.length <= 1000) (c : Int) : Pt c x = some (!C1 x c) := by
 unfold Pt
 rw [Fe _ _ (by omega)]; rfl
theorem Ab8 {x : Af} (hx : x.Ad.length <= 1000) : ∀ (l : List Int) (k : Nat), foldI (Ny x) l k () = match l.findIdx? λ c => !C1 x c with
  | some j => some (.ret (cnt 0 (k + j), x))
  | none => some (.next ())
 | [], _ => rfl
 | c :: l, k => by
  simp only [foldI, Ny, A13 hx, ab, List.findIdx?_cons]
  cases hq : (!C1 x c) with
  | true => rfl
  | false =>
   simp only [cond_false, bK, if_false]
   rw [Ab8 hx l (k + 1)]
   cases l.findIdx? λ c => !C1 x c with
   | none => rfl
   | some j =>
    have e : k + 1 + j = k + (j + 1) := by omega
    simp only [bE, e]
theorem A37 {x : Af} (hx : x.Ad.length <= 1000) (l : List Int) (hl : l.length <= 1000) : Uh l x = some (l.filter (C1 x), x) := by
 refine cL ?_
 unfold Uh uF
 rw [Ab8 hx]
 cases hf : l.findIdx? λ c => !C1 x c with
 | none =>
  rw [cC] at hf
  refine c4 ?_
  have : l.filter (C1 x) = l := by
   rw [cv]
   intro c hc
   have := hf c hc
   simpa using this
  rw [this]
 | some i =>
  rw [cD] at hf
  obtain ⟨hi, hp, hn⟩ := hf
  have e0 : cnt 0 (0 + i) = (i : Int) := by rw [aG]; exact C_ (by omega)
  simp only [e0, andThen, ab]
  refine c3 (λ hc => ?_) (λ _ => ?_)
  ·simp only [de] at hc; omega
  have e1 : w64 ((i : Int) + 1) = (i : Int) + 1 := Bb (by omega)
  rw [e1]
  refine Ok.andThen (A := λ s => 0 <= s.1 /\ s.1 <= (l.length : Int) /\ s.2.2.length = l.length /\ s.2.2.take s.1.toNat = l.filter (C1 x)) (B := λ (_ : Unit) => False) ?_ ?_ (λ _ h => h.elim)
  ·refine c7 (λ s => (0 <= s.1 /\ s.1 < s.2.1 /\ s.2.1 <= (l.length : Int)) /\ s.2.2.length = l.length /\ s.2.2.take s.1.toNat = (l.take s.2.1.toNat).filter (C1 x) /\ s.2.2.drop s.2.1.toNat = l.drop s.2.1.toNat) (λ s => ((l.length : Int) - s.2.1).toNat) _ _ ?_ ?_ ?_
   ·refine ⟨by dsimp only; omega, rfl, ?_, rfl⟩
    dsimp only
    have e2 : ((i : Int) + 1).toNat = i + 1 := by omega
    rw [e2, aE, Bi (af hi), aY]
    have h1 : (l.take i).filter (C1 x) = l.take i := by
     rw [cv]
     intro c hc
     obtain ⟨j, hj, rfl⟩ := cu hc
     simp only [aO] at hj
     rw [List.getElem_take]
     have := hn j (by omega)
     simpa using this
    have h2 : C1 x l[i] = false := by simpa using hp
    rw [h1]
    simp [h2]
   ·dsimp only; omega
   ·rintro ⟨a, j, m⟩ ⟨⟨h1, h2, h3⟩, h4, h5, h6⟩
    dsimp only at h1 h2 h3 h4 h5 h6
    unfold Ug Ah9
    dsimp only
    refine c3 (λ hq => ?_) (λ hq => ?_)
    ·simp only [da] at hq
     have e1 : w64 (j + 1) = j + 1 := Bb (by omega)
     have e2 : w64 (a + 1) = a + 1 := Bb (by omega)
     have e3 : (j + 1).toNat = j.toNat + 1 := by omega
     have e4 : (a + 1).toNat = a.toNat + 1 := by omega
     refine (c8 (by omega) (by omega)).bind λ y hy => ?_
     have hyl : l[j.toNat]? = some y := by
      have := congrArg (·[0]?) h6
      simp only [aq, bZ] at this
      rw [← this]; exact hy
     have hdrop : ∀ (q : List Int), q.drop j.toNat = l.drop j.toNat -> q.drop (j.toNat + 1) = l.drop (j.toNat + 1) := λ q hq => by
      rw [← bF, hq, bF]
     rw [A13 hx]
     simp only [ab, Bool.not_not]
     refine c3 (λ hf => ?_) (λ hf => ?_)
     ·refine (c8 (by omega) (by omega)).bind λ _ _ => (cI (by omega) (by omega)).bind λ z hz => ?_
      rw [e1, e2]
      subst hz
      refine c5 ⟨⟨by dsimp only; omega, by simpa using h4, ?_, ?_⟩, by dsimp only; omega⟩
      ·dsimp only
       rw [e3, e4, Bi hyl, aY, ← h5]
       rw [Bi (x := y) (by rw [bt (by omega)])]
       simp [hf, List.take_set_of_le]
      ·dsimp only
       rw [e3, List.drop_set_of_lt (by omega)]
       exact hdrop m h6
     ·rw [e1]
      refine c5 ⟨⟨by dsimp only; omega, h4, ?_, ?_⟩, by dsimp only; omega⟩
      ·dsimp only
       rw [e3, Bi hyl, aY, ← h5]
       simp [hf]
      ·dsimp only
       rw [e3]; exact hdrop m h6
    ·simp only [db] at hq
     have e : j.toNat = l.length := by omega
     refine cJ ⟨h1, by dsimp only; omega, h4, ?_⟩
     dsimp only
     rw [h5, e, ax]
  ·rintro ⟨a, j, m⟩ ⟨h1, h2, h3, h4⟩
   dsimp only at h1 h2 h3 h4 ⊢
   have hc : (Gn m a.toNat ((Int.toNat (m.length : Int)) - a.toNat) (0 : Int)).length = l.length := by
    simp [Gn]; omega
   refine (Ok.bndI h1 (by omega) (by omega)).bind λ _ _ => (Ok.bndI (by omega) h1 (by rw [hc]; omega)).bind λ _ _ => c4 ?_
   rw [← h4]
   unfold Gn
   rw [Nat.sub_zero, ch (by simp; omega), List.take_take, Nat.min_self]
def Di (b : Aa) (x : Af) : List Int := (Gk b).filter (C1 x)
theorem Fq {b : Aa} (h : Aw b) {x : Af} {c : Int} (hc : c ∈ Di b x) : 0 <= c /\ c < b.Ad.length := Au8 h (an.1 hc).1
theorem Xk {b : Aa} (h : Aw b) (x : Af) : (Di b x).length <= 16 := by
 have h1 := bk (C1 x) (Gk b)
 have h2 := vQ h
 have h3 := h.col
 unfold Di; omega
def Dy (x : Af) : Nat := (x.Aq.headD 0).toNat
def Fz (b : Aa) (x : Af) (z : Ab × List An) : List Int × List An := Gc b z.1 (Dy x) (Di b x) (z.1.Ak, z.2)
def K2 (b : Aa) (x : Af) (z : Ab × List An) : List Bool × List An := D8 b (Bh z.1 (Fz b x z).1) (Dy x) (Di b x) (z.1.Ag, (Fz b x z).2)
def Ie (b : Aa) (z : Ab × List An) (x : Af) : Ab × List An :=
 if 0 < x.Ac.length then (Br (Bh z.1 (Fz b x z).1) (K2 b x z).1, (K2 b x z).2) else z
def G7 (b : Aa) (l : List Af) (z : Ab × List An) : Ab × List An := l.foldl (Ie b) z
structure Aev (b : Aa) (x : Af) : Prop where
 cons : x.Ad.length <= 16
 ne : x.Aq ≠ []
 bus : ∀ n, n ∈ x.Aq -> 0 <= n /\ n < b.Aq
theorem O7 {b : Aa} (h : Aw b) {p : Ab} {x : Af} (hx : x ∈ Bj b p) : Aev b x := by
 have hcl := h.col
 unfold Bj at hx
 obtain ⟨h1, h2⟩ := an.1 hx
 obtain ⟨f, hf, rfl⟩ := al.1 h1
 have hc : (isl b p f).Ad.length <= b.Ad.length := Dk _ _
 refine ⟨by omega, λ e => ?_, λ n hn => ?_⟩
 ·unfold Ih at h2
  rw [e] at h2; simp at h2
 ·obtain ⟨k, hk, rfl⟩ := al.1 hn
  have := aK.1 (an.1 hk).1
  omega
theorem Mo {b : Aa} {x : Af} (hx : Aev b x) : getI x.Aq 0 = some ((Dy x : Nat) : Int) /\ Dy x < b.Aq.toNat := by
 unfold Dy
 cases hb : x.Aq with
 | nil => exact absurd hb hx.ne
 | cons n l =>
  have := hx.bus n (by rw [hb]; exact ag)
  simp only [List.headD_cons]
  refine ⟨?_, by omega⟩
  have e : (n.toNat : Int) = n := by omega
  rw [e]; rfl
theorem A3h {b : Aa} (h : Aw b) {p : Ab} (hp : As b p) {acts : List An} (ha : acts.length <= 1000) :
  Pu ⟨b, p, acts⟩ = some ⟨b, (G7 b (Bj b p) (p, acts)).1, (G7 b (Bj b p) (p, acts)).2⟩ /\ As b (G7 b (Bj b p) (p, acts)).1 /\ (G7 b (Bj b p) (p, acts)).2.length <= 10000 := by
 have hil := O5 b p
 have hbu := h.buses
 have hcl := h.col
 have hol := vQ h
 have key : Ok (Pu ⟨b, p, acts⟩) λ y => y = ⟨b, (G7 b (Bj b p) (p, acts)).1, (G7 b (Bj b p) (p, acts)).2⟩ /\ As b (G7 b (Bj b p) (p, acts)).1 /\ (G7 b (Bj b p) (p, acts)).2.length <= 10000 := by
  unfold Pu
  simp only [(Jw h).1, ab]
  have hi : F89 b p = some (Bj b p) := Jh h hp
  refine Ok.bind (P := λ y => y = Bj b p) (cE hi rfl) λ y hy => ?_
  subst hy
  refine Ok.andThen (A := λ s => ∃ z : Ab × List An, s = (b.Aq, b.Ae, b.Ac, b.Ad, b.Phase, b.Ar, z.1.Ag, z.1.Ac, z.1.Ak, z.1.Ao, z.2) /\ z = G7 b (Bj b p) (p, acts) /\ As b z.1 /\ z.2.length <= 10000) (B := λ (_ : Unit) => False) ?_ (λ s hs => ?_) (λ _ h => h.elim)
  ·refine c6 (I := λ j s => ∃ z : Ab × List An, s = (b.Aq, b.Ae, b.Ac, b.Ad, b.Phase, b.Ar, z.1.Ag, z.1.Ac, z.1.Ak, z.1.Ao, z.2) /\ z = G7 b ((Bj b p).take j) (p, acts) /\ As b z.1 /\ z.2.length <= 1000 + 400 * j) ⟨(p, acts), rfl, rfl, hp, by simpa using ha⟩ (λ j x s hx hI => ?_) λ s hI => ?_
   ·obtain ⟨z, h0, h1, h2, h3⟩ := hI
    subst h0
    have hj : j < (Bj b p).length := (aa.1 hx).1
    have hin := O7 h (ae hx)
    have hsucc : G7 b ((Bj b p).take (j + 1)) (p, acts) = Ie b z x := by
     rw [Bi hx, h1]; unfold G7; rw [aM]; rfl
    have hc := hin.cons
    have hol2 := Xk h x
    obtain ⟨e0, hb0⟩ := Mo hin
    unfold Uy
    have ecl : Y3 (Gk b) = some (Gk b) := by
     unfold Y3
     rw [Mr (by omega)]
    rw [ecl]
    simp only [ab]
    rw [A37 (by omega) _ (by omega)]
    simp only [ab]
    refine c3 (λ hq => ?_) (λ hq => ?_)
    ·simp only [da] at hq
     rw [e0]
     simp only [ab]
     obtain ⟨l1, l2, l3⟩ := Ag0 h h2 (acts := z.2) (l := Di b x) (λ c hc => Fq h hc) (by omega) hb0
     refine Ok.bind (P := λ y => y = _) (cE l1 rfl) λ y hy => ?_
     subst hy
     obtain ⟨t1, t2, t3⟩ := Amn h l2 (acts := (Fz b x z).2) (l := Di b x) (λ c hc => Fq h hc) (by unfold Fz; omega) hb0
     refine Ok.bind (P := λ y => y = _) (cE t1 rfl) λ y hy => c5 ?_
     subst hy
     have eS : Ie b z x = (Br (Bh z.1 (Fz b x z).1) (K2 b x z).1, (K2 b x z).2) := by unfold Ie; rw [if_pos (by omega)]
     refine ⟨(Br (Bh z.1 (Fz b x z).1) (K2 b x z).1, (K2 b x z).2), rfl, by rw [hsucc, eS], t2, ?_⟩
     have t4 : (K2 b x z).2.length <= (Fz b x z).2.length + 24 * (Di b x).length := t3
     have l4 : (Fz b x z).2.length <= z.2.length + (Di b x).length := l3
     show (K2 b x z).2.length <= _
     omega
    ·simp only [db] at hq
     have eS : Ie b z x = z := by unfold Ie; rw [if_neg (by omega)]
     exact c5 ⟨z, rfl, by rw [hsucc, eS], h2, by omega⟩
   ·rw [ax] at hI
    obtain ⟨z, h0, h1, h2, h3⟩ := hI
    exact ⟨z, h0, h1, h2, by omega⟩
  ·obtain ⟨z, h0, h1, h2, h3⟩ := hs
   subst h0; subst h1
   exact c4 ⟨rfl, h2, h3⟩
 obtain ⟨r, e, h1, h2⟩ := key
 rw [h1] at e
 exact ⟨e, h2⟩
def A4t (b : Aa) (p : Ab) : Ab × List An := G7 b (Bj b (E5 b p)) (E5 b p, X3 b p)
def B4 (b : Aa) (p : Ab) : Ab := (A4t b p).1
def D0 (b : Aa) (p : Ab) : List An := (A4t b p).2
theorem Gj {b : Aa} (h : Aw b) {p : Ab} (hp : As b p) : Alm b p = some (B4 b p, D0 b p, 0) /\ As b (B4 b p) /\ (D0 b p).length <= 10000 := by
 have hbl := h.brl
 have hcl := Ah6 b p
 obtain ⟨s1, s2, s3⟩ := A3h h (J6 hp) (acts := X3 b p) (by omega)
 refine ⟨?_, s2, s3⟩
 unfold Alm uE uD
 rw [Fa h hp, Gp h hp]
 simp only [ab, bne_self_eq_false, cond_false]
 rw [A0k h hp]
 simp only [ab]
 rw [s1]
 rfl
theorem A01 {b : Aa} (h : Aw b) {p : A0} (hp : As b p.Power) (h1 : p.A6.length <= 1000) (h2 : p.Bc.length <= 10000000) : F63 b p = some ⟨p, b, [], []⟩ := by
 unfold F63 Aln F84
 rw [Gp h hp, Mr (by omega), Mr (by omega)]
 rfl
theorem A4s : F13 = some true := by kernel_rfl
theorem Nn {α : Type} {f : Nat -> α -> Unit -> Option (Ctl Unit Bool)} {l m : List α} {e : α -> α -> Bool} (he : ∀ x y, e x y = true -> x = y)
  (hf : ∀ (j : Nat) x y, l[j]? = some x -> m[j]? = some y -> f j x () = bif !e x y then some (.ret false) else some (.next ())) (hl : l.length = m.length) :
  Ok (andThen (foldI f l 0 ()) some λ _ => some true) λ v => v = true -> l = m := by
 refine Ok.andThen (A := λ _ => l = m) (B := λ v => v = false) ?_ (λ _ hs => c4 λ _ => hs) (λ v hv => c4 λ hh => by rw [hv] at hh; cases hh)
 refine c6 (I := λ j _ => l.take j = m.take j) rfl (λ j x _ hx hI => ?_) λ _ hI => ?_
 ·have hj := (aa.1 hx).1
  have hy : m[j]? = some (m[j]'(by omega)) := af (by omega)
  rw [hf j x _ hx hy]
  refine c3 (λ _ => Ok.ret rfl) (λ hq => c5 ?_)
  have := he _ _ (by simpa using hq)
  rw [Bi hx, Bi hy, hI, ← this]
 ·rw [ax] at hI
  rw [hI, hl, ax]
theorem A6q {l m : List Bool} (h : l.length <= 1000) : Ok (Als l m) λ v => v = true -> l = m := by
 unfold Als
 refine c3 (λ _ => c4 λ hh => by cases hh) (λ hq => ?_)
 have hl : l.length = m.length := by simp only [dj] at hq; omega
 refine Nn (e := λ x y => x == y) (λ x y hh => by simpa using hh) (λ j x y hx hy => ?_) hl
 have hj := (aa.1 hx).1
 unfold Aae
 rw [C_ (by omega), Bm hy]; rfl
theorem A6p {l m : List Int} (h : l.length <= 1000) : Ok (Alq l m) λ v => v = true -> l = m := by
 unfold Alq
 refine c3 (λ _ => c4 λ hh => by cases hh) (λ hq => ?_)
 have hl : l.length = m.length := by simp only [dj] at hq; omega
 refine Nn (e := λ x y => x == y) (λ x y hh => by simpa using hh) (λ j x y hx hy => ?_) hl
 have hj := (aa.1 hx).1
 unfold Aac
 rw [C_ (by omega), Bm hy]; rfl
theorem A6n {l m : List Ah} (h : l.length <= 1000) : Ok (Alr l m) λ v => v = true -> l = m := by
 unfold Alr
 refine c3 (λ _ => c4 λ hh => by cases hh) (λ hq => ?_)
 have hl : l.length = m.length := by simp only [dj] at hq; omega
 refine Nn (e := λ x y => (x.State == y.State) && ((x.Since == y.Since) && ((x.Ar == y.Ar) && ((x.Phase == y.Phase) && true)))) (λ x y hh => ?_) (λ j x y hx hy => ?_) hl
 ·simp only [ac, de] at hh
  obtain ⟨h1, h2, h3, h4, _⟩ := hh
  cases x; cases y; simp_all
 ·have hj := (aa.1 hx).1
  unfold Aad
  rw [C_ (by omega), Bm hy]; rfl
theorem A6o {l m : List Al} (h : l.length <= 1000) : Ok (Alp l m) λ v => v = true -> l = m := by
 unfold Alp
 refine c3 (λ _ => c4 λ hh => by cases hh) (λ hq => ?_)
 have hl : l.length = m.length := by simp only [dj] at hq; omega
 refine Nn (e := λ x y => (x.Kind == y.Kind) && ((x.Number == y.Number) && true)) (λ x y hh => ?_) (λ j x y hx hy => ?_) hl
 ·simp only [ac, de] at hh
  obtain ⟨h1, h2, _⟩ := hh
  cases x; cases y; simp_all
 ·have hj := (aa.1 hx).1
  unfold Aab
  rw [C_ (by omega), Bm hy]; rfl
def Ka (p q : Ab) : Bool := (F60 p q).getD false
theorem Amu {p : Ab} (hp : A1d p) (q : Ab) : F60 p q = some (Ka p q) /\ (Ka p q = true -> p = q) := by
 have h1 := hp.c
 have h2 := hp.s
 have h3 := hp.l
 have h4 := hp.k
 have key : Ok (F60 p q) λ v => v = true -> p = q := by
  unfold F60
  refine (A6q (l := p.Ag) (m := q.Ag) (by omega)).bind λ v1 e1 => ?_
  cases v1 with
  | false => exact c4 λ hh => by simp at hh
  | true =>
   refine Ok.bind (P := λ v => v = true -> p.Ac = q.Ac) (A6n (by omega)) λ v2 e2 => ?_
   cases v2 with
   | false => exact c4 λ hh => by simp at hh
   | true =>
    refine Ok.bind (P := λ v => v = true -> p.Ak = q.Ak) (A6p (by omega)) λ v3 e3 => ?_
    cases v3 with
    | false => exact c4 λ hh => by simp at hh
    | true =>
     refine Ok.bind (P := λ v => v = true -> p.Ao = q.Ao) (A6o (by omega)) λ v4 e4 => c4 λ hh => ?_
     have w1 := e1 rfl
     have w2 := e2 rfl
     have w3 := e3 rfl
     have w4 := e4 (by simpa using hh)
     cases p; cases q; simp_all
 obtain ⟨r, e, hr⟩ := key
 have : Ka p q = r := by unfold Ka; rw [e]; rfl
 rw [this]
 exact ⟨e, hr⟩
def ap (p : Ab) (x : An) : Ab := if x.Kind = 2 then Br p (p.Ag.set x.Unit.toNat false) else Bh p (p.Ak.set x.Unit.toNat x.Value)
def Ath (b : Aa) (x : An) : Prop := (x.Kind = 2 /\ 0 <= x.Unit /\ x.Unit < b.Ae.length) \/ (x.Kind = 5 /\ (0 <= x.Unit /\ x.Unit < b.Ad.length) /\ 0 <= x.Value /\ x.Value <= (b.Ad.getD x.Unit.toNat default).Load)
theorem A21 {b : Aa} {p : Ab} (hp : As b p) {x : An} (hx : Ath b x) : As b (ap p x) := by
 unfold ap
 rcases hx with ⟨hk, _⟩ | ⟨hk, h1, h2⟩
 ·rw [if_pos hk]; exact Aqe hp _
 ·rw [if_neg (by omega)]; exact Aau hp h2
def E0 (b : Aa) (p : Ab) (z : Ab × List An) : Prop := z.2.foldl ap p = ⟨z.1.Ag, p.Ac, z.1.Ak, p.Ao⟩ /\ ∀ x, x ∈ z.2 -> Ath b x
theorem Aio {p q : Ab} : ∀ (l : List Int) (C : List Bool), q = Br p C -> (Lc l).foldl ap q = Br p (C5 C l)
 | [], C, hq => hq
 | i :: l, C, hq => by
  subst hq
  exact Aio l (C.set i.toNat false) rfl
theorem uJ {b : Aa} {p : Ab} {z : Ab × List An} (hz : E0 b p z) (q : Aj -> Bool) (S : List Ah) : E0 b p (⟨acC b z.1.Ag q, S, z.1.Ak, z.1.Ao⟩, z.2 ++ acA b z.1.Ag q) := by
 refine ⟨?_, λ x hx => ?_⟩
 ·dsimp only
  rw [aM, hz.1]
  exact Aio (p := ⟨z.1.Ag, p.Ac, z.1.Ak, p.Ao⟩) (B5 b z.1.Ag q b.Ae.length) z.1.Ag rfl
 ·rcases ar.1 hx with hx | hx
  ·exact hz.2 x hx
  ·obtain ⟨i, hi, rfl⟩ := al.1 hx
   obtain ⟨k, rfl, hk, _⟩ := Ft.1 hi
   exact .inl ⟨rfl, by dsimp only; omega, by dsimp only; omega⟩
theorem A_s {b : Aa} {p q r : Ab} {l : List An} (hz : E0 b p (q, l)) (h1 : r.Ag = q.Ag) (h2 : r.Ak = q.Ak) : E0 b p (r, l) := by
 refine ⟨?_, hz.2⟩
 have := hz.1
 dsimp only at this ⊢
 rw [this, h1, h2]
theorem Atk {b : Aa} (h : Aw b) {p q : Ab} (n : Nat) : ∀ (l : List Int) (z : List Int × List An), (∀ c, c ∈ l -> 0 <= c /\ c < b.Ad.length) -> As b (Bh q z.1) -> E0 b p (Bh q z.1, z.2) -> E0 b p (Bh q (Gc b q n l z).1, (Gc b q n l z).2)
 | [], _, _, _, hz => hz
 | c :: l, z, hl, hs, hz => by
  have hin := hl c ag
  have hok := yC (n := n) h hs hin.1 hin.2
  refine Atk h n l (Ig b q n z c) (λ d hd => hl d (ai _ hd)) hok ?_
  unfold Ig at hok ⊢
  split
  ·rename_i hq
   rw [if_pos hq] at hok
   obtain ⟨_, w2, w3, _⟩ := Mh h hok hin.1 hin.2
   have hlen : z.1.length = b.Ad.length := hs.nli
   have ev : ∀ v : Int, (z.1.set c.toNat v).getD c.toNat 0 = v := λ v => by rw [Hq, if_pos ⟨rfl, by omega⟩]
   have w2' : 0 <= (z.1.set c.toNat (z.1.getD c.toNat 0 - C7 b (Bh q z.1) n c)).getD c.toNat 0 := w2
   have w3' : (z.1.set c.toNat (z.1.getD c.toNat 0 - C7 b (Bh q z.1) n c)).getD c.toNat 0 <= (b.Ad.getD c.toNat default).Load := w3
   rw [ev] at w2' w3'
   refine ⟨?_, λ x hx => ?_⟩
   ·dsimp only
    rw [aM, hz.1]; rfl
   ·rcases ar.1 hx with hx | hx
    ·exact hz.2 x hx
    ·simp only [aT] at hx
     subst hx
     exact .inr ⟨rfl, hin, w2', w3'⟩
  ·exact hz
theorem Amo {b : Aa} {p q : Ab} (n : Nat) : ∀ (l : List Int) (z : List Bool × List An), E0 b p (Br q z.1, z.2) -> E0 b p (Br q (D8 b q n l z).1, (D8 b q n l z).2)
 | [], _, hz => hz
 | c :: l, z, hz => by
  refine Amo n l (G_ b q n z c) ?_
  unfold G_
  split
  ·exact uJ (z := (Br q z.1, z.2)) hz (isC c) q.Ac
  ·exact hz
theorem A3j {b : Aa} (h : Aw b) {x : Af} (hx : Aev b x) {p : Ab} {z : Ab × List An} (hs : As b z.1) (ha : z.2.length <= 10000) (hz : E0 b p z) : As b (Ie b z x).1 /\ E0 b p (Ie b z x) /\ (Ie b z x).2.length <= z.2.length + 400 := by
 have hol2 := Xk h x
 obtain ⟨e0, hb0⟩ := Mo hx
 unfold Ie
 split
 ·obtain ⟨_, l2, l3⟩ := Ag0 h hs (acts := z.2) (l := Di b x) (λ c hc => Fq h hc) (by omega) hb0
  obtain ⟨_, t2, t3⟩ := Amn h l2 (acts := (Fz b x z).2) (l := Di b x) (λ c hc => Fq h hc) (by unfold Fz; omega) hb0
  have t4 : (K2 b x z).2.length <= (Fz b x z).2.length + 24 * (Di b x).length := t3
  have l4 : (Fz b x z).2.length <= z.2.length + (Di b x).length := l3
  refine ⟨t2, ?_, by dsimp only; omega⟩
  have hl : E0 b p (Bh z.1 (Fz b x z).1, (Fz b x z).2) := Atk h (Dy x) (Di b x) (z.1.Ak, z.2) (λ c hc => Fq h hc) hs hz
  exact Amo (Dy x) (Di b x) (z.1.Ag, (Fz b x z).2) hl
 ·exact ⟨hs, hz, by omega⟩
theorem Anw {b : Aa} (h : Aw b) {p : Ab} : ∀ (l : List Af) (z : Ab × List An), (∀ x, x ∈ l -> Aev b x) -> As b z.1 -> z.2.length + 400 * l.length <= 10000 -> E0 b p z -> E0 b p (G7 b l z)
 | [], _, _, _, _, hz => hz
 | x :: l, z, hl, hs, ha, hz => by
  rw [aX] at ha
  obtain ⟨h1, h2, h3⟩ := A3j h (hl x ag) hs (by omega) hz
  exact Anw h l (Ie b z x) (λ y hy => hl y (ai _ hy)) h1 (by omega) h2
theorem A8h {b : Aa} (p : Ab) : E0 b p (E5 b p, X3 b p) := by
 have h0 : E0 b p (p, []) := ⟨rfl, λ x hx => by cases hx⟩
 have h1 := uJ h0 (B6 p) p.Ac
 have h2 := uJ h1 (Cv b (Cg b p)) p.Ac
 exact A_s h2 rfl rfl
theorem Au5 {b : Aa} (h : Aw b) {p : Ab} (hp : As b p) : E0 b p (B4 b p, D0 b p) := by
 have hil := O5 b (E5 b p)
 have hbu := h.buses
 have hbl := h.brl
 have hcl := Ah6 b p
 exact Anw h (Bj b (E5 b p)) (E5 b p, X3 b p) (λ x hx => O7 h hx) (J6 hp) (by dsimp only; omega) (A8h p)
def Ek : List An -> Ab -> List Ab
 | [], _ => []
 | x :: l, p => ap p x :: Ek l (ap p x)
theorem I3 : ∀ (l : List An) (p : Ab), (Ek l p).length = l.length
 | [], _ => rfl
 | x :: l, p => by simp [Ek, I3 l]
theorem jD : ∀ (l : List An) (x : An) (p : Ab), Ek (l ++ [x]) p = Ek l p ++ [ap (l.foldl ap p) x]
 | [], _, _ => rfl
 | y :: l, x, p => by
  show ap p y :: Ek (l ++ [x]) (ap p y) = _
  rw [jD l x]; rfl
def B1 (b : Aa) (p : Ab) (t : Int) (a : An) : Ab × Int := (F83 b p t a).getD default
theorem Aoj {b : Aa} (h : Aw b) {p : Ab} (hp : As b p) (t : Int) (a : An) : F83 b p t a = some (B1 b p t a) /\ ((B1 b p t a).2 ≠ 0 \/ As b (B1 b p t a).1) := by
 obtain ⟨r, e, hr⟩ := A80 h hp t a
 have : B1 b p t a = r := by unfold B1; rw [e]; rfl
 rw [this]
 exact ⟨e, hr.imp (·.1) (·.2)⟩
def Iw (b : Aa) (p : Ab) (t : Int) (a : An) : Int := if a.Kind = 7 then 1 else (B1 b p t a).2
def Fc (b : Aa) (p : Ab) (t : Int) (a : An) : Ab := (B1 b p t a).1
def doP (b : Aa) (p : Ab) (t : Int) (a : An) : Ab := if Iw b p t a = 0 then B4 b (Fc b p t a) else p
def doE (b : Aa) (p : Ab) (t : Int) (a : An) : List Bl := ⟨t, a, Iw b p t a⟩ :: if Iw b p t a = 0 then (D0 b (Fc b p t a)).map (λ x => ⟨t, x, 0⟩) else []
def Nl (b : Aa) (p : Ab) (t : Int) (a : An) : Ab := (D0 b (Fc b p t a)).foldl ap (Fc b p t a)
def doS (b : Aa) (p : Ab) (t : Int) (a : An) : List Ab :=
 if Iw b p t a = 0 then [Fc b p t a] ++ Ek (D0 b (Fc b p t a)) (Fc b p t a) ++ (if Ka (Nl b p t a) (doP b p t a) = true then [] else [doP b p t a]) else []
theorem Pc {b : Aa} (h : Aw b) {p : Ab} (hp : As b p) {t : Int} {a : An} (he : Iw b p t a = 0) : As b (Fc b p t a) /\ (B1 b p t a).2 = 0 /\ a.Kind ≠ 7 := by
 unfold Iw at he
 by_cases hk : a.Kind = 7
 ·rw [if_pos hk] at he; omega
 ·rw [if_neg hk] at he
  rcases (Aoj h hp t a).2 with h1 | h1
  ·exact absurd he h1
  ·exact ⟨h1, he, hk⟩
theorem Awi {b : Aa} (h : Aw b) {p : Ab} (hp : As b p) (t : Int) (a : An) : As b (doP b p t a) := by
 unfold doP
 split
 ·rename_i he
  exact (Gj h (Pc h hp he).1).2.1
 ·exact hp
theorem Qj {b : Aa} (h : Aw b) {r : A4} {p : Ab} (hp : As b p) (h1 : r.states.length <= 10000000) : Nt r p = some ⟨r.Ay, r.Am, r.events, r.states ++ [p]⟩ := by
 refine cL ?_
 unfold Nt
 rw [Gp h hp]
 simp only [ab]
 exact (c9 (by simp; omega)).bind λ s hs => c4 (by rw [hs])
theorem An1 {r : A4} (h1 : r.events.length <= 10000000) (a : An) (e : Int) : Pw r a e = some ⟨r.Ay, r.Am, r.events ++ [⟨r.Ay.Time, a, e⟩], r.states⟩ := by
 refine cL ?_
 unfold Pw
 exact (c9 (by simp; omega)).bind λ s hs => c4 (by rw [hs])
theorem U7 {b : Aa} : ∀ (l : List An) {p : Ab}, As b p -> (∀ x, x ∈ l -> Ath b x) -> As b (l.foldl ap p)
 | [], _, hp, _ => hp
 | x :: l, p, hp, hl => U7 l (A21 hp (hl x ag)) λ y hy => hl y (ai _ hy)
theorem A_e {b : Aa} (h : Aw b) {T : Int} {P : Ab} {ros : List A3} {evs ev : List Bl} {sts : List Ab} (hp : As b P) (h1 : ev.length <= 1000000) (h2 : sts.length <= 1000000) (a : An) :
  Rg ⟨⟨T, P, ros, evs⟩, b, ev, sts⟩ a = some ⟨⟨T, doP b P T a, ros, evs⟩, b, ev ++ doE b P T a, sts ++ doS b P T a⟩ := by
 obtain ⟨ha, _⟩ := Aoj h hp T a
 refine cL ?_
 unfold Rg
 simp only [ha, ab]
 refine Ok.andThen (A := λ s => s = Iw b P T a) (B := λ (_ : Unit) => False) ?_ (λ s hs => ?_) (λ _ h => h.elim)
 ·unfold Yv Iw
  refine c3 (λ hq => cK ?_) (λ hq => cK ?_)
  ·rw [if_pos (by simpa using hq)]
  ·rw [if_neg (by simpa using hq)]
 subst hs
 rw [An1 (by dsimp only; omega)]
 simp only [ab]
 refine c3 (λ hq => c4 ?_) (λ hq => ?_)
 ·have he : ¬ Iw b P T a = 0 := by simpa using hq
  unfold doP doE doS
  rw [if_neg he, if_neg he, if_neg he]; simp
 have he : Iw b P T a = 0 := by simpa using hq
 obtain ⟨hn, _, _⟩ := Pc h hp he
 have hn' : As b (B1 b P T a).1 := hn
 rw [Qj h hn' (by dsimp only; omega)]
 simp only [ab]
 obtain ⟨p1, p2, p3⟩ := Gj h hn'
 rw [p1]
 simp only [ab]
 have htr := Au5 h hn'
 have eP : doP b P T a = B4 b (B1 b P T a).1 := by unfold doP Fc; rw [if_pos he]
 have eE : doE b P T a = ⟨T, a, 0⟩ :: (D0 b (B1 b P T a).1).map (λ x => ⟨T, x, 0⟩) := by unfold doE Fc; rw [if_pos he, he]
 have eL : Nl b P T a = (D0 b (B1 b P T a).1).foldl ap (B1 b P T a).1 := rfl
 refine Ok.andThen (A := λ s => ∃ q : Ab, q = Nl b P T a /\ s = (T, b.Aq, b.Ae, b.Ac, b.Ad, b.Phase, b.Ar, P.Ag, P.Ac, P.Ak, P.Ao, ros, evs, q.Ag, ev ++ doE b P T a, sts ++ ([(B1 b P T a).1] ++ Ek (D0 b (B1 b P T a).1) (B1 b P T a).1), q.Ak)) (B := λ (_ : Unit) => False) ?_ (λ s hs => ?_) (λ _ h => h.elim)
 ·refine c6 (I := λ j s => ∃ q : Ab, q = ((D0 b (B1 b P T a).1).take j).foldl ap (B1 b P T a).1 /\ (q.Ac = (B1 b P T a).1.Ac /\ q.Ao = (B1 b P T a).1.Ao) /\ s = (T, b.Aq, b.Ae, b.Ac, b.Ad, b.Phase, b.Ar, P.Ag, P.Ac, P.Ak, P.Ao, ros, evs, q.Ag, ev ++ (⟨T, a, 0⟩ :: ((D0 b (B1 b P T a).1).take j).map (λ x => (⟨T, x, 0⟩ : Bl))), sts ++ ([(B1 b P T a).1] ++ Ek ((D0 b (B1 b P T a).1).take j) (B1 b P T a).1), q.Ak)) ⟨(B1 b P T a).1, rfl, ⟨rfl, rfl⟩, ?_⟩ (λ j x s hx hI => ?_) λ s hI => ?_
  ·simp [Ek, he]
  ·obtain ⟨q, hq1, ⟨hq2, hq3⟩, rfl⟩ := hI
   have hj : j < (D0 b (B1 b P T a).1).length := (aa.1 hx).1
   have hin := htr.2 x (ae hx)
   have hqok : As b q := by
    rw [hq1]
    exact U7 _ hn' λ y hy => htr.2 y (aP hy)
   have hapok := A21 hqok hin
   have hcl := hqok.ncl
   have hli := hqok.nli
   unfold Yw
   refine Ok.bind (P := λ y => y = _) (cE (An1 (r := ⟨⟨T, P, ros, evs⟩, b, ev ++ (⟨T, a, 0⟩ :: ((D0 b (B1 b P T a).1).take j).map (λ x => (⟨T, x, 0⟩ : Bl))), sts ++ ([(B1 b P T a).1] ++ Ek ((D0 b (B1 b P T a).1).take j) (B1 b P T a).1)⟩) (by simp; omega) x 0) rfl) λ y hy => ?_
   subst hy
   have hfold : ((D0 b (B1 b P T a).1).take (j + 1)).foldl ap (B1 b P T a).1 = ap q x := by rw [Bi hx, aM, ← hq1]; rfl
   have hint : Ek ((D0 b (B1 b P T a).1).take (j + 1)) (B1 b P T a).1 = Ek ((D0 b (B1 b P T a).1).take j) (B1 b P T a).1 ++ [ap q x] := by rw [Bi hx, jD, ← hq1]
   refine c3 (λ hk => ?_) (λ hk => ?_)
   ·have hk2 : x.Kind = 2 := by simpa using hk
    have hx1 : 0 <= x.Unit /\ x.Unit < b.Ae.length := by
     rcases hin with ⟨_, h3⟩ | ⟨h3, _⟩
     ·exact h3
     ·omega
    have eA : ap q x = ⟨q.Ag.set x.Unit.toNat false, (B1 b P T a).1.Ac, q.Ak, (B1 b P T a).1.Ao⟩ := by
     unfold ap; rw [if_pos hk2, ← hq2, ← hq3]; rfl
    refine (c8 (l := q.Ag) hx1.1 (by omega)).bind λ _ _ => (cI (l := q.Ag) hx1.1 (by omega)).bind λ C hC => ?_
    subst hC
    refine Ok.bind (P := λ y => y = _) (cE (Qj h (r := ⟨⟨T, P, ros, evs⟩, b, (ev ++ (⟨T, a, 0⟩ :: ((D0 b (B1 b P T a).1).take j).map (λ x => (⟨T, x, 0⟩ : Bl)))) ++ [⟨T, x, 0⟩], sts ++ ([(B1 b P T a).1] ++ Ek ((D0 b (B1 b P T a).1).take j) (B1 b P T a).1)⟩) (p := ⟨q.Ag.set x.Unit.toNat false, (B1 b P T a).1.Ac, q.Ak, (B1 b P T a).1.Ao⟩) (by rw [← eA]; exact hapok) (by simp [I3]; omega)) rfl) λ y hy => c5 ?_
    subst hy
    refine ⟨ap q x, hfold.symm, by rw [eA]; exact ⟨rfl, rfl⟩, ?_⟩
    rw [hint, eA, Bi hx]
    simp
   ·have hk2 : ¬ x.Kind = 2 := by simpa using hk
    have hx1 : 0 <= x.Unit /\ x.Unit < b.Ad.length := by
     rcases hin with ⟨h3, _⟩ | ⟨_, h3, _⟩
     ·omega
     ·exact h3
    have eA : ap q x = ⟨q.Ag, (B1 b P T a).1.Ac, q.Ak.set x.Unit.toNat x.Value, (B1 b P T a).1.Ao⟩ := by
     unfold ap; rw [if_neg hk2, ← hq2, ← hq3]; rfl
    refine (c8 (l := q.Ak) hx1.1 (by omega)).bind λ _ _ => (cI (l := q.Ak) hx1.1 (by omega)).bind λ C hC => ?_
    subst hC
    refine Ok.bind (P := λ y => y = _) (cE (Qj h (r := ⟨⟨T, P, ros, evs⟩, b, (ev ++ (⟨T, a, 0⟩ :: ((D0 b (B1 b P T a).1).take j).map (λ x => (⟨T, x, 0⟩ : Bl)))) ++ [⟨T, x, 0⟩], sts ++ ([(B1 b P T a).1] ++ Ek ((D0 b (B1 b P T a).1).take j) (B1 b P T a).1)⟩) (p := ⟨q.Ag, (B1 b P T a).1.Ac, q.Ak.set x.Unit.toNat x.Value, (B1 b P T a).1.Ao⟩) (by rw [← eA]; exact hapok) (by simp [I3]; omega)) rfl) λ y hy => c5 ?_
    subst hy
    refine ⟨ap q x, hfold.symm, by rw [eA]; exact ⟨rfl, rfl⟩, ?_⟩
    rw [hint, eA, Bi hx]
    simp
  ·obtain ⟨q, hq1, _, rfl⟩ := hI
   rw [ax] at hq1 ⊢
   exact ⟨q, hq1, by rw [eE]⟩
 ·obtain ⟨q, hq, rfl⟩ := hs
  have hqok : As b q := by rw [hq, eL]; exact U7 _ hn' htr.2
  have hqS : q = ⟨q.Ag, (B1 b P T a).1.Ac, q.Ak, (B1 b P T a).1.Ao⟩ := by
   have h3 := htr.1
   rw [← eL, ← hq] at h3
   rw [h3]
  have hsm := Amu (hqok.lens h) (B4 b (B1 b P T a).1)
  have hsm1 := hsm.1
  rw [hqS] at hsm1
  have e6 : Ka ⟨q.Ag, (B1 b P T a).1.Ac, q.Ak, (B1 b P T a).1.Ao⟩ (B4 b (B1 b P T a).1) = Ka (Nl b P T a) (doP b P T a) := by rw [← hqS, hq, eP]
  refine Ok.bind (P := λ y => y = Ka (Nl b P T a) (doP b P T a)) (cE hsm1 e6) λ y hy => ?_
  subst hy
  have eD : doS b P T a = [(B1 b P T a).1] ++ Ek (D0 b (B1 b P T a).1) (B1 b P T a).1 ++ (if Ka (Nl b P T a) (doP b P T a) = true then [] else [doP b P T a]) := by unfold doS Fc; rw [if_pos he]
  cases hsb : Ka (Nl b P T a) (doP b P T a) with
  | false =>
   rw [hsb] at eD
   refine Ok.bind (P := λ y => y = _) (cE (Qj h (r := ⟨⟨T, P, ros, evs⟩, b, ev ++ doE b P T a, sts ++ ([(B1 b P T a).1] ++ Ek (D0 b (B1 b P T a).1) (B1 b P T a).1)⟩) p2 (by simp [I3]; omega)) rfl) λ y hy => c4 ?_
   subst hy
   rw [eD, eP]
   simp
  | true =>
   rw [hsb] at eD
   refine c4 ?_
   rw [eD, eP]
   simp

def Ee (b : Aa) (T : Int) (p : Ab) (l : List An) : Ab := l.foldl (λ q a => doP b q T a) p
theorem Oo {b : Aa} (h : Aw b) (T : Int) : ∀ (l : List An) {p : Ab}, As b p -> As b (Ee b T p l)
 | [], _, hp => hp
 | a :: l, _, hp => Oo h T l (Awi h hp T a)
theorem Aoc {b : Aa} (h : Aw b) {p : Ab} (hp : As b p) (T : Int) (a : An) : (doE b p T a).length <= 10001 := by
 unfold doE
 split
 ·rename_i he
  have := (Gj h (Pc h hp he).1).2.2
  simp; omega
 ·simp
theorem A35 {b : Aa} (h : Aw b) {p : Ab} (hp : As b p) (T : Int) (a : An) : (doS b p T a).length <= 10002 := by
 unfold doS
 split
 ·rename_i he
  have := (Gj h (Pc h hp he).1).2.2
  split <;> simp [I3] <;> omega
 ·simp
theorem A89 {b : Aa} (h : Aw b) {s : Ai} (hs : Bw s) {k : Int} (hk : 0 <= k /\ k <= 100) : Ok (uH s b k) λ y => (y.1.length : Int) <= k /\ Bw y.2 := by
 unfold uH
 have e : w64 (k + 1) = k + 1 := Bb (by omega)
 rw [e]
 refine (Fk hs (k + 1) (by omega) (by omega)).bind λ y hy => ?_
 refine Ok.andThen (A := λ s => (s.2.2.2.length : Int) <= k /\ Bw ⟨s.2.1, s.2.2.1⟩) (B := λ (_ : Unit) => False) ?_ (λ s hs => c4 hs) (λ _ h => h.elim)
 refine c7 (λ s => (0 <= s.1 /\ s.1 <= 200 /\ s.1 + (s.2.2.2.length : Int) <= k) /\ Bw ⟨s.2.1, s.2.2.1⟩) (λ s => s.1.toNat) _ _ ?_ ?_ ?_
 ·exact ⟨⟨by dsimp only; omega, by dsimp only; omega, by simp; omega⟩, hy.1⟩
 ·dsimp only; omega
 ·rintro ⟨i, L, a, l⟩ ⟨⟨g1, g2, g3⟩, g4⟩
  dsimp only at g1 g2 g3 g4
  unfold Y7
  dsimp only
  refine c3 (λ hq => ?_) (λ _ => cJ ⟨by dsimp only; omega, g4⟩)
  simp only [da] at hq
  have e1 : w64 (i - 1) = i - 1 := Bb (by omega)
  rw [e1]
  refine (A9a h g4).bind λ u hu => (c9 (by simp; omega)).bind λ w hw => c5 ⟨⟨⟨by dsimp only; omega, by dsimp only; omega, by rw [hw]; simp; omega⟩, hu⟩, by dsimp only; omega⟩
theorem A_m {b : Aa} (h : Aw b) {p : A0} (hp : As b p.Power) (h1 : p.A6.length <= 1000) (h2 : p.Bc.length <= 1000000) (a : An) :
  uA b p a = some (⟨p.Time, doP b p.Power p.Time a, p.A6, p.Bc ++ doE b p.Power p.Time a⟩, doS b p.Power p.Time a, 0) := by
 have hl := Aoc h hp p.Time a
 refine cL ?_
 unfold uA
 rw [Fa h hp]
 simp only [ab]
 refine c3 (λ hc => by simp at hc) (λ _ => ?_)
 refine Ok.bind (P := λ v => v = ⟨p, b, [], []⟩) (cE (A01 h hp h1 (by omega)) rfl) λ v hv => ?_
 subst hv
 have hd := A_e h (T := p.Time) (P := p.Power) (ros := p.A6) (evs := p.Bc) (ev := []) (sts := []) hp (by simp) (by simp) a
 refine Ok.bind (P := λ v => v = _) (cE hd rfl) λ v hv => ?_
 subst hv
 refine (c9 (l := p.Bc) (m := [] ++ doE b p.Power p.Time a) (by simp; omega)).bind λ u hu => c4 ?_
 rw [hu]; rfl
end Go.Proofs.YthgnbpdjncbkfaaGreat
