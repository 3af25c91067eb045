import Derived.Test.YthgnbpdjncbkfaaGreatMo
import Derived.Test.YthgnbpdjncbkfaaGreatHo
namespace Go.Proofs.YthgnbpdjncbkfaaGreat
open Go.SL
theorem Lg {x n : Int} (h : 0 < n) : -n < Int.tmod x n /\ Int.tmod x n < n := by
 have h1 := Int.tmod_lt_of_pos x h
 have h2 := Int.lt_tmod_of_pos x h
 exact ⟨h2, h1⟩
theorem Al2 {x n : Int} (h : 0 < n) (h0 : 0 <= x) : 0 <= Int.tmod x n /\ Int.tmod x n < n := ⟨Int.tmod_nonneg n h0, (Lg h).2⟩
structure Bw (s : Aj) : Prop where
 lo : 0 <= s.At
 hi : s.At <= s.L.length
 len : s.L.length <= 600
def InR (n r : Int) : Prop := (1 <= n -> 0 <= r /\ r < n) /\ (n < 1 -> r = 0)
theorem A56 (x n : Int) (h : n <= 4611686018427387904) : Ok (F80 x n) (InR n) := by
 unfold F80
 refine Ok.cond (λ h1 => ?_) λ h1 => ?_
 ·simp only [decide_eq_true_eq] at h1
  exact Ok.pure ⟨λ h2 => by omega, λ _ => rfl⟩
 ·simp only [decide_eq_false_iff_not] at h1
  refine (Ok.nzI (by omega)).bind λ _ _ => (Ok.nzI (by omega)).bind λ _ _ => Ok.pure ⟨λ _ => ?_, λ h2 => by omega⟩
  have h2 := Lg (x := x) (n := n) (by omega)
  rw [Bb (by omega)]
  exact Al2 (by omega) (by omega)
theorem Um {s : Aj} (hs : Bw s) (n : Int) (h : n <= 4611686018427387904) : Ok (F32 s n) λ y => Bw y.2 /\ InR n y.1 := by
 obtain ⟨h1, h2, h3⟩ := hs
 unfold F32
 refine Ok.cond (λ h4 => ?_) λ h4 => ?_
 ·exact Ok.pure ⟨⟨h1, h2, h3⟩, λ h5 => ⟨by simp, by show (0 : Int) < n; omega⟩, λ _ => rfl⟩
 ·simp only [decide_eq_false_iff_not] at h4
  have e : w64 (s.At + 1) = s.At + 1 := Bb (by omega)
  rw [e, Bb (n := s.At + 1 - 1) (by omega)]
  refine (Ok.getI (by omega) (by omega)).bind λ x _ => (A56 x n h).bind λ r hr => Ok.pure ⟨⟨?_, ?_, h3⟩, hr⟩
  ·show 0 <= s.At + 1; omega
  ·show s.At + 1 <= (s.L.length : Int); omega
theorem E5 {s : Aj} (hs : Bw s) (n : Int) (h0 : 1 <= n) (h : n <= 4611686018427387904) : Ok (F32 s n) λ y => Bw y.2 /\ 0 <= y.1 /\ y.1 < n :=
 (Um hs n h).mono λ _ h => ⟨h.1, h.2.1 h0⟩
theorem Hc {s : Aj} (hs : Bw s) (lo hi : Int) (h : lo <= hi) (h0 : -1000000000000 <= lo) (h1 : hi <= 1000000000000) : Ok (F78 s lo hi) λ y => Bw y.2 /\ lo <= y.1 /\ y.1 <= hi := by
 unfold F78
 have e : w64 (w64 (hi - lo) + 1) = hi - lo + 1 := by rw [Bb (n := hi - lo) (by omega), Bb (by omega)]
 rw [e]
 refine (E5 hs _ (by omega) (by omega)).bind λ y hy => Ok.pure ⟨hy.1, ?_⟩
 have := hy.2
 show lo <= w64 (lo + y.1) /\ w64 (lo + y.1) <= hi
 rw [Bb (by omega)]
 omega
theorem D0 {s : Aj} (hs : Bw s) (l : List Int) (h : 1 <= l.length) (h1 : l.length <= 1000) : Ok (F40 s l) λ y => Bw y.2 /\ y.1 ∈ l := by
 unfold F40
 refine (E5 hs _ (by omega) (by omega)).bind λ y hy => ?_
 have := hy.2
 refine (Ok.getI (by omega) (by omega)).bind λ x hx => Ok.pure ⟨hy.1, List.mem_of_getElem? hx⟩
theorem A55 (l : List Int) : Ok (F8 l) Bw := by
 unfold F8
 refine (Ok.cutI (by omega) (by omega) (by omega)).bind λ y hy => Ok.pure ⟨by simp, by simp, ?_⟩
 subst hy
 simp only [List.length_drop, List.length_take]
 omega
def R5 (nb : Int) (ns nc : Nat) (x : Ak) : Prop :=
 (0 <= x.A /\ x.A < nb) /\ ((x.Kind = 1 /\ x.A < x.B /\ x.B < nb) \/ (x.Kind = 2 /\ 0 <= x.B /\ x.B < ns) \/ (x.Kind = 3 /\ 0 <= x.B /\ x.B < nc))
def brs (l : List Ak) (k : Int) (i : Nat) : List Ak := l.filter λ x => x.Kind == k && x.B == (i : Int)
def Aql (x : Bh) : Prop := (1 <= x.Rating /\ x.Rating <= 50000) /\ (0 <= x.Least /\ x.Least <= x.Rating) /\ 0 <= x.Start /\ x.Start <= 600
def Ars (i : Nat) (x : A1) : Prop :=
 (0 <= x.Load /\ x.Load <= 50000) /\ (0 <= x.Least /\ x.Least <= x.Load) /\ (0 <= x.Bn /\ x.Bn <= 15) /\ (-1 <= x.Thruster /\ x.Thruster <= 7) /\ x.Needs.length <= 4 /\
 (∀ n, n ∈ x.Needs -> 0 <= n /\ n < (i : Int)) /\ ∀ (j : Nat) a b, x.Needs[j]? = some a -> x.Needs[j + 1]? = some b -> a < b
structure Ay (b : Aa) : Prop where
 buses : 1 <= b.An /\ b.An <= 6
 brl : b.Ag.length <= 24
 sol : b.Ac.length <= 8
 col : b.Ae.length <= 16
 phase : 0 <= b.Phase /\ b.Phase <= 1800
 freq : 0 <= b.Aq /\ b.Aq <= 6000
 br : ∀ x, x ∈ b.Ag -> R5 b.An b.Ac.length b.Ae.length x
 one : ∀ i, i < b.Ac.length -> (brs b.Ag 2 i).length = 1
 any : ∀ i, i < b.Ae.length -> brs b.Ag 3 i ≠ []
 nodup : ∀ i, ((brs b.Ag 3 i).map (·.A)).Nodup
 so : ∀ x, x ∈ b.Ac -> Aql x
 co : ∀ (i : Nat) x, b.Ae[i]? = some x -> Ars i x
theorem Gg (l m : List Ak) (k : Int) (i : Nat) : brs (l ++ m) k i = brs l k i ++ brs m k i := by unfold brs; rw [List.filter_append]
theorem Anp (x : Ak) (k : Int) (i : Nat) : brs [x] k i = if x.Kind = k /\ x.B = (i : Int) then [x] else [] := by
 unfold brs
 simp only [List.filter_cons, List.filter_nil, Bool.and_eq_true, beq_iff_eq]
theorem Jz {l : List Ak} {k : Int} {i : Nat} (h : ∀ x, x ∈ l -> x.Kind = k -> x.B ≠ (i : Int)) : brs l k i = [] := by
 unfold brs
 rw [List.filter_eq_nil_iff]
 intro x hx
 simp only [Bool.and_eq_true, beq_iff_eq, not_and]
 exact h x hx
def M1 (nb : Int) (l : List Ak) : Prop := ∀ x, x ∈ l -> x.Kind = 1 /\ 0 <= x.A /\ x.A < x.B /\ x.B < nb
structure Rs (nb : Int) (l : List Ak) (so : List Bh) : Prop where
 len : l.length <= 4 + so.length
 br : ∀ x, x ∈ l -> (0 <= x.A /\ x.A < nb) /\ ((x.Kind = 1 /\ x.A < x.B /\ x.B < nb) \/ (x.Kind = 2 /\ 0 <= x.B /\ x.B < so.length))
 one : ∀ i, i < so.length -> (brs l 2 i).length = 1
 so : ∀ x, x ∈ so -> Aql x
structure jB (nb : Int) (l : List Ak) (ns : Nat) (co : List A1) : Prop where
 len : l.length <= 4 + ns + 2 * co.length
 br : ∀ x, x ∈ l -> R5 nb ns co.length x
 one : ∀ i, i < ns -> (brs l 2 i).length = 1
 any : ∀ i, i < co.length -> brs l 3 i ≠ []
 nodup : ∀ i, ((brs l 3 i).map (·.A)).Nodup
 co : ∀ (i : Nat) x, co[i]? = some x -> Ars i x /\ x.Thruster <= 2
theorem Rs.cons {nb : Int} {l : List Ak} {so : List Bh} (h : Rs nb l so) : jB nb l so.length [] where
 len := by have := h.len; simp; omega
 br x hx := by
  obtain ⟨h1, h2⟩ := h.br x hx
  exact ⟨h1, h2.imp id .inl⟩
 one := h.one
 any i hi := by simp at hi
 nodup i := by
  rw [Jz]
  ·simp
  ·intro x hx h3
   obtain ⟨_, h2⟩ := h.br x hx
   omega
 co i x hx := by simp at hx
theorem Rs.add {nb : Int} {l : List Ak} {so : List Bh} (h : Rs nb l so) {x : Ak} {y : Bh} (hx : x.Kind = 2 /\ x.B = so.length /\ 0 <= x.A /\ x.A < nb) (hy : Aql y) : Rs nb (l ++ [x]) (so ++ [y]) where
 len := by have := h.len; simp; omega
 br z hz := by
  rcases List.mem_append.1 hz with hz | hz
  ·obtain ⟨h1, h2⟩ := h.br z hz
   refine ⟨h1, ?_⟩
   rw [List.length_append]
   simp only [List.length_cons, List.length_nil]
   omega
  ·simp at hz; subst hz
   refine ⟨hx.2.2, .inr ⟨hx.1, ?_⟩⟩
   rw [List.length_append]
   simp only [List.length_cons, List.length_nil]
   omega
 one i hi := by
  rw [List.length_append] at hi
  simp only [List.length_cons, List.length_nil] at hi
  rw [Gg, Anp, List.length_append]
  by_cases e : i = so.length
  ·rw [Jz, if_pos ⟨hx.1, by omega⟩]
   ·rfl
   ·intro z hz h2
    obtain ⟨_, h3⟩ := h.br z hz
    omega
  ·rw [h.one i (by omega), if_neg (by omega)]; rfl
 so z hz := by
  rcases List.mem_append.1 hz with hz | hz
  ·exact h.so z hz
  ·simp at hz; subst hz; exact hy
theorem jB.add {nb : Int} {l m : List Ak} {ns : Nat} {co : List A1} (h : jB nb l ns co) {y : A1} (hm : ∀ x, x ∈ m -> x.Kind = 3 /\ x.B = co.length /\ 0 <= x.A /\ x.A < nb) (h1 : m ≠ []) (h2 : m.length <= 2) (h3 : (m.map (·.A)).Nodup)
  (hy : Ars co.length y /\ y.Thruster <= 2) : jB nb (l ++ m) ns (co ++ [y]) := by
 have e1 : brs m 3 co.length = m := by
  unfold brs
  rw [List.filter_eq_self]
  intro x hx
  obtain ⟨g1, g2, _⟩ := hm x hx
  simp [g1, g2]
 have e2 : ∀ i, i ≠ co.length -> brs m 3 i = [] := λ i hi => Jz λ x hx _ e => by
  have := (hm x hx).2.1
  omega
 have e3 : brs l 3 co.length = [] := Jz λ x hx h3 e => by
  obtain ⟨_, g⟩ := h.br x hx
  omega
 have hlen : (co ++ [y]).length = co.length + 1 := by simp
 refine ⟨?_, λ z hz => ?_, λ i hi => ?_, λ i hi => ?_, λ i => ?_, λ i x hx => ?_⟩
 ·have := h.len
  rw [List.length_append, hlen]; omega
 ·rw [hlen]
  rcases List.mem_append.1 hz with hz | hz
  ·obtain ⟨g1, g2⟩ := h.br z hz
   exact ⟨g1, by omega⟩
  ·obtain ⟨g1, g2, g3⟩ := hm z hz
   exact ⟨g3, by omega⟩
 ·have : brs m 2 i = [] := Jz λ x hx h2 => by have := (hm x hx).1; omega
  rw [Gg, this, List.append_nil]
  exact h.one i hi
 ·rw [Gg]
  rw [hlen] at hi
  by_cases e : i = co.length
  ·subst e; rw [e1]; simp [h1]
  ·have := h.any i (by omega)
   simp [this]
 ·rw [Gg]
  by_cases e : i = co.length
  ·subst e; rw [e1, e3]; simpa using h3
  ·rw [e2 i e, List.append_nil]; exact h.nodup i
 ·rw [List.getElem?_append] at hx
  split at hx
  ·exact h.co i x hx
  ·rename_i hi
   have : i = co.length := by
    have := (List.getElem?_eq_some_iff.1 hx).1
    simp at this; omega
   subst this
   simp at hx; subst hx; exact hy
theorem M1.nil (nb : Int) : M1 nb [] := λ x hx => by cases hx
theorem M1.add {nb : Int} {l : List Ak} (h : M1 nb l) {x : Ak} (hx : x.Kind = 1 /\ 0 <= x.A /\ x.A < x.B /\ x.B < nb) : M1 nb (l ++ [x]) := λ z hz => by
 rcases List.mem_append.1 hz with hz | hz
 ·exact h z hz
 ·simp at hz; subst hz; exact hx
theorem M1.gens {nb : Int} {l : List Ak} (h : M1 nb l) (hl : l.length <= 4) : Rs nb l [] where
 len := by simpa using hl
 br x hx := by have := h x hx; exact ⟨by omega, .inl (by omega)⟩
 one i hi := by simp at hi
 so x hx := by cases hx
theorem Aya {y : Int × Aj} (hy : 1 <= y.1 /\ y.1 <= 4) {s0 : Aj} (hs0 : Bw s0) :
  Ok (whileN (Ut y) 1152921504606846976 (1, s0.L, s0.At, ([] : List Ak))) (Dk (λ s => Bw ⟨s.2.1, s.2.2.1⟩ /\ M1 y.1 s.2.2.2 /\ s.2.2.2.length <= 3) (λ (_ : Unit) => False)) := by
 refine Ok.whileN (λ s => (1 <= s.1 /\ s.1 <= 4 /\ s.1 <= y.1) /\ Bw ⟨s.2.1, s.2.2.1⟩ /\ M1 y.1 s.2.2.2 /\ (s.2.2.2.length : Int) + 1 <= s.1) (λ s => (y.1 - s.1).toNat) _ _ ?_ ?_ ?_
 ·exact ⟨by dsimp only; omega, hs0, M1.nil _, by simp⟩
 ·dsimp only; omega
 ·rintro ⟨i, L, a, l⟩ ⟨⟨h1, h2, h3⟩, h4, h5, h6⟩
  dsimp only at h1 h2 h3 h4 h5 h6
  unfold Ut
  refine Ok.cond (λ h => ?_) (λ h => ?_)
  ·simp only [decide_eq_true_eq] at h
   have e : w64 (i + 1) = i + 1 := Bb (by omega)
   dsimp only
   rw [e]
   refine (E5 h4 6 (by omega) (by omega)).bind λ u hu => Ok.cond (λ _ => ?_) (λ _ => ?_)
   ·refine (E5 hu.1 i h1 (by omega)).bind λ v hv => (Ok.appI (by simp; omega)).bind λ m hm => Ok.next ?_
    subst hm
    have := hv.2
    refine ⟨⟨by dsimp only; omega, hv.1, h5.add ⟨rfl, by dsimp only; omega, by dsimp only; omega, by dsimp only; omega⟩, by simp; omega⟩, by dsimp only; omega⟩
   ·refine Ok.next ⟨⟨by dsimp only; omega, hu.1, h5, by dsimp only; omega⟩, by dsimp only; omega⟩
  ·exact Ok.brk ⟨h4, h5, by dsimp only; omega⟩
theorem Ax9 {y : Int × Aj} (hy : 1 <= y.1 /\ y.1 <= 4) {s0 : Aj} (hs0 : Bw s0) {k : Int} (hk : 0 <= k /\ k < 5) {l0 : List Ak} (hl0 : Rs y.1 l0 []) :
  Ok (whileN (Us y) 1152921504606846976 (k, s0.L, s0.At, l0, ([] : List Bh))) (Dk (λ s => Bw ⟨s.2.1, s.2.2.1⟩ /\ Rs y.1 s.2.2.2.1 s.2.2.2.2 /\ s.2.2.2.2.length <= 4) (λ (_ : Unit) => False)) := by
 refine Ok.whileN (λ s => (0 <= s.1 /\ s.1 + (s.2.2.2.2.length : Int) <= 4) /\ Bw ⟨s.2.1, s.2.2.1⟩ /\ Rs y.1 s.2.2.2.1 s.2.2.2.2) (λ s => s.1.toNat) _ _ ?_ ?_ ?_
 ·exact ⟨by simp; omega, hs0, hl0⟩
 ·dsimp only; omega
 ·rintro ⟨i, L, a, l, so⟩ ⟨⟨h1, h2⟩, h4, h5⟩
  dsimp only at h1 h2 h4 h5
  unfold Us
  refine Ok.cond (λ h => ?_) (λ h => ?_)
  ·simp only [decide_eq_true_eq] at h
   have e : w64 (i - 1) = i - 1 := Bb (by omega)
   have hl := h5.len
   dsimp only
   rw [e]
   refine (E5 h4 y.1 hy.1 (by omega)).bind λ u hu => (Ok.appI (by simp; omega)).bind λ m hm => ?_
   refine (D0 hu.1 _ (by simp) (by simp)).bind λ v hv => (D0 hv.1 _ (by simp) (by simp)).bind λ p hp => (D0 hp.1 _ (by simp) (by simp)).bind λ q hq => (Ok.appI (by simp; omega)).bind λ o ho => Ok.next ?_
   subst hm; subst ho
   have g1 := hu.2
   have g2 : v.1 = 10 \/ v.1 = 50 \/ v.1 = 100 := by simpa using hv.2
   have g3 : p.1 = 0 \/ p.1 = 5 \/ p.1 = v.1 := by simpa using hp.2
   have g4 : q.1 = 0 \/ q.1 = 1 \/ q.1 = 3 := by simpa using hq.2
   refine ⟨⟨by simp; omega, hq.1, h5.add ⟨rfl, rfl, g1⟩ ⟨by dsimp only; omega, by dsimp only; omega, by dsimp only; omega⟩⟩, by dsimp only; omega⟩
  ·exact Ok.brk ⟨h4, h5, by dsimp only; omega⟩
theorem A0z {x : Int} (h : 0 <= x) (h2 : x <= 50000) : 0 <= w64 (Int.tdiv x 2) /\ w64 (Int.tdiv x 2) <= x := by
 have : Int.tdiv x 2 = x / 2 := Int.tdiv_eq_ediv_of_nonneg h
 rw [this, Bb (by omega)]
 omega
theorem Awk {x : Int} (h : 0 <= x) (h2 : x <= 50000) : 0 <= w64 (Int.tdiv x 3) /\ w64 (Int.tdiv x 3) <= x := by
 have : Int.tdiv x 3 = x / 3 := Int.tdiv_eq_ediv_of_nonneg h
 rw [this, Bb (by omega)]
 omega
theorem Ax8 {y : Int × Aj} (hy : 1 <= y.1 /\ y.1 <= 4) {s0 : Aj} (hs0 : Bw s0) {k : Int} (hk : 0 <= k /\ k < 6) {ns : Nat} (hns : ns <= 4) {l0 : List Ak} (hl0 : jB y.1 l0 ns []) :
  Ok (whileN (Ur y) 1152921504606846976 (k, s0.L, s0.At, l0, ([] : List A1))) (Dk (λ s => Bw ⟨s.2.1, s.2.2.1⟩ /\ jB y.1 s.2.2.2.1 ns s.2.2.2.2 /\ s.2.2.2.2.length <= 5) (λ (_ : Unit) => False)) := by
 refine Ok.whileN (λ s => (0 <= s.1 /\ s.1 + (s.2.2.2.2.length : Int) <= 5) /\ Bw ⟨s.2.1, s.2.2.1⟩ /\ jB y.1 s.2.2.2.1 ns s.2.2.2.2) (λ s => s.1.toNat) _ _ ?_ ?_ ?_
 ·exact ⟨by simp; omega, hs0, hl0⟩
 ·dsimp only; omega
 ·rintro ⟨i, L, a, l, co⟩ ⟨⟨h1, h2⟩, h4, h5⟩
  dsimp only at h1 h2 h4 h5
  unfold Ur
  refine Ok.cond (λ h => ?_) (λ h => ?_)
  ·simp only [decide_eq_true_eq] at h
   have e : w64 (i - 1) = i - 1 := Bb (by omega)
   have hl := h5.len
   dsimp only
   rw [e]
   refine (E5 h4 y.1 hy.1 (by omega)).bind λ u hu => (Ok.appI (by simp; omega)).bind λ m hm => ?_
   subst hm
   have g1 := hu.2
   refine Ok.bind (P := λ v => Bw v.2) (Ok.guard (λ _ => (E5 hu.1 4 (by omega) (by omega)).mono λ _ h => h.1) λ _ => hu.1) λ v hv => ?_
   refine Ok.inner (A := λ (r : List Ak) => ∃ m, r = l ++ m /\ (∀ x, x ∈ m -> x.Kind = 3 /\ x.B = co.length /\ 0 <= x.A /\ x.A < y.1) /\ m ≠ [] /\ m.length <= 2 /\ (m.map (·.A)).Nodup) (B := λ (_ : Unit) => False) ?_ (λ r hr => ?_) (λ _ h => h.elim)
   ·unfold Akd
    refine Ok.cond (λ hc => ?_) (λ hc => ?_)
    ·simp only [Bool.and_eq_true, decide_eq_true_eq] at hc
     have e2 : w64 (u.1 + 1) = u.1 + 1 := Bb (by omega)
     rw [e2]
     refine (Ok.nzI (by omega)).bind λ _ _ => (Ok.appI (by simp; omega)).bind λ m hm => Ok.nextE ?_
     subst hm
     have g2 := Al2 (x := u.1 + 1) (n := y.1) (by omega) (by omega)
     have g3 : Int.tmod (u.1 + 1) y.1 ≠ u.1 := by
      rw [Int.tmod_eq_emod_of_nonneg (by omega)]
      intro e3
      by_cases g4 : u.1 + 1 = y.1
      ·rw [g4, Int.emod_self] at e3; omega
      ·rw [Int.emod_eq_of_lt (by omega) (by omega)] at e3; omega
     refine ⟨_, List.append_assoc _ _ _, ?_, by simp, by simp, ?_⟩
     ·intro x hx
      simp at hx
      rcases hx with rfl | rfl
      ·exact ⟨rfl, rfl, g1⟩
      ·exact ⟨rfl, rfl, g2⟩
     ·simp
      exact λ h => g3 h.symm
    ·exact Ok.nextE ⟨_, rfl, λ x hx => by simp at hx; subst hx; exact ⟨rfl, rfl, g1⟩, by simp, by simp, by simp⟩
   ·obtain ⟨m, rfl, hm, hm1, hm2, hm3⟩ := hr
    refine (D0 hv _ (by simp) (by simp)).bind λ p hp => (D0 hp.1 _ (by simp) (by simp)).bind λ q hq => (E5 hq.1 3 (by omega) (by omega)).bind λ pr hpr => (Hc hpr.1 (-1) 2 (by omega) (by omega) (by omega)).bind λ th hth => ?_
    have k1 : p.1 = 0 \/ p.1 = 5 \/ p.1 = 20 \/ p.1 = 40 := by simpa using hp.2
    have k2 : q.1 = 0 \/ q.1 = w64 (Int.tdiv p.1 2) \/ q.1 = p.1 := by simpa using hq.2
    have k3 := A0z (x := p.1) (by omega) (by omega)
    have k4 := hpr.2
    have k5 := hth.2
    refine Ok.bind (P := λ v => Bw v.2) (Ok.guard (λ _ => (E5 hth.1 4 (by omega) (by omega)).mono λ _ h => h.1) λ _ => hth.1) λ w hw => Ok.cond (λ hc => ?_) (λ hc => ?_)
    ·simp only [Azs, Bool.and_eq_true, decide_eq_true_eq] at hc
     refine (E5 hw _ (by omega) (by omega)).bind λ n hn => (Ok.appI (by simp; omega)).bind λ o ho => Ok.next ?_
     subst ho
     have k6 := hn.2
     refine ⟨⟨by simp; omega, hn.1, h5.add hm hm1 hm2 hm3 ⟨⟨by dsimp only; omega, by dsimp only; omega, by dsimp only; omega, by dsimp only; omega, by simp, ?_, ?_⟩, by dsimp only; omega⟩⟩, by dsimp only; omega⟩
     ·intro z hz; simp at hz; subst hz; exact k6
     ·intro j a b ha hb
      simp at hb
    ·refine (Ok.appI (by simp; omega)).bind λ o ho => Ok.next ?_
     subst ho
     refine ⟨⟨by simp; omega, hw, h5.add hm hm1 hm2 hm3 ⟨⟨by dsimp only; omega, by dsimp only; omega, by dsimp only; omega, by dsimp only; omega, by simp, ?_, ?_⟩, by dsimp only; omega⟩⟩, by dsimp only; omega⟩
     ·intro z hz; simp at hz
     ·intro j a b ha hb; simp at ha
  ·exact Ok.brk ⟨h4, h5, by dsimp only; omega⟩
structure A57 (b : Aa) : Prop where
 ok : Ay b
 buses : b.An <= 4
 brl : b.Ag.length <= 18
 sol : b.Ac.length <= 4
 col : b.Ae.length <= 5
 thr : ∀ x, x ∈ b.Ae -> x.Thruster <= 2
theorem Ayy {s : Aj} (hs : Bw s) : Ok (F29 s) λ y => A57 y.1 /\ Bw y.2 := by
 unfold F29
 refine (Hc hs 1 4 (by omega) (by omega) (by omega)).bind λ y1 h1 => (D0 h1.1 _ (by simp) (by simp)).bind λ y3 h3 => (D0 h3.1 _ (by simp) (by simp)).bind λ y5 h5 => ?_
 refine (Aya h1.2 h5.1).andThen (λ s0 hs0 => ?_) (λ _ h => h.elim)
 refine Ok.bind (P := λ v => Bw v.2) (Ok.guard (λ _ => (E5 hs0.1 2 (by omega) (by omega)).mono λ _ h => h.1) λ _ => hs0.1) λ y15 h15 => ?_
 have hb := h1.2
 refine Ok.andThen (A := λ (l : List Ak) => M1 y1.1 l /\ l.length <= 4) (B := λ (_ : Unit) => False) ?_ (λ l hl => ?_) (λ _ h => h.elim)
 ·unfold Ake
  refine Ok.cond (λ hc => ?_) (λ hc => Ok.nextE ⟨hs0.2.1, by omega⟩)
  simp only [Bool.and_eq_true, decide_eq_true_eq] at hc
  have e : w64 (y1.1 - 1) = y1.1 - 1 := Bb (by omega)
  rw [e]
  have := hs0.2.2
  refine (Ok.appI (by simp; omega)).bind λ m hm => Ok.nextE ?_
  subst hm
  exact ⟨hs0.2.1.add ⟨rfl, by simp, by dsimp only; omega, by dsimp only; omega⟩, by simp; omega⟩
 ·refine (E5 h15 5 (by omega) (by omega)).bind λ y20 h20 => ?_
  refine (Ax9 h1.2 h20.1 h20.2 (hl.1.gens hl.2)).andThen (λ s2 hs2 => ?_) (λ _ h => h.elim)
  refine (E5 hs2.1 6 (by omega) (by omega)).bind λ y35 h35 => ?_
  refine (Ax8 h1.2 h35.1 h35.2 hs2.2.2 hs2.2.1.cons).andThen (λ s3 hs3 => Ok.pure ⟨?_, hs3.1⟩) (λ _ h => h.elim)
  obtain ⟨_, hc, hl5⟩ := hs3
  have hl4 := hs2.2.2
  have hlen := hc.len
  have p3 : y3.1 = 0 \/ y3.1 = 50 \/ y3.1 = 200 \/ y3.1 = 1800 := by simpa using h3.2
  have p5 : y5.1 = 0 \/ y5.1 = 10 \/ y5.1 = 50 := by simpa using h5.2
  refine ⟨⟨by dsimp only; omega, by dsimp only; omega, by dsimp only; omega, by dsimp only; omega, by dsimp only; omega, by dsimp only; omega, hc.br, hc.one, hc.any, hc.nodup, hs2.2.1.so, λ i x hx => (hc.co i x hx).1⟩, by dsimp only; omega, by dsimp only; omega, hl4, hl5, λ x hx => ?_⟩
  obtain ⟨i, hi⟩ := List.getElem?_of_mem hx
  exact (hc.co i x hi).2
theorem Ha (x lo hi : Int) : F99 x lo hi = true ↔ lo <= x /\ x <= hi := by
 simp [F99]
theorem Aap {x lo hi : Int} (h : lo <= x /\ x <= hi) : F99 x lo hi = true := (Ha x lo hi).2 h
theorem Dt (l : List Int) (x : Int) (h : l.length <= 9223372036854775807) : M7 l x = some (l.any (x == ·)) := by
 unfold M7 Arf
 rw [Kf (λ y => x == y) (λ i y => rfl) l h]
 simp only [Option.bind_some, Q1]
theorem Alr (l : List (List Int)) (h : l.length <= 9223372036854775807) : Vc l = some (l.any λ x => (x.length : Int) == 0) := by
 unfold Vc yB
 rw [Kf (λ y => (y.length : Int) == 0) (λ i y => rfl) l h]
 simp only [Option.bind_some, Q1]
theorem Alt {b : Aa} (h : Ay b) : Ok (Ak1 b) (· = true) := by
 unfold Ak1
 have hs := h.sol
 have hc := h.col
 have hb := h.buses
 refine (Ok.mkI (by omega) (by omega)).bind λ ys hys => (Ok.mkI (by omega) (by omega)).bind λ zs hzs => ?_
 rw [Int.toNat_natCast] at hys hzs
 refine Ok.andThen (A := λ s => s.1 = (List.range b.Ac.length).map (λ i => ((brs b.Ag 2 i).length : Int)) /\ s.2 = (List.range b.Ae.length).map (λ i => (brs b.Ag 3 i).map (·.A))) (B := λ _ => False) ?_ ?_ (λ _ h => h.elim)
 ·refine Ok.foldI0 (I := λ j s => s.1 = (List.range b.Ac.length).map (λ i => ((brs (b.Ag.take j) 2 i).length : Int)) /\ s.2 = (List.range b.Ae.length).map (λ i => (brs (b.Ag.take j) 3 i).map (·.A))) ?_ ?_ ?_
  ·exact ⟨by rw [hys, Nq]; rfl, by rw [hzs, Nq]; rfl⟩
  ·rintro j x ⟨us, vs⟩ hx ⟨hu, hv⟩
   dsimp only at hu hv
   subst hu; subst hv
   have hmem := List.mem_of_getElem? hx
   obtain ⟨⟨a0, a1⟩, hk⟩ := h.br x hmem
   have htk : ∀ k i, brs (b.Ag.take (j + 1)) k i = brs (b.Ag.take j) k i ++ if x.Kind = k /\ x.B = (i : Int) then [x] else [] := λ k i => by rw [Bk hx, Gg, Anp]
   have hall : ∀ k i, brs b.Ag k i = brs (b.Ag.take (j + 1)) k i ++ brs (b.Ag.drop (j + 1)) k i := λ k i => by rw [← Gg, List.take_append_drop]
   unfold Xg
   have e1 : w64 (b.An - 1) = b.An - 1 := Bb (by omega)
   have e2 : w64 (x.A + 1) = x.A + 1 := Bb (by omega)
   refine Ok.cond (λ hq => ?_) (λ _ => ?_)
   ·rw [e1, Aap (by omega)] at hq; simp at hq
   refine Ok.cond (λ hq => ?_) (λ hq => ?_)
   ·simp only [Ain, Bool.and_eq_true, beq_iff_eq, Ha] at hq
    refine Ok.next ⟨List.map_congr_left λ i _ => ?_, List.map_congr_left λ i _ => ?_⟩
    ·rw [htk, if_neg (by omega), List.append_nil]
    ·rw [htk, if_neg (by omega), List.append_nil]
   have hq := ff hq
   simp only [Ain, Bool.and_eq_true, beq_iff_eq, Ha, e1, e2] at hq
   rcases hk with hk | hk | hk
   ·exact absurd ⟨hk.1, by omega⟩ hq
   ·have hBn : x.B = (x.B.toNat : Int) := by omega
    have hone := h.one x.B.toNat (by omega)
    have hz : (brs (b.Ag.take j) 2 x.B.toNat).length = 0 := by
     rw [hall, htk, if_pos ⟨hk.1, hBn⟩] at hone
     simp at hone; omega
    have hg : ((x.Kind == 2) && (F99 x.B 0 (w64 ((((List.range b.Ac.length).map (λ i => ((brs (b.Ag.take j) 2 i).length : Int))).length : Int) - 1)))) = true := by
     rw [Bool.and_eq_true, beq_iff_eq, Ha, List.length_map, List.length_range, Bb (by omega)]
     omega
    dsimp only
    refine Ok.bind (P := λ y => y = 0) (Ok.guard (λ _ => (Ok.getR (by omega) (by omega)).mono λ y hy => by rw [hy, hz]; rfl) λ hn => (V7 hg hn).elim) λ y hy => ?_
    refine Ok.cond (λ hq2 => ?_) (λ hq2 => ?_)
    ·refine (Ok.getR (by omega) (by omega)).bind λ y2 hy2 => (Ok.setR (by omega) (by omega)).bind λ y3 hy3 => Ok.next ⟨?_, List.map_congr_left λ i _ => ?_⟩
     ·rw [hy3]
      refine List.map_congr_left λ i hi => ?_
      by_cases e : i = x.B.toNat
      ·subst e
       rw [if_pos rfl, hy2, htk, if_pos ⟨hk.1, hBn⟩, hz, List.length_append, hz]
       rfl
      ·rw [if_neg e, htk, if_neg (by omega), List.append_nil]
     ·rw [htk, if_neg (by omega), List.append_nil]
    ·have hq2 := ff hq2
     simp only [Aim, Bool.and_eq_true, hy] at hq2
     rw [Bool.and_eq_true] at hg
     exact absurd ⟨hg, by simp⟩ hq2
   ·have hBn : x.B = (x.B.toNat : Int) := by omega
    have hnod := h.nodup x.B.toNat
    have hnot : x.A ∉ (brs (b.Ag.take j) 3 x.B.toNat).map (·.A) := by
     rw [hall, htk, if_pos ⟨hk.1, hBn⟩] at hnod
     simp only [List.map_append, List.map_cons, List.map_nil] at hnod
     rw [List.nodup_append] at hnod
     have := hnod.1
     rw [List.nodup_append] at this
     intro hm
     exact this.2.2 _ hm _ (by simp) rfl
    have hg0 : ((x.Kind == 2) && (F99 x.B 0 (w64 ((((List.range b.Ac.length).map (λ i => ((brs (b.Ag.take j) 2 i).length : Int))).length : Int) - 1)))) = false := by
     have : (x.Kind == 2) = false := by rw [beq_eq_false_iff_ne]; omega
     rw [this]; rfl
    have hg : ((x.Kind == 3) && (F99 x.B 0 (w64 ((((List.range b.Ae.length).map (λ i => (brs (b.Ag.take j) 3 i).map (·.A))).length : Int) - 1)))) = true := by
     rw [Bool.and_eq_true, beq_iff_eq, Ha, List.length_map, List.length_range, Bb (by omega)]
     omega
    dsimp only
    refine Ok.bind (P := λ _ => True) (Ok.guard (λ hn => absurd hn.1 (by rw [hg0]; simp)) λ _ => trivial) λ y _ => ?_
    refine Ok.cond (λ hq2 => ?_) (λ _ => ?_)
    ·simp only [Aim, Bool.and_eq_true, beq_iff_eq] at hq2
     omega
    refine Ok.bind (P := λ y => y = (brs (b.Ag.take j) 3 x.B.toNat).map (·.A)) (Ok.guard (λ _ => Ok.getR (by omega) (by omega)) λ hn => (V7 hg hn).elim) λ y14 hy14 => ?_
    have hyl : y14.length <= 24 := by
     rw [hy14, List.length_map]
     have := List.length_filter_le (λ x => x.Kind == 3 && x.B == ((x.B.toNat : Nat) : Int)) (b.Ag.take j)
     have h1 : (brs (b.Ag.take j) 3 x.B.toNat).length <= (b.Ag.take j).length := List.length_filter_le _ _
     have h2 := h.brl
     rw [List.length_take] at h1
     omega
    refine Ok.bind (P := λ y => y = false) (Ok.guard (λ _ => ?_) λ hn => (V7 hg hn).elim) λ y16 hy16 => ?_
    ·rw [Dt _ _ (by omega)]
     refine Ok.pure ?_
     rw [List.any_eq_false]
     intro z hz
     rw [hy14] at hz
     simp only [beq_iff_eq]
     rintro rfl
     exact hnot hz
    refine Ok.cond (λ hq2 => ?_) (λ hq2 => ?_)
    ·refine (Ok.getR (by omega) (by omega)).bind λ y19 hy19 => ?_
     rw [hy19, ← hy14]
     refine (Ok.appI (by simp; omega)).bind λ y21 hy21 => (Ok.setR (by omega) (by omega)).bind λ y23 hy23 => Ok.next ⟨List.map_congr_left λ i _ => ?_, ?_⟩
     ·rw [htk, if_neg (by omega), List.append_nil]
     ·rw [hy23]
      refine List.map_congr_left λ i hi => ?_
      by_cases e : i = x.B.toNat
      ·subst e
       rw [if_pos rfl, hy21, hy14, htk, if_pos ⟨hk.1, hBn⟩, List.map_append]
       rfl
      ·rw [if_neg e, htk, if_neg (by omega), List.append_nil]
    ·have hq2 := ff hq2
     simp only [Au4, Bool.and_eq_true, hy16] at hq2
     rw [Bool.and_eq_true] at hg
     exact absurd ⟨hg, by simp⟩ hq2
  ·rintro ⟨us, vs⟩ ⟨hu, hv⟩
   rw [List.take_length] at hu hv
   exact ⟨hu, hv⟩
 ·rintro ⟨us, vs⟩ ⟨hu, hv⟩
  dsimp only at hu hv ⊢
  rw [Dt _ _ (by rw [hu]; simp; omega)]
  have h0 : us.any (λ y => 0 == y) = false := by
   rw [List.any_eq_false, hu]
   intro z hz
   obtain ⟨i, hi, rfl⟩ := List.mem_map.1 hz
   rw [h.one i (by simpa using hi)]
   simp
  have h1 : vs.any (λ x => (x.length : Int) == 0) = false := by
   rw [List.any_eq_false, hv]
   intro z hz
   obtain ⟨i, hi, rfl⟩ := List.mem_map.1 hz
   have := h.any i (by simpa using hi)
   simp only [List.length_map, beq_iff_eq]
   intro e
   exact this (List.eq_nil_of_length_eq_zero (by omega))
  simp only [h0, Option.bind_some]
  refine Ok.bind (P := λ y => y = false) (Ok.guard (λ _ => ?_) λ hn => (V7 rfl hn).elim) λ y hy => Ok.pure (by rw [hy]; rfl)
  rw [Alr _ (by rw [hv]; simp; omega)]
  exact Ok.pure h1
theorem Ar5 {x : Bh} (h : Aql x) : Z7 x = true := by
 obtain ⟨h1, h2, h3⟩ := h
 simp only [Z7, Bool.and_eq_true, Ha]
 omega
theorem Als {x : A1} {i : Nat} (h : Ars i x) (hi : i <= 1000) : Abk x (i : Int) = some true := by
 obtain ⟨h1, h2, h3, h4, h5, h6, h7⟩ := h
 unfold Abk
 have hf : foldI (P4 x (i : Int)) x.Needs 0 () = some (.next ()) := by
  refine Cw _ _ λ j n hj => ?_
  rw [Nat.zero_add]
  have hn := h6 n (List.mem_of_getElem? hj)
  have hjl := (List.getElem?_eq_some_iff.1 hj).1
  have hcnt : cnt 0 j = (j : Int) := Cq (by omega)
  have hin : F99 n 0 (w64 ((i : Int) - 1)) = true := by rw [Ha, Bb (by omega)]; omega
  unfold P4 Au3
  rw [hcnt, hin]
  cases j with
  | zero => simp [A2, C9]
  | succ j =>
   obtain ⟨p, hp⟩ : ∃ p, x.Needs[j]? = some p := ⟨_, List.getElem?_eq_getElem (by omega)⟩
   have hlt := h7 j p n hp hj
   have e : w64 ((((j + 1 : Nat) : Int)) - 1) = (j : Int) := by rw [Bb (by omega)]; omega
   have hg : getI x.Needs (j : Int) = some p := by
    unfold getI
    simp [hp]
   have hd : decide (((j + 1 : Nat) : Int) > 0) = true := decide_eq_true (by omega)
   have hd2 : decide (p >= n) = false := by simp; omega
   rw [e, hg, hd]
   simp [A2, C9, hd2]
 rw [hf]
 have : (((((F99 x.Load 0 50000) && (F99 x.Least 0 x.Load)) && (F99 x.Bn 0 15)) && (F99 x.Thruster (-1) 7)) && (decide ((x.Needs.length : Int) <= 4))) = true := by
  simp only [Bool.and_eq_true, Ha, decide_eq_true_eq]
  omega
 simp [andThen, this]
theorem Aig {b : Aa} (h : Ay b) : F85 b = some 0 := by
 refine Ok.eq ?_
 unfold F85
 have h1 := h.buses
 have h2 := h.brl
 have h3 := h.sol
 have h4 := h.col
 have h5 := h.phase
 have h6 := h.freq
 refine Ok.cond (λ hc => ?_) (λ _ => ?_)
 ·have : F99 b.An 1 6 = true := Aap (by omega)
  simp only [Azi, this, Bool.or_eq_true, decide_eq_true_eq, Bool.not_true, Bool.false_eq_true, false_or] at hc
  omega
 refine (Alt h).bind λ y hy => ?_
 subst hy
 rw [Aap (x := b.Phase) (by omega), Aap (x := b.Aq) (by omega)]
 refine Ok.andThen (A := λ s => s = true) (B := λ (_ : Unit) => False) ?_ ?_ (λ _ h => h.elim)
 ·refine Ok.foldI0 (I := λ _ s => s = true) rfl (λ j x s hx hs => ?_) λ _ h => h
  subst hs
  refine Ok.next ?_
  rw [Ar5 (h.so x (List.mem_of_getElem? hx))]; rfl
 ·rintro s rfl
  refine Ok.andThen (A := λ s => s = true) (B := λ (_ : Unit) => False) ?_ ?_ (λ _ h => h.elim)
  ·refine Ok.foldI0 (I := λ _ s => s = true) rfl (λ j x s hx hs => ?_) λ _ h => h
   subst hs
   have hj := (List.getElem?_eq_some_iff.1 hx).1
   unfold vC
   have : A2 [(true, true)] (Abk x (cnt 0 j)) default = some true := by
    rw [Cq (by omega), Als (h.co j x hx) (by omega)]; rfl
   rw [this]
   exact Ok.next rfl
  ·rintro s rfl
   exact Ok.pure rfl
def C5 (x : Af) : Prop := (0 <= x.State /\ x.State <= 3) /\ (0 <= x.Since /\ x.Since <= 2147483648) /\ (0 <= x.Aq /\ x.Aq <= 6000) /\ 0 <= x.Phase /\ x.Phase <= 3599
def Ca (b : Aa) (x : Am) : Prop :=
 0 <= x.Number /\ ((x.Kind = 1 /\ x.Number < b.Ac.length) \/ (x.Kind = 2 /\ x.Number < b.Ag.length) \/ (x.Kind = 3 /\ x.Number < b.An) \/ (x.Kind = 4 /\ x.Number < b.Ae.length))
def Pp (x y : Am) : Prop := x.Kind < y.Kind \/ x.Kind = y.Kind /\ x.Number < y.Number
structure D1 (b : Aa) (l : List Am) : Prop where
 len : l.length <= 32
 mem : ∀ x, x ∈ l -> Ca b x
 asc : ∀ (j : Nat) x y, l[j]? = some x -> l[j + 1]? = some y -> Pp x y
def Cg (l : List Ak) (c : List Bool) (i : Nat) : List (Ak × Bool) := (l.zip c).filter λ z => (z.1.Kind == 3 && z.1.B == (i : Int)) && z.2
structure Aw (b : Aa) (p : Ab) : Prop where
 ncl : p.Ah.length = b.Ag.length
 nso : p.Ac.length = b.Ac.length
 nli : p.Ar.length = b.Ae.length
 run : ∀ x, x ∈ p.Ac -> C5 x
 lim : ∀ (i : Nat) n c, p.Ar[i]? = some n -> b.Ae[i]? = some c -> 0 <= n /\ n <= c.Load
 one : ∀ i, i < b.Ae.length -> (Cg b.Ag p.Ah i).length <= 1
 brk : D1 b p.Ao
theorem Ao1 {x : Af} (h : C5 x) : F98 x = true := by
 obtain ⟨h1, h2, h3, h4⟩ := h
 simp only [F98, Bool.and_eq_true, Ha]
 omega
theorem Apd (l : List Af) (h : l.length <= 9223372036854775807) : Wz l = some (l.any λ x => !F98 x) := by
 unfold Wz yK
 rw [Kf (λ y => !F98 y) (λ i y => rfl) l h]
 simp only [Option.bind_some, Q1]
theorem Aie (x y : Int) : J2 x y = if x < y then -1 else if x > y then 1 else 0 := by
 have h : ∀ z : Int, Z3 z = false := λ z => by simp [Z3]
 unfold J2
 rw [h x, h y]
 by_cases h1 : x < y
 ·simp [h1]
 ·by_cases h2 : y < x <;> simp [h1, h2]
theorem A6d (x y : Int) : Abh [x, y] = some (if x = 0 then y else x) := by
 unfold Abh
 by_cases h : x = 0
 ·subst h
  by_cases h2 : y = 0
  ·subst h2; rfl
  ·have : (y != 0) = true := by simpa using h2
   simp [foldI, P1, andThen, this]
 ·have : (x != 0) = true := by simpa using h
  simp [foldI, P1, andThen, this, h]
theorem A0c {b : Aa} (h : Ay b) {x : Am} (hx : Ca b x) : F99 x.Number 0 (w64 ((Le b x.Kind) - 1)) = true := by
 have h1 := h.buses
 have h2 := h.brl
 have h3 := h.sol
 have h4 := h.col
 obtain ⟨hn, hk⟩ := hx
 have hsz : ∃ n, Le b x.Kind = n /\ x.Number < n /\ n <= 100 := by
  unfold Le
  rcases hk with ⟨k, hk⟩ | ⟨k, hk⟩ | ⟨k, hk⟩ | ⟨k, hk⟩ <;> rw [k] <;> exact ⟨_, rfl, by simpa using hk, by simp; omega⟩
 obtain ⟨n, e, g1, g2⟩ := hsz
 rw [e, Ha, Bb (by omega)]
 omega
theorem Ava {b : Aa} (h : Ay b) {l : List Am} (hl : D1 b l) : F95 b l = some true := by
 have hlen := hl.len
 unfold F95
 have hf : foldI (Un b l) l 0 () = some (.next ()) := by
  refine Cw _ _ λ j x hj => ?_
  rw [Nat.zero_add]
  have hjl := (List.getElem?_eq_some_iff.1 hj).1
  have hcnt : cnt 0 j = (j : Int) := Cq (by omega)
  have hin := A0c h (hl.mem x (List.mem_of_getElem? hj))
  unfold Un Azf
  rw [hcnt, hin]
  cases j with
  | zero => simp [A2, C9]
  | succ j =>
   obtain ⟨p, hp⟩ : ∃ p, l[j]? = some p := ⟨_, List.getElem?_eq_getElem (by omega)⟩
   have hlt := hl.asc j p x hp hj
   have e : w64 ((((j + 1 : Nat) : Int)) - 1) = (j : Int) := by rw [Bb (by omega)]; omega
   have hg : getI l (j : Int) = some p := by unfold getI; simp [hp]
   have hd : decide (((j + 1 : Nat) : Int) > 0) = true := decide_eq_true (by omega)
   have ho : Abh [J2 p.Kind x.Kind, J2 p.Number x.Number] = some (-1) := by
    rw [A6d, Aie, Aie]
    rcases hlt with h1 | ⟨h1, h2⟩
    ·simp [h1]
    ·simp [h1, h2]
   rw [e, hg, hd]
   simp [A2, C9, ho]
 rw [hf]
 have : decide ((l.length : Int) <= 32) = true := by simp; omega
 simp [andThen, this]
theorem Ln {l : List Ak} {c : List Bool} {j : Nat} {x : Ak} {v : Bool} (hx : l[j]? = some x) (hv : c[j]? = some v) (i : Nat) :
  Cg (l.take (j + 1)) (c.take (j + 1)) i = Cg (l.take j) (c.take j) i ++ if ((x.Kind == 3 && x.B == (i : Int)) && v) = true then [(x, v)] else [] := by
 unfold Cg
 rw [Bk hx, Bk hv, List.zip_append (by
  have h1 := (List.getElem?_eq_some_iff.1 hx).1
  have h2 := (List.getElem?_eq_some_iff.1 hv).1
  simp; omega), List.filter_append]
 congr 1
 simp only [List.zip_cons_cons, List.zip_nil_right, List.filter_cons, List.filter_nil]
theorem Auo {b : Aa} (h : Ay b) {p : Ab} (hc : p.Ah.length = b.Ag.length) (i : Nat) : Ak9 b p (i : Int) = some (((Cg b.Ag p.Ah i).length : Nat) : Int) := by
 refine Ok.eq ?_
 unfold Ak9
 have hb := h.brl
 refine Ok.andThen (A := λ s => s = (((Cg b.Ag p.Ah i).length : Nat) : Int)) (B := λ (_ : Unit) => False) ?_ (λ s hs => Ok.pure hs) (λ _ h => h.elim)
 refine Ok.foldI0 (I := λ j s => s = (((Cg (b.Ag.take j) (p.Ah.take j) i).length : Nat) : Int)) ?_ (λ j x s hx hs => ?_) λ s hs => ?_
 ·simp [Cg]
 ·have hj := (List.getElem?_eq_some_iff.1 hx).1
  obtain ⟨v, hv⟩ : ∃ v, p.Ah[j]? = some v := ⟨_, List.getElem?_eq_getElem (by omega)⟩
  have hcnt : cnt 0 j = (j : Int) := Cq (by omega)
  have hg : getI p.Ah (j : Int) = some v := by unfold getI; simp [hv]
  have hle : (Cg (b.Ag.take j) (p.Ah.take j) i).length <= 24 := by
   have h1 : (Cg (b.Ag.take j) (p.Ah.take j) i).length <= ((b.Ag.take j).zip (p.Ah.take j)).length := List.length_filter_le _ _
   simp at h1; omega
  subst hs
  unfold Xm Au7
  rw [hcnt, hg, Ln hx hv]
  cases hk : (x.Kind == 3 && x.B == (i : Int)) with
  | false =>
   simp only [A2, C9, Bool.false_and]
   exact Ok.next (by simp)
  | true =>
   simp only [A2, C9, Bool.true_and]
   cases v with
   | false => exact Ok.next (by simp)
   | true =>
    refine Ok.next ?_
    show w64 _ = _
    rw [Bb (by omega)]
    simp
 ·rw [List.take_length, ← hc, List.take_length] at hs
  exact hs
theorem Db {b : Aa} (h : Ay b) {p : Ab} (hp : Aw b p) : F43 b p = some 0 := by
 refine Ok.eq ?_
 unfold F43
 have h1 := hp.ncl
 have h2 := hp.nso
 have h3 := hp.nli
 have h4 := h.col
 have h5 := h.sol
 rw [Aig h]
 simp only [Option.bind_some]
 have c0 : Aqf b p = false := by
  simp [Aqf, h1, h2, h3]
 have c1 : ((0 : Int) != 0) = false := rfl
 rw [c1, c0, Ava h hp.brk]
 simp only [cond_false, Option.bind_some]
 have hr : (p.Ac.any λ x => !F98 x) = false := by
  rw [List.any_eq_false]
  intro x hx
  rw [Ao1 (hp.run x hx)]; simp
 have : A2 [(true, true)] (Wz p.Ac) default = some false := by
  rw [Apd _ (by omega), hr]; rfl
 rw [this]
 simp only [Option.bind_some]
 refine Ok.andThen (A := λ s => s = true) (B := λ (_ : Unit) => False) ?_ ?_ (λ _ h => h.elim)
 ·refine Ok.foldI0 (I := λ _ s => s = true) rfl (λ j x s hx hs => ?_) λ _ h => h
  subst hs
  have hj := (List.getElem?_eq_some_iff.1 hx).1
  obtain ⟨c, hc⟩ : ∃ c, b.Ae[j]? = some c := ⟨_, List.getElem?_eq_getElem (by omega)⟩
  have hcnt : cnt 0 j = (j : Int) := Cq (by omega)
  have hg : getI b.Ae (j : Int) = some c := by unfold getI; simp [hc]
  have hl := hp.lim j x c hx hc
  have hone := hp.one j (by omega)
  unfold vS
  rw [hcnt, hg]
  have e1 : A2 [(true, true)] (some c) default = some c := rfl
  rw [e1]
  simp only [Option.bind_some]
  have e2 : (true && F99 x 0 c.Load) = true := by rw [Aap hl]; rfl
  rw [e2, Auo h h1]
  have e3 : A2 [(true, true)] (some (((Cg b.Ag p.Ah j).length : Nat) : Int)) default = some (((Cg b.Ag p.Ah j).length : Nat) : Int) := rfl
  rw [e3]
  simp only [Option.bind_some]
  refine Ok.next ?_
  simp; omega
 ·rintro s rfl
  exact Ok.pure rfl
theorem I0 (x lo hi : Int) : B4 x lo hi = true ↔ lo <= x /\ x <= hi := by
 simp [B4]
theorem qU {b : Aa} (h : Ay b) (x : Am) : F71 b x = true ↔ Ca b x := by
 have h1 := h.buses
 have h2 := h.brl
 have h3 := h.sol
 have h4 := h.col
 unfold F71 Ca
 rw [Bb (n := (b.Ac.length : Int) - 1) (by omega), Bb (n := (b.Ag.length : Int) - 1) (by omega), Bb (n := b.An - 1) (by omega), Bb (n := (b.Ae.length : Int) - 1) (by omega)]
 by_cases k1 : x.Kind = 1
 ·rw [beq_iff_eq.2 k1, cond_true, I0]; omega
 rw [beq_eq_false_iff_ne.2 k1, cond_false]
 by_cases k2 : x.Kind = 2
 ·rw [beq_iff_eq.2 k2, cond_true, I0]; omega
 rw [beq_eq_false_iff_ne.2 k2, cond_false]
 by_cases k3 : x.Kind = 3
 ·rw [beq_iff_eq.2 k3, cond_true, I0]; omega
 rw [beq_eq_false_iff_ne.2 k3, cond_false]
 by_cases k4 : x.Kind = 4
 ·rw [beq_iff_eq.2 k4, cond_true, I0]; omega
 ·rw [beq_eq_false_iff_ne.2 k4]
  simp only [cond_false, Bool.false_eq_true, false_iff]
  omega
theorem Ahr {l : List Ak} : ∀ {c d : List Bool}, c.length = d.length -> (∀ k : Nat, c[k]? = some true -> d[k]? = some true) -> ∀ i, (Cg l c i).length <= (Cg l d i).length := by
 induction l with
 | nil => intro c d _ _ i; simp [Cg]
 | cons x l ih =>
  intro c d hl h i
  cases c with
  | nil => simp [Cg]
  | cons v c => cases d with
   | nil => simp at hl
   | cons u d =>
    have := ih (c := c) (d := d) (by simpa using hl) (λ k hk => by have := h (k + 1) (by simpa using hk); simpa using this) i
    have h0 : v = true -> u = true := λ e => by have := h 0 (by simp [e]); simpa using this
    unfold Cg at this ⊢
    simp only [List.zip_cons_cons, List.filter_cons]
    cases hk : (x.Kind == 3 && x.B == (i : Int)) with
    | false => simpa using this
    | true =>
     cases v with
     | false => cases u <;> simp <;> omega
     | true => rw [h0 rfl]; simp; omega
theorem Awz {b : Aa} (h : Ay b) {s0 : Aj} (hs0 : Bw s0) :
  Ok (whileN (K5 b) 1152921504606846976 (0, s0.L, s0.At, ([] : List Bool))) (Dk (λ s => Bw ⟨s.2.1, s.2.2.1⟩ /\ s.2.2.2.length = b.Ag.length) (λ (_ : Unit) => False)) := by
 have hb := h.brl
 refine Ok.whileN (λ s => (0 <= s.1 /\ s.1 <= (b.Ag.length : Int)) /\ Bw ⟨s.2.1, s.2.2.1⟩ /\ (s.2.2.2.length : Int) = s.1) (λ s => ((b.Ag.length : Int) - s.1).toNat) _ _ ?_ ?_ ?_
 ·exact ⟨by dsimp only; omega, hs0, by simp⟩
 ·dsimp only; omega
 ·rintro ⟨i, L, a, l⟩ ⟨⟨h1, h2⟩, h4, h5⟩
  dsimp only at h1 h2 h4 h5
  unfold K5 Ait
  refine Ok.cond (λ h => ?_) (λ h => ?_)
  ·simp only [decide_eq_true_eq] at h
   have e : w64 (i + 1) = i + 1 := Bb (by omega)
   dsimp only
   rw [e]
   refine (E5 h4 2 (by omega) (by omega)).bind λ u hu => (Ok.appI (by simp; omega)).bind λ m hm => Ok.next ?_
   subst hm
   exact ⟨⟨by dsimp only; omega, hu.1, by simp; omega⟩, by dsimp only; omega⟩
  ·simp only [decide_eq_false_iff_not] at h
   exact Ok.brk ⟨h4, by dsimp only; omega⟩
theorem Bj {α : Type} {l : List α} {j : Nat} {x : α} (h : l[j]? = some x) : getI l (j : Int) = some x := by unfold getI; simp [h]
theorem Ig {α : Type} {l : List α} {j : Nat} {x : α} (h : j < l.length) : setI l (j : Int) x = some (l.set j x) := by
 unfold setI
 have h1 : decide ((0 : Int) <= (j : Int)) = true := by simp
 have h2 : decide ((j : Int) < (l.length : Int)) = true := by simp; omega
 rw [h1, h2]; simp
theorem Awx {b : Aa} (h : Ay b) {n : Int} {i : Nat} (hn : n = (i : Int)) {c : List Bool} (hc : c.length = b.Ag.length) (w : Int × List Bool) (hw : w.1 = n) :
  Ok (foldI (K3 w) b.Ag 0 (true, c)) (Dk (λ s => s.2.length = b.Ag.length /\ (∀ k : Nat, s.2[k]? = some true -> c[k]? = some true) /\ (Cg b.Ag s.2 i).length <= 1) (λ (_ : Unit) => False)) := by
 have hb := h.brl
 refine Ok.foldI0 (I := λ j s => s.2.length = b.Ag.length /\ (∀ k : Nat, s.2[k]? = some true -> c[k]? = some true) /\ (s.1 = true -> Cg (b.Ag.take j) (s.2.take j) i = []) /\ (Cg (b.Ag.take j) (s.2.take j) i).length <= 1) ?_ (λ j x s hx hs => ?_) λ s hs => ?_
 ·exact ⟨hc, λ _ h => h, λ _ => by simp [Cg], by simp [Cg]⟩
 ·obtain ⟨f, d⟩ := s
  obtain ⟨h1, h2, h3, h4⟩ := hs
  dsimp only at h1 h2 h3 h4
  have hj := (List.getElem?_eq_some_iff.1 hx).1
  obtain ⟨v, hv⟩ : ∃ v, d[j]? = some v := ⟨_, List.getElem?_eq_getElem (by omega)⟩
  have hcnt : cnt 0 j = (j : Int) := Cq (by omega)
  unfold K3 Adi
  dsimp only
  rw [hcnt, Bj hv, Ig (by omega), hw, hn]
  cases hk : (x.Kind == 3 && x.B == (i : Int)) with
  | false =>
   simp only [A2, C9, Bool.false_and]
   refine Ok.next ⟨h1, h2, λ e => ?_, ?_⟩ <;> dsimp only <;> rw [Ln hx hv, hk]
   ·simpa using h3 e
   ·simpa using h4
  | true =>
   simp only [A2, C9, Bool.true_and]
   cases v with
   | false =>
    refine Ok.next ⟨h1, h2, λ e => ?_, ?_⟩ <;> dsimp only <;> rw [Ln hx hv, hk]
    ·simpa using h3 e
    ·simpa using h4
   | true =>
    have hset : (d.set j f)[j]? = some f := by rw [List.getElem?_set_self (by omega)]
    have htake : (d.set j f).take j = d.take j := by rw [List.take_set_of_le (Nat.le_refl j)]
    refine Ok.next ⟨by simpa using h1, λ k hk2 => ?_, λ e => ?_, ?_⟩
    ·dsimp only at hk2
     rw [List.getElem?_set] at hk2
     split at hk2
     ·rename_i e; subst e; exact h2 _ hv
     ·exact h2 _ hk2
    ·cases e
    ·dsimp only
     rw [Ln hx hset, hk, htake]
     cases f with
     | false => simpa using h4
     | true => simp [h3 rfl]
 ·rw [List.take_length] at hs
  obtain ⟨h1, h2, h3, h4⟩ := hs
  have : s.2.take b.Ag.length = s.2 := List.take_of_length_le (by omega)
  rw [this] at h4
  exact ⟨h1, h2, h4⟩
theorem Awy {b : Aa} (h : Ay b) {c : List Bool} (hc : c.length = b.Ag.length) :
  Ok (whileN (K4 b) 1152921504606846976 (0, c)) (Dk (λ s => s.2.length = b.Ag.length /\ ∀ i, i < b.Ae.length -> (Cg b.Ag s.2 i).length <= 1) (λ (_ : Unit) => False)) := by
 have hco := h.col
 refine Ok.whileN (λ s => (0 <= s.1 /\ s.1 <= (b.Ae.length : Int)) /\ s.2.length = b.Ag.length /\ ∀ i : Nat, (i : Int) < s.1 -> (Cg b.Ag s.2 i).length <= 1) (λ s => ((b.Ae.length : Int) - s.1).toNat) _ _ ?_ ?_ ?_
 ·exact ⟨by dsimp only; omega, hc, λ i hi => by dsimp only at hi; omega⟩
 ·dsimp only; omega
 ·rintro ⟨n, d⟩ ⟨⟨h1, h2⟩, h3, h4⟩
  dsimp only at h1 h2 h3 h4
  unfold K4 Ais
  refine Ok.cond (λ hq => ?_) (λ hq => ?_)
  ·simp only [decide_eq_true_eq] at hq
   have e : w64 (n + 1) = n + 1 := Bb (by omega)
   dsimp only
   refine (Awx h (n := n) (i := n.toNat) (by omega) h3 (n, d) rfl).inner (λ s hs => ?_) (λ _ h => h.elim)
   rw [e]
   obtain ⟨g1, g2, g3⟩ := hs
   refine Ok.next ⟨⟨by dsimp only; omega, g1, λ i hi => ?_⟩, by dsimp only; omega⟩
   dsimp only at hi ⊢
   by_cases e : (i : Int) = n
   ·have : i = n.toNat := by omega
    subst this; exact g3
   ·exact Nat.le_trans (Ahr (by omega) g2 i) (h4 i (by omega))
  ·simp only [decide_eq_false_iff_not] at hq
   exact Ok.brk ⟨h3, λ i hi => h4 i (by omega)⟩
theorem Aww {b : Aa} (h : Ay b) {s0 : Aj} (hs0 : Bw s0) :
  Ok (whileN (K2 b) 1152921504606846976 (0, s0.L, s0.At, ([] : List Af))) (Dk (λ s => Bw ⟨s.2.1, s.2.2.1⟩ /\ s.2.2.2.length = b.Ac.length /\ ∀ x, x ∈ s.2.2.2 -> C5 x) (λ (_ : Unit) => False)) := by
 have hb := h.sol
 refine Ok.whileN (λ s => (0 <= s.1 /\ s.1 <= (b.Ac.length : Int)) /\ Bw ⟨s.2.1, s.2.2.1⟩ /\ (s.2.2.2.length : Int) = s.1 /\ ∀ x, x ∈ s.2.2.2 -> C5 x) (λ s => ((b.Ac.length : Int) - s.1).toNat) _ _ ?_ ?_ ?_
 ·exact ⟨by dsimp only; omega, hs0, by simp, λ x hx => by simp at hx⟩
 ·dsimp only; omega
 ·rintro ⟨i, L, a, l⟩ ⟨⟨h1, h2⟩, h4, h5, h6⟩
  dsimp only at h1 h2 h4 h5 h6
  unfold K2 Adh
  refine Ok.cond (λ h => ?_) (λ h => ?_)
  ·simp only [decide_eq_true_eq] at h
   have e : w64 (i + 1) = i + 1 := Bb (by omega)
   dsimp only
   rw [e]
   refine (D0 h4 _ (by simp) (by simp)).bind λ u hu => (E5 hu.1 5 (by omega) (by omega)).bind λ v hv => (D0 hv.1 _ (by simp) (by simp)).bind λ p hp => (D0 hp.1 _ (by simp) (by simp)).bind λ q hq => (Ok.appI (by simp; omega)).bind λ m hm => Ok.next ?_
   subst hm
   have g1 : u.1 = 0 \/ u.1 = 1 \/ u.1 = 2 \/ u.1 = 2 \/ u.1 = 2 \/ u.1 = 3 := by simpa using hu.2
   have g2 := hv.2
   have g3 : p.1 = 5000 \/ p.1 = 5000 \/ p.1 = 5005 \/ p.1 = 4950 := by simpa using hp.2
   have g4 : q.1 = 0 \/ q.1 = 0 \/ q.1 = 40 \/ q.1 = 1800 \/ q.1 = 3590 := by simpa using hq.2
   refine ⟨⟨by dsimp only; omega, hq.1, by simp; omega, λ x hx => ?_⟩, by dsimp only; omega⟩
   rcases List.mem_append.1 hx with hx | hx
   ·exact h6 x hx
   ·simp at hx; subst hx
    exact ⟨by dsimp only; omega, by dsimp only; omega, by dsimp only; omega, by dsimp only; omega⟩
  ·simp only [decide_eq_false_iff_not] at h
   exact Ok.brk ⟨h4, by dsimp only; omega, h6⟩
theorem Awv {b : Aa} (h : Ay b) {s0 : Aj} (hs0 : Bw s0) :
  Ok (foldI K1 b.Ae 0 (s0.L, s0.At, ([] : List Int))) (Dk (λ s => Bw ⟨s.1, s.2.1⟩ /\ s.2.2.length = b.Ae.length /\ ∀ (i : Nat) n c, s.2.2[i]? = some n -> b.Ae[i]? = some c -> 0 <= n /\ n <= c.Load) (λ (_ : Unit) => False)) := by
 have hb := h.col
 refine Ok.foldI0 (I := λ j s => Bw ⟨s.1, s.2.1⟩ /\ s.2.2.length = j /\ ∀ (i : Nat) n c, s.2.2[i]? = some n -> b.Ae[i]? = some c -> 0 <= n /\ n <= c.Load) ?_ (λ j x s hx hs => ?_) λ s hs => hs
 ·exact ⟨hs0, rfl, λ i n c hn => by simp at hn⟩
 ·obtain ⟨L, a, l⟩ := s
  obtain ⟨h1, h2, h3⟩ := hs
  dsimp only at h1 h2 h3
  have hj := (List.getElem?_eq_some_iff.1 hx).1
  unfold K1
  dsimp only
  refine (D0 h1 _ (by simp) (by simp)).bind λ u hu => (Ok.appI (by simp; omega)).bind λ m hm => Ok.next ⟨hu.1, ?_, λ i n c hn hc => ?_⟩
  ·subst hm; simp [h2]
  ·dsimp only at hn
   subst hm
   rw [List.getElem?_append] at hn
   split at hn
   ·exact h3 i n c hn hc
   ·rename_i hi
    have hlt := (List.getElem?_eq_some_iff.1 hn).1
    simp at hlt
    have : i = j := by omega
    subst this
    rw [hx] at hc; cases hc
    rw [h2] at hn
    simp at hn; subst hn
    obtain ⟨g1, g2, _⟩ := h.co _ x hx
    have g3 := Awk (x := x.Load) (by omega) (by omega)
    have g4 : u.1 = x.Load \/ u.1 = x.Load \/ u.1 = x.Least \/ u.1 = w64 (Int.tdiv x.Load 3) := by simpa using hu.2
    omega
theorem Awu {b : Aa} (h : Ay b) {s0 : Aj} (hs0 : Bw s0) :
  Ok (whileN (K0 b) 7 (1, s0.L, s0.At, ([] : List Am))) (Dk (λ s => Bw ⟨s.2.1, s.2.2.1⟩ /\ D1 b s.2.2.2 /\ s.2.2.2.length <= 4) (λ (_ : Unit) => False)) := by
 refine Ok.whileN (λ s => (1 <= s.1 /\ s.1 <= 5) /\ Bw ⟨s.2.1, s.2.2.1⟩ /\ ((s.2.2.2.length : Int) < s.1) /\ (∀ x, x ∈ s.2.2.2 -> Ca b x /\ x.Kind < s.1) /\ ∀ (j : Nat) x y, s.2.2.2[j]? = some x -> s.2.2.2[j + 1]? = some y -> Pp x y) (λ s => (5 - s.1).toNat) _ _ ?_ ?_ ?_
 ·exact ⟨by dsimp only; omega, hs0, by simp, λ x hx => by simp at hx, λ j x y hx => by simp at hx⟩
 ·dsimp only; omega
 ·rintro ⟨i, L, a, l⟩ ⟨⟨h1, h2⟩, h4, h5, h6, h7⟩
  dsimp only at h1 h2 h4 h5 h6 h7
  unfold K0
  refine Ok.cond (λ hq => ?_) (λ hq => ?_)
  ·simp only [decide_eq_true_eq] at hq
   have e : w64 (i + 1) = i + 1 := Bb (by omega)
   dsimp only
   rw [e]
   have skip : ∀ {u : Aj}, Bw u -> Ok (some (.next (i + 1, u.L, u.At, l)) : Option (Ctl (Int × List Int × Int × List Am) Unit)) (Gw (λ s => ((1 <= s.1 /\ s.1 <= 5) /\ Bw ⟨s.2.1, s.2.2.1⟩ /\ ((s.2.2.2.length : Int) < s.1) /\ (∀ x, x ∈ s.2.2.2 -> Ca b x /\ x.Kind < s.1) /\ ∀ (j : Nat) x y, s.2.2.2[j]? = some x -> s.2.2.2[j + 1]? = some y -> Pp x y) /\ (5 - s.1).toNat < (5 - i).toNat) (λ s => Bw ⟨s.2.1, s.2.2.1⟩ /\ D1 b s.2.2.2 /\ s.2.2.2.length <= 4) (λ _ => False)) := λ hu =>
    Ok.next ⟨⟨by dsimp only; omega, hu, by dsimp only; omega, λ x hx => ⟨(h6 x hx).1, by have := (h6 x hx).2; dsimp only; omega⟩, h7⟩, by dsimp only; omega⟩
   refine (E5 h4 5 (by omega) (by omega)).bind λ u hu => Ok.cond (λ _ => ?_) (λ _ => skip hu.1)
   refine (E5 hu.1 4 (by omega) (by omega)).bind λ v hv => Ok.cond (λ he => ?_) (λ _ => skip hv.1)
   rw [qU h] at he
   refine (Ok.appI (by simp; omega)).bind λ m hm => Ok.next ?_
   subst hm
   refine ⟨⟨by dsimp only; omega, hv.1, by simp; omega, λ x hx => ?_, λ j x y hx hy => ?_⟩, by dsimp only; omega⟩
   ·rcases List.mem_append.1 hx with hx | hx
    ·exact ⟨(h6 x hx).1, by have := (h6 x hx).2; dsimp only; omega⟩
    ·simp at hx; subst hx; exact ⟨he, by dsimp only; omega⟩
   ·dsimp only at hx hy
    have hyl := (List.getElem?_eq_some_iff.1 hy).1
    simp at hyl
    rw [List.getElem?_append_left (by omega)] at hx
    rw [List.getElem?_append] at hy
    split at hy
    ·exact h7 j x y hx hy
    ·rename_i hn
     have e0 : j + 1 - l.length = 0 := by omega
     rw [e0] at hy
     simp at hy; subst hy
     exact .inl (h6 x (List.mem_of_getElem? hx)).2
  ·simp only [decide_eq_false_iff_not] at hq
   exact Ok.brk ⟨h4, ⟨by dsimp only; omega, λ x hx => (h6 x hx).1, h7⟩, by dsimp only; omega⟩
theorem Ayk {b : Aa} (h : Ay b) {s : Aj} (hs : Bw s) : Ok (Vr s b) λ y => (Aw b y.1 /\ y.1.Ao.length <= 4) /\ Bw y.2 := by
 unfold Vr
 refine (Awz h hs).andThen (λ s0 h0 => ?_) (λ _ h => h.elim)
 refine (Awy h h0.2).andThen (λ s1 h1 => ?_) (λ _ h => h.elim)
 refine (Aww h h0.1).andThen (λ s3 h3 => ?_) (λ _ h => h.elim)
 refine (Awv h h3.1).andThen (λ s4 h4 => ?_) (λ _ h => h.elim)
 refine (Awu h h4.1).andThen (λ s5 h5 => ?_) (λ _ h => h.elim)
 exact Ok.pure ⟨⟨⟨h1.1, h3.2.1, h4.2.1, h3.2.2, h4.2.2, h1.2, h5.2.1⟩, h5.2.2⟩, h5.1⟩
def El (b : Aa) (p : Ab) (k i : Int) : Option Int := ((b.Ag.zip p.Ah).find? λ z => (z.1.Kind == k && z.1.B == i) && z.2).map (·.1.A)
def F3 (o : Option Int) : Int × Bool := match o with
 | some a => (a, true)
 | none => (0, false)
theorem Ag8 {p : Ab} {k i : Int} : ∀ (l : List Ak) (c : List Bool) (n : Nat), n + l.length <= 9223372036854775807 -> l.length = c.length -> p.Ah.drop n = c ->
  foldI (Py p k i) l n () = match ((l.zip c).find? λ z => (z.1.Kind == k && z.1.B == i) && z.2) with
   | some z => some (.ret (z.1.A, true))
   | none => some (.next ())
 | [], c, n, _, _, _ => by simp [foldI]
 | x :: l, [], n, _, h, _ => by simp at h
 | x :: l, v :: c, n, hn, h, hd => by
  simp only [List.length_cons] at hn h
  have hv : p.Ah[n]? = some v := by
   have := congrArg (·[0]?) hd
   simpa [List.getElem?_drop] using this
  have hd' : p.Ah.drop (n + 1) = c := by rw [← List.drop_drop, hd]; rfl
  have ih := Ag8 (p := p) (k := k) (i := i) l c (n + 1) (by omega) (by omega) hd'
  have hcnt : cnt 0 n = (n : Int) := Cq (by omega)
  simp only [foldI, Py, Aut, hcnt, Bj hv, List.zip_cons_cons, List.find?_cons]
  cases hk : (x.Kind == k && x.B == i) with
  | false => simpa [A2, C9] using ih
  | true =>
   cases v with
   | false => simpa [A2, C9] using ih
   | true => simp [A2, C9]
theorem Atf {b : Aa} (h : Ay b) {p : Ab} (hc : p.Ah.length = b.Ag.length) (k i : Int) : Abg b p k i = some (F3 (El b p k i)) := by
 have hb := h.brl
 unfold Abg
 rw [Ag8 b.Ag p.Ah 0 (by omega) (by omega) rfl]
 unfold El
 cases (b.Ag.zip p.Ah).find? λ z => (z.1.Kind == k && z.1.B == i) && z.2 with
 | none => rfl
 | some z => rfl
theorem Atz {b : Aa} (h : Ay b) {p : Ab} (hc : p.Ah.length = b.Ag.length) (i : Int) : Z5 b p i = some (F3 (El b p 3 i)) := by
 unfold Z5
 rw [Atf h hc]; rfl
def F5 (b : Aa) (p : Ab) (i : Int) : Option Int :=
 if 0 <= i /\ i < p.Ac.length /\ (p.Ac.getD i.toNat default).State = 2 then El b p 2 i else none
theorem Mx {b : Aa} (h : Ay b) {p : Ab} (hp : Aw b p) (i : Int) : Z6 b p i = some (F3 (F5 b p i)) := by
 have hs := h.sol
 have hn := hp.nso
 refine Ok.eq ?_
 unfold Z6
 have e1 : w64 ((p.Ac.length : Int) - 1) = (p.Ac.length : Int) - 1 := Bb (by omega)
 by_cases hi : 0 <= i /\ i < p.Ac.length
 ·have hin : F99 i 0 (w64 ((p.Ac.length : Int) - 1)) = true := by rw [e1]; exact Aap (by omega)
  obtain ⟨x, hx⟩ : ∃ x, p.Ac[i.toNat]? = some x := ⟨_, List.getElem?_eq_getElem (by omega)⟩
  have hg : getI p.Ac i = some x := by have := Bj hx; rwa [Int.toNat_of_nonneg hi.1] at this
  have hd : p.Ac.getD i.toNat default = x := by simp [List.getD, hx]
  rw [hin, hg]
  refine Ok.bind (P := λ y => y = x) (Ok.guard (λ _ => Ok.pure rfl) λ hn => (hn ⟨rfl, trivial⟩).elim) λ y hy => ?_
  subst hy
  unfold F5
  refine Ok.cond (λ hc => ?_) (λ hc => ?_)
  ·simp only [uM, hin, Bool.or_eq_true, Bool.not_true, Bool.false_eq_true, false_or, bne_iff_ne, ne_eq] at hc
   rw [hd, if_neg (λ hh => hc hh.2.2)]
   exact Ok.pure rfl
  ·have hc := ff hc
   simp only [uM, hin, Bool.or_eq_true, Bool.not_true, Bool.false_eq_true, false_or, bne_iff_ne, ne_eq, Decidable.not_not] at hc
   rw [hd, if_pos ⟨hi.1, hi.2, hc⟩, Atf h hp.ncl]
   exact Ok.pure rfl
 ·have hin : F99 i 0 (w64 ((p.Ac.length : Int) - 1)) = false := by
   cases hq : F99 i 0 (w64 ((p.Ac.length : Int) - 1)) with
   | false => rfl
   | true => rw [Ha, e1] at hq; omega
  rw [hin]
  unfold F5
  rw [if_neg (λ hh => hi ⟨hh.1, hh.2.1⟩)]
  refine Ok.bind (P := λ _ => True) (Ok.guard (λ hg => absurd hg.1 (by simp)) λ _ => trivial) λ y _ => ?_
  refine Ok.cond (λ _ => Ok.pure rfl) (λ hc => ?_)
  simp [uM, hin] at hc
theorem Yn {b : Aa} (h : Ay b) {p : Ab} {k i a : Int} (e : El b p k i = some a) : 0 <= a /\ a < b.An := by
 unfold El at e
 rw [Option.map_eq_some_iff] at e
 obtain ⟨z, hz, rfl⟩ := e
 exact (h.br z.1 (List.of_mem_zip (List.mem_of_find?_eq_some hz)).1).1
theorem Aid {b : Aa} (h : Ay b) {p : Ab} {i a : Int} (e : F5 b p i = some a) : 0 <= a /\ a < b.An := by
 unfold F5 at e
 split at e
 ·exact Yn h e
 ·cases e
def Eo (s : List Int) (z : Ak × Bool) : List Int :=
 if z.1.Kind = 1 /\ z.2 = true then (s.set z.1.A.toNat (min (s.getD z.1.A.toNat 0) (s.getD z.1.B.toNat 0))).set z.1.B.toNat (min (s.getD z.1.A.toNat 0) (s.getD z.1.B.toNat 0)) else s
def C7 (l : List (Ak × Bool)) (s : List Int) : List Int := l.foldl Eo s
def Cm (n : Nat) : List Int := (List.range n).map λ (i : Nat) => (i : Int)
def Bd (b : Aa) (p : Ab) : List Int := (List.range b.An.toNat).foldl (λ s _ => C7 (b.Ag.zip p.Ah) s) (Cm b.An.toNat)
theorem D8 (s : List Int) (z : Ak × Bool) : (Eo s z).length = s.length := by
 unfold Eo; split <;> simp
theorem Fe (l : List (Ak × Bool)) : ∀ s : List Int, (C7 l s).length = s.length := by
 induction l with
 | nil => intro s; rfl
 | cons z l ih => intro s; show (C7 l (Eo s z)).length = _; rw [ih, D8]
theorem Oo {b : Aa} {p : Ab} {n : Nat} : ∀ (xs : List Nat) (s : List Int), s.length = n -> (xs.foldl (λ s _ => C7 (b.Ag.zip p.Ah) s) s).length = n
 | [], s, h => h
 | _ :: xs, s, h => Oo xs _ (by rw [Fe]; exact h)
theorem Ia (b : Aa) (p : Ab) : (Bd b p).length = b.An.toNat := Oo _ _ (by simp [Cm])
theorem Axp {b : Aa} (h : Ay b) {p : Ab} (hc : p.Ah.length = b.Ag.length) {s : List Int} (hs : s.length = b.An.toNat) :
  Ok (foldI (P3 p) b.Ag 0 s) (Dk (λ r => r = C7 (b.Ag.zip p.Ah) s) (λ (_ : Unit) => False)) := by
 have hb := h.brl
 have hbu := h.buses
 refine Ok.foldI0 (I := λ j r => r = C7 ((b.Ag.take j).zip (p.Ah.take j)) s) (by simp [C7]) (λ j x r hx hr => ?_) λ r hr => ?_
 ·have hj := (List.getElem?_eq_some_iff.1 hx).1
  obtain ⟨v, hv⟩ : ∃ v, p.Ah[j]? = some v := ⟨_, List.getElem?_eq_getElem (by omega)⟩
  have hcnt : cnt 0 j = (j : Int) := Cq (by omega)
  have hl : r.length = b.An.toNat := by rw [hr, Fe, hs]
  have hnext : C7 ((b.Ag.take (j + 1)).zip (p.Ah.take (j + 1))) s = Eo r (x, v) := by
   rw [Bk hx, Bk hv, List.zip_append (by simp; omega)]
   unfold C7 at hr ⊢
   rw [List.foldl_append, ← hr]; rfl
  rw [hnext]
  unfold P3
  rw [hcnt, Bj hv]
  obtain ⟨⟨a0, a1⟩, hk⟩ := h.br x (List.mem_of_getElem? hx)
  by_cases k1 : x.Kind = 1
  ·rw [beq_iff_eq.2 k1]
   refine Ok.bind (P := λ y => y = v) (Ok.guard (λ _ => Ok.pure rfl) λ hn => (hn ⟨rfl, trivial⟩).elim) λ y hy => ?_
   subst hy
   have hB : x.A < x.B /\ x.B < b.An := by omega
   cases y with
   | false =>
    refine Ok.cond (λ hq => by simp at hq) (λ _ => Ok.next ?_)
    simp [Eo]
   | true =>
    refine Ok.cond (λ _ => ?_) (λ hq => by simp at hq)
    refine (Ok.getI a0 (by omega)).bind λ u hu => (Ok.getI (by omega) (by omega)).bind λ w hw => (Ok.setI a0 (by omega)).bind λ t ht => ?_
    subst ht
    refine (Ok.getI (by omega) (by simp; omega)).bind λ _ _ => (Ok.setI (by omega) (by simp; omega)).bind λ t ht => Ok.next ?_
    subst ht
    simp [Eo, k1, List.getD, hu, hw]
  ·rw [beq_eq_false_iff_ne.2 k1]
   refine Ok.bind (P := λ _ => True) (Ok.guard (λ hg => absurd hg.1 (by simp)) λ _ => trivial) λ y _ => ?_
   refine Ok.cond (λ hq => by simp at hq) (λ _ => Ok.next ?_)
   simp [Eo, k1]
 ·rw [List.take_length, ← hc, List.take_length] at hr
  exact hr
theorem Atw {b : Aa} (h : Ay b) {p : Ab} (hc : p.Ah.length = b.Ag.length) : Abi b p = some (Bd b p) := by
 have hbu := h.buses
 refine Ok.eq ?_
 unfold Abi
 refine (Ok.mkI (by omega) (by omega)).bind λ y hy => ?_
 refine Ok.andThen (A := λ s => s = Cm b.An.toNat) (B := λ (_ : Unit) => False) ?_ ?_ (λ _ h => h.elim)
 ·refine Ok.foldI0 (I := λ j s => s = (List.range b.An.toNat).map λ i => if i < j then (i : Int) else 0) ?_ (λ j x s hx hs => ?_) λ s hs => ?_
  ·rw [hy, Nq]
   exact List.map_congr_left λ i _ => by simp
  ·have hj := (List.getElem?_eq_some_iff.1 hx).1
   have hjl : j < b.An.toNat := by rw [hy] at hj; simpa using hj
   have hcnt : cnt 0 j = (j : Int) := Cq (by omega)
   subst hs
   unfold Xf
   rw [hcnt]
   refine (Ok.getR (by omega) (by omega)).bind λ _ _ => (Ok.setR (by omega) (by omega)).bind λ z hz => Ok.next ?_
   rw [hz]
   refine List.map_congr_left λ i _ => ?_
   by_cases e : i = j
   ·subst e; simp
   ·have : ((j : Int)).toNat = j := by omega
    rw [this, if_neg e]
    by_cases e2 : i < j
    ·rw [if_pos e2, if_pos (by omega)]
    ·rw [if_neg e2, if_neg (by omega)]
  ·rw [hs]
   unfold Cm
   refine List.map_congr_left λ i hi => ?_
   rw [hy]
   simp at hi
   simp [hi]
 ·rintro s rfl
  refine Ok.andThen (A := λ s => s = Bd b p) (B := λ (_ : Unit) => False) ?_ (λ s hs => Ok.pure hs) (λ _ h => h.elim)
  refine Ok.foldI0 (I := λ j s => s = (List.range j).foldl (λ s _ => C7 (b.Ag.zip p.Ah) s) (Cm b.An.toNat)) rfl (λ j x s hx hs => ?_) λ s hs => ?_
  ·unfold Xe
   have hl : s.length = b.An.toNat := by rw [hs]; exact Oo _ _ (by simp [Cm])
   refine (Axp h hc hl).inner (λ r hr => Ok.next ?_) (λ _ h => h.elim)
   rw [hr, List.range_succ, List.foldl_append, ← hs]; rfl
  ·rw [hs]
   unfold Bd
   congr 2
   simp [Cm]
theorem Axo {s : List Int} (h : ∀ (i : Nat) v, s[i]? = some v -> 0 <= v /\ v <= i) {z : Ak × Bool} (hz : z.1.Kind = 1 -> 0 <= z.1.A /\ z.1.A < z.1.B /\ z.1.B < s.length) : ∀ (i : Nat) v, (Eo s z)[i]? = some v -> 0 <= v /\ v <= i := by
 unfold Eo
 split
 ·rename_i hk
  obtain ⟨h1, h2, h3⟩ := hz hk.1
  have ga : s[z.1.A.toNat]? = some (s.getD z.1.A.toNat 0) := by rw [List.getElem?_eq_getElem (by omega)]; simp [List.getD, List.getElem?_eq_getElem (show z.1.A.toNat < s.length by omega)]
  have gb : s[z.1.B.toNat]? = some (s.getD z.1.B.toNat 0) := by rw [List.getElem?_eq_getElem (by omega)]; simp [List.getD, List.getElem?_eq_getElem (show z.1.B.toNat < s.length by omega)]
  have ha := h _ _ ga
  have hb := h _ _ gb
  intro i v hv
  rw [List.getElem?_set] at hv
  split at hv
  ·rename_i e; subst e
   split at hv
   ·cases hv; omega
   ·cases hv
  ·rw [List.getElem?_set] at hv
   split at hv
   ·rename_i e; subst e
    split at hv
    ·cases hv; omega
    ·cases hv
   ·exact h i v hv
 ·exact h
theorem Ac5 {n : Nat} : ∀ (l : List (Ak × Bool)) (s : List Int), s.length = n -> (∀ z, z ∈ l -> z.1.Kind = 1 -> 0 <= z.1.A /\ z.1.A < z.1.B /\ z.1.B < n) -> (∀ (i : Nat) v, s[i]? = some v -> 0 <= v /\ v <= i) -> ∀ (i : Nat) v, (C7 l s)[i]? = some v -> 0 <= v /\ v <= i
 | [], s, _, _, h => h
 | z :: l, s, hs, hz, h => Ac5 l (Eo s z) (by rw [D8]; exact hs) (λ y hy => hz y (List.mem_cons_of_mem _ hy)) (Axo h (by rw [hs]; exact hz z List.mem_cons_self))
theorem Tu {b : Aa} (h : Ay b) (p : Ab) : ∀ (i : Nat) v, (Bd b p)[i]? = some v -> 0 <= v /\ v <= i := by
 have hbu := h.buses
 have hz : ∀ z, z ∈ b.Ag.zip p.Ah -> z.1.Kind = 1 -> 0 <= z.1.A /\ z.1.A < z.1.B /\ z.1.B < (b.An.toNat : Int) := by
  intro z hz hk
  have := h.br z.1 (List.of_mem_zip hz).1
  unfold R5 at this
  omega
 have key : ∀ (xs : List Nat) (s : List Int), s.length = b.An.toNat -> (∀ (i : Nat) v, s[i]? = some v -> 0 <= v /\ v <= i) -> ∀ (i : Nat) v, (xs.foldl (λ s _ => C7 (b.Ag.zip p.Ah) s) s)[i]? = some v -> 0 <= v /\ v <= i := by
  intro xs
  induction xs with
  | nil => intro s _ h; exact h
  | cons x xs ih => intro s hl h; exact ih _ (by rw [Fe]; exact hl) (Ac5 _ s hl hz h)
 refine key _ _ (by simp [Cm]) ?_
 intro i v hv
 simp only [Cm, List.getElem?_map] at hv
 cases hr : (List.range b.An.toNat)[i]? with
 | none => rw [hr] at hv; cases hv
 | some k =>
  rw [hr] at hv
  have := List.getElem?_eq_some_iff.1 hr
  simp at this
  obtain ⟨_, rfl⟩ := this
  cases hv; dsimp only; omega
def Il (x : Ai) : Bool := !((x.An.length : Int) == 0)
theorem Ax0 (l : List Ai) (h : l.length <= 9223372036854775807) : Vo l = some (On (λ x => (x.An.length : Int) == 0) l) := by
 unfold Vo
 exact Kf (λ x : Ai => (x.An.length : Int) == 0) (λ i y => rfl) l h
theorem A07 (l : List Ai) (hl : l.length <= 1000) : P2 l = some (l.filter Il) := by
 refine Ok.eq ?_
 unfold P2
 rw [Ax0 l (by omega)]
 simp only [Option.bind_some]
 unfold On
 cases hf : l.findIdx? λ x => (x.An.length : Int) == 0 with
 | none =>
  rw [List.findIdx?_eq_none_iff] at hf
  refine Ok.cond (λ _ => Ok.pure ?_) (λ hc => by simp at hc)
  rw [eq_comm, List.filter_eq_self]
  intro x hx
  simp only [Il, hf x hx]; rfl
 | some i =>
  rw [List.findIdx?_eq_some_iff_getElem] at hf
  obtain ⟨hi, hp, hn⟩ := hf
  refine Ok.cond (λ hc => ?_) (λ _ => ?_)
  ·simp only [beq_iff_eq] at hc; omega
  have e1 : w64 ((i : Int) + 1) = (i : Int) + 1 := Bb (by omega)
  simp only [e1]
  refine Ok.andThen (A := λ s => 0 <= s.1 /\ s.1 <= (l.length : Int) /\ s.2.2.length = l.length /\ s.2.2.take s.1.toNat = l.filter Il) (B := λ (_ : Unit) => False) ?_ ?_ (λ _ h => h.elim)
  ·refine Ok.whileN (λ s => (0 <= s.1 /\ s.1 < s.2.1 /\ s.2.1 <= (l.length : Int)) /\ s.2.2.length = l.length /\ s.2.2.take s.1.toNat = (l.take s.2.1.toNat).filter Il /\ s.2.2.drop s.2.1.toNat = l.drop s.2.1.toNat) (λ s => ((l.length : Int) - s.2.1).toNat) _ _ ?_ ?_ ?_
   ·refine ⟨by dsimp only; omega, rfl, ?_, rfl⟩
    dsimp only
    have e2 : ((i : Int) + 1).toNat = i + 1 := by omega
    rw [e2, Int.toNat_natCast, Bk (List.getElem?_eq_getElem hi), List.filter_append]
    have h1 : (l.take i).filter Il = l.take i := by
     rw [List.filter_eq_self]
     intro x hx
     obtain ⟨j, hj, rfl⟩ := List.getElem_of_mem hx
     simp only [List.length_take] at hj
     rw [List.getElem_take]
     have := hn j (by omega)
     simp only [Il]
     simpa using this
    have h2 : Il l[i] = false := by simp only [Il, hp]; rfl
    rw [h1]
    simp [h2]
   ·dsimp only; omega
   ·rintro ⟨a, j, m⟩ ⟨⟨h1, h2, h3⟩, h4, h5, h6⟩
    dsimp only at h1 h2 h3 h4 h5 h6
    unfold Oe Ail
    dsimp only
    refine Ok.cond (λ hq => ?_) (λ hq => ?_)
    ·simp only [decide_eq_true_eq] at hq
     have e1 : w64 (j + 1) = j + 1 := Bb (by omega)
     have e2 : w64 (a + 1) = a + 1 := Bb (by omega)
     have e3 : (j + 1).toNat = j.toNat + 1 := by omega
     have e4 : (a + 1).toNat = a.toNat + 1 := by omega
     refine (Ok.getI (by omega) (by omega)).bind λ y hy => ?_
     have hyl : l[j.toNat]? = some y := by
      have := congrArg (·[0]?) h6
      simp only [List.getElem?_drop, Nat.add_zero] at this
      rw [← this]; exact hy
     have hdrop : ∀ (q : List Ai), q.drop j.toNat = l.drop j.toNat -> q.drop (j.toNat + 1) = l.drop (j.toNat + 1) := λ q hq => by
      rw [← List.drop_drop, hq, List.drop_drop]
     refine Ok.cond (λ hf => ?_) (λ hf => ?_)
     ·refine (Ok.getI (by omega) (by omega)).bind λ _ _ => (Ok.setI (by omega) (by omega)).bind λ z hz => ?_
      rw [e1, e2]
      subst hz
      refine Ok.next ⟨⟨by dsimp only; omega, by simpa using h4, ?_, ?_⟩, by dsimp only; omega⟩
      ·dsimp only
       rw [e3, e4, Bk hyl, List.filter_append, ← h5]
       have hfl : Il y = true := hf
       rw [Bk (x := y) (by rw [List.getElem?_set_self (by omega)])]
       simp [hfl, List.take_set_of_le]
      ·dsimp only
       rw [e3, List.drop_set_of_lt (by omega)]
       exact hdrop m h6
     ·rw [e1]
      refine Ok.next ⟨⟨by dsimp only; omega, h4, ?_, ?_⟩, by dsimp only; omega⟩
      ·dsimp only
       have hfl : Il y = false := hf
       rw [e3, Bk hyl, List.filter_append, ← h5]
       simp [hfl]
      ·dsimp only
       rw [e3]; exact hdrop m h6
    ·simp only [decide_eq_false_iff_not] at hq
     have e : j.toNat = l.length := by omega
     refine Ok.brk ⟨h1, by dsimp only; omega, h4, ?_⟩
     dsimp only
     rw [h5, e, List.take_length]
  ·rintro ⟨a, j, m⟩ ⟨h1, h2, h3, h4⟩
   dsimp only at h1 h2 h3 h4 ⊢
   have hc : (Ge m a.toNat ((Int.toNat (m.length : Int)) - a.toNat) (⟨([] : List Int), ([] : List Int), ([] : List Int)⟩ : Ai)).length = l.length := by
    simp [Ge]; omega
   refine (Ok.bndI h1 (by omega) (by omega)).bind λ _ _ => (Ok.bndI (by omega) h1 (by rw [hc]; omega)).bind λ _ _ => Ok.pure ?_
   rw [← h4]
   unfold Ge
   rw [Nat.sub_zero, List.take_append_of_le_length (by simp; omega), List.take_take, Nat.min_self]
def Ft (b : Aa) (p : Ab) (o : Option Int) : Option Int := o.map λ a => (Bd b p).getD a.toNat 0
def Dz (b : Aa) (p : Ab) (n f : Nat) : List Int := ((List.range n).filter λ (i : Nat) => (Bd b p).getD i 0 == (f : Int)).map λ (i : Nat) => (i : Int)
def Ff (b : Aa) (p : Ab) (n f : Nat) : List Int := ((List.range n).filter λ (i : Nat) => Ft b p (F5 b p (i : Int)) == some (f : Int)).map λ (i : Nat) => (i : Int)
def Gl (b : Aa) (p : Ab) (n f : Nat) : List Int := ((List.range n).filter λ (i : Nat) => Ft b p (El b p 3 (i : Int)) == some (f : Int)).map λ (i : Nat) => (i : Int)
def isl (b : Aa) (p : Ab) (f : Nat) : Ai := ⟨Dz b p b.An.toNat f, Ff b p b.Ac.length f, Gl b p b.Ae.length f⟩
def Bq (b : Aa) (p : Ab) : List Ai := ((List.range b.An.toNat).map (isl b p)).filter Il
theorem Fh (q : Nat -> Bool) (n : Nat) : ((List.range (n + 1)).filter q).map (λ (i : Nat) => (i : Int)) = ((List.range n).filter q).map (λ (i : Nat) => (i : Int)) ++ if q n = true then [(n : Int)] else [] := by
 rw [List.range_succ, List.filter_append, List.map_append]
 congr 1
 cases h : q n <;> simp [h]
theorem De (q : Nat -> Bool) (n : Nat) : (((List.range n).filter q).map (λ (i : Nat) => (i : Int))).length <= n := by
 have := List.length_filter_le q (List.range n)
 simpa using this
theorem Hs {b : Aa} (h : Ay b) {p : Ab} (hp : Aw b p) : F89 b p = some (Bq b p) := by
 have hbu := h.buses
 have hso := h.sol
 have hco := h.col
 have hgl := Ia b p
 have hglo := Tu h p
 refine Ok.eq ?_
 unfold F89
 rw [Db h hp]
 simp only [Option.bind_some]
 refine Ok.cond (λ hc => by simp at hc) (λ _ => ?_)
 rw [Atw h hp.ncl]
 simp only [Option.bind_some]
 refine (Ok.mkI (by omega) (by omega)).bind λ y hy => ?_
 have hget : ∀ (i : Nat), i < b.An.toNat -> (Bd b p)[i]? = some ((Bd b p).getD i 0) := λ i hi => by
  have : i < (Bd b p).length := by omega
  simp [List.getD, List.getElem?_eq_getElem this]
 refine Ok.andThen (A := λ s => s = (List.range b.An.toNat).map λ f => (⟨Dz b p b.An.toNat f, [], []⟩ : Ai)) (B := λ (_ : Unit) => False) ?_ ?_ (λ _ h => h.elim)
 ·refine Ok.foldI0 (I := λ j s => s = (List.range b.An.toNat).map λ f => (⟨Dz b p j f, [], []⟩ : Ai)) ?_ (λ j x s hx hs => ?_) λ s hs => ?_
  ·rw [hy, Nq]; rfl
  ·subst hs
   have hj : j < b.An.toNat := by have := (List.getElem?_eq_some_iff.1 hx).1; omega
   have hlo := hglo j x hx
   have hxe : (Bd b p).getD j 0 = x := by simp [List.getD, hx]
   have hcnt : cnt 0 j = (j : Int) := Cq (by omega)
   unfold vB
   rw [hcnt]
   refine (Ok.getR (by omega) (by omega)).bind λ u hu => ?_
   subst hu
   have hl : (Dz b p j x.toNat).length <= j := De _ _
   refine (Ok.appI (by simp; omega)).bind λ v hv => (Ok.setR (by omega) (by omega)).bind λ w hw => Ok.next ?_
   rw [hw]
   refine List.map_congr_left λ f _ => ?_
   unfold Dz
   rw [Fh, hxe]
   by_cases e : f = x.toNat
   ·subst e
    rw [if_pos rfl, if_pos (by simp; omega), hv]
    rfl
   ·rw [if_neg e, if_neg (by simp; omega), List.append_nil]
  ·rw [hgl] at hs; exact hs
 ·rintro s rfl
  refine Ok.andThen (A := λ s => s.2 = (List.range b.An.toNat).map λ f => (⟨Dz b p b.An.toNat f, Ff b p b.Ac.length f, []⟩ : Ai)) (B := λ (_ : Unit) => False) ?_ ?_ (λ _ h => h.elim)
  ·refine Ok.whileN (λ s => (0 <= s.1 /\ s.1 <= (b.Ac.length : Int)) /\ s.2 = (List.range b.An.toNat).map λ f => (⟨Dz b p b.An.toNat f, Ff b p s.1.toNat f, []⟩ : Ai)) (λ s => ((b.Ac.length : Int) - s.1).toNat) _ _ ?_ ?_ ?_
   ·exact ⟨by dsimp only; omega, rfl⟩
   ·dsimp only; omega
   ·rintro ⟨i, s⟩ ⟨⟨h1, h2⟩, h3⟩
    dsimp only at h1 h2 h3
    subst h3
    unfold vA Azh
    dsimp only
    refine Ok.cond (λ hq => ?_) (λ hq => ?_)
    ·simp only [decide_eq_true_eq] at hq
     have e1 : w64 (i + 1) = i + 1 := Bb (by omega)
     have e2 : (i + 1).toNat = i.toNat + 1 := by omega
     have e3 : ((i.toNat : Nat) : Int) = i := by omega
     rw [Mx h hp]
     simp only [Option.bind_some]
     cases hcn : F5 b p i with
     | none =>
      refine Ok.cond (λ hc => by simp [F3] at hc) (λ _ => ?_)
      rw [e1]
      refine Ok.next ⟨⟨by dsimp only; omega, ?_⟩, by dsimp only; omega⟩
      dsimp only
      rw [e2]
      refine List.map_congr_left λ f _ => ?_
      unfold Ff
      rw [Fh, e3, hcn, if_neg (by simp [Ft]), List.append_nil]
     | some a =>
      have hab := Aid h hcn
      have hga := hget a.toNat (by omega)
      have hgla := hglo _ _ hga
      refine Ok.cond (λ _ => ?_) (λ hc => by simp [F3] at hc)
      have hg2 : getI (Bd b p) a = some ((Bd b p).getD a.toNat 0) := by have := Bj hga; rwa [Int.toNat_of_nonneg hab.1] at this
      simp only [F3, hg2, Option.bind_some]
      generalize hge : (Bd b p).getD a.toNat 0 = ga at hgla
      refine (Ok.getR (by omega) (by omega)).bind λ u hu => ?_
      subst hu
      have hl : (Ff b p i.toNat ga.toNat).length <= i.toNat := De _ _
      refine (Ok.appI (by simp; omega)).bind λ v hv => (Ok.setR (by omega) (by omega)).bind λ w hw => ?_
      rw [e1]
      refine Ok.next ⟨⟨by dsimp only; omega, ?_⟩, by dsimp only; omega⟩
      dsimp only
      rw [hw, e2]
      refine List.map_congr_left λ f _ => ?_
      unfold Ff
      rw [Fh, e3, hcn]
      simp only [Ft, Option.map_some, hge]
      by_cases e : f = ga.toNat
      ·subst e
       rw [if_pos rfl, if_pos (by simp; omega), hv]
       rfl
      ·rw [if_neg e, if_neg (by simp; omega), List.append_nil]
    ·simp only [decide_eq_false_iff_not] at hq
     have e : i.toNat = b.Ac.length := by omega
     rw [e]
     exact Ok.brk rfl
  ·rintro ⟨i0, s⟩ hs
   dsimp only at hs
   subst hs
   dsimp only
   refine Ok.andThen (A := λ s => s.2 = (List.range b.An.toNat).map (isl b p)) (B := λ (_ : Unit) => False) ?_ ?_ (λ _ h => h.elim)
   ·refine Ok.whileN (λ s => (0 <= s.1 /\ s.1 <= (b.Ae.length : Int)) /\ s.2 = (List.range b.An.toNat).map λ f => (⟨Dz b p b.An.toNat f, Ff b p b.Ac.length f, Gl b p s.1.toNat f⟩ : Ai)) (λ s => ((b.Ae.length : Int) - s.1).toNat) _ _ ?_ ?_ ?_
    ·exact ⟨by dsimp only; omega, rfl⟩
    ·dsimp only; omega
    ·rintro ⟨i, s⟩ ⟨⟨h1, h2⟩, h3⟩
     dsimp only at h1 h2 h3
     subst h3
     unfold uZ Azg
     dsimp only
     refine Ok.cond (λ hq => ?_) (λ hq => ?_)
     ·simp only [decide_eq_true_eq] at hq
      have e1 : w64 (i + 1) = i + 1 := Bb (by omega)
      have e2 : (i + 1).toNat = i.toNat + 1 := by omega
      have e3 : ((i.toNat : Nat) : Int) = i := by omega
      rw [Atz h hp.ncl]
      simp only [Option.bind_some]
      cases hcn : El b p 3 i with
      | none =>
       refine Ok.cond (λ hc => by simp [F3] at hc) (λ _ => ?_)
       rw [e1]
       refine Ok.next ⟨⟨by dsimp only; omega, ?_⟩, by dsimp only; omega⟩
       dsimp only
       rw [e2]
       refine List.map_congr_left λ f _ => ?_
       unfold Gl
       rw [Fh, e3, hcn, if_neg (by simp [Ft]), List.append_nil]
      | some a =>
       have hab := Yn h hcn
       have hga := hget a.toNat (by omega)
       have hgla := hglo _ _ hga
       refine Ok.cond (λ _ => ?_) (λ hc => by simp [F3] at hc)
       have hg2 : getI (Bd b p) a = some ((Bd b p).getD a.toNat 0) := by have := Bj hga; rwa [Int.toNat_of_nonneg hab.1] at this
       simp only [F3, hg2, Option.bind_some]
       generalize hge : (Bd b p).getD a.toNat 0 = ga at hgla
       refine (Ok.getR (by omega) (by omega)).bind λ u hu => ?_
       subst hu
       have hl : (Gl b p i.toNat ga.toNat).length <= i.toNat := De _ _
       refine (Ok.appI (by simp; omega)).bind λ v hv => (Ok.setR (by omega) (by omega)).bind λ w hw => ?_
       rw [e1]
       refine Ok.next ⟨⟨by dsimp only; omega, ?_⟩, by dsimp only; omega⟩
       dsimp only
       rw [hw, e2]
       refine List.map_congr_left λ f _ => ?_
       unfold Gl
       rw [Fh, e3, hcn]
       simp only [Ft, Option.map_some, hge]
       by_cases e : f = ga.toNat
       ·subst e
        rw [if_pos rfl, if_pos (by simp; omega), hv]
        rfl
       ·rw [if_neg e, if_neg (by simp; omega), List.append_nil]
     ·simp only [decide_eq_false_iff_not] at hq
      have e : i.toNat = b.Ae.length := by omega
      rw [e]
      exact Ok.brk rfl
   ·rintro ⟨i1, s⟩ hs
    dsimp only at hs
    subst hs
    dsimp only
    rw [A07 _ (by simp; omega)]
    exact Ok.pure rfl
theorem Lc {α : Type} {B : Nat} {l : List α} (h : l.length * B <= 140737488355328) : appI B [] l = some l := by
 unfold appI
 have : decide ((([] : List α).length + l.length) * B <= 140737488355328) = true := by simpa using h
 rw [this]; rfl
theorem Dy {b : Aa} (h : Ay b) {p : Ab} (hp : Aw b p) : Io p = some p := by
 have h1 := hp.ncl
 have h2 := hp.nso
 have h3 := hp.nli
 have h4 := hp.brk.len
 have h5 := h.brl
 have h6 := h.sol
 have h7 := h.col
 unfold Io Arl Ark Z4 Arj
 rw [Lc (by omega), Lc (by omega), Lc (by omega), Lc (by omega)]
 rfl
theorem eqB (l : List Bool) (h : l.length <= 9223372036854775807) : jA l l = some true := by
 unfold jA
 rw [Cw l 0 λ j x hj => ?_]
 ·simp [andThen]
 ·have hjl := (List.getElem?_eq_some_iff.1 hj).1
  unfold P9
  rw [Nat.zero_add, Cq (by omega), Bj hj]
  simp
theorem eqI (l : List Int) (h : l.length <= 9223372036854775807) : Z9 l l = some true := by
 unfold Z9
 rw [Cw l 0 λ j x hj => ?_]
 ·simp [andThen]
 ·have hjl := (List.getElem?_eq_some_iff.1 hj).1
  unfold P7
  rw [Nat.zero_add, Cq (by omega), Bj hj]
  simp
theorem eqR (l : List Af) (h : l.length <= 9223372036854775807) : Z_ l l = some true := by
 unfold Z_
 rw [Cw l 0 λ j x hj => ?_]
 ·simp [andThen]
 ·have hjl := (List.getElem?_eq_some_iff.1 hj).1
  unfold P8 Au6
  rw [Nat.zero_add, Cq (by omega), Bj hj]
  simp
theorem eqP (l : List Am) (h : l.length <= 9223372036854775807) : Z8 l l = some true := by
 unfold Z8
 rw [Cw l 0 λ j x hj => ?_]
 ·simp [andThen]
 ·have hjl := (List.getElem?_eq_some_iff.1 hj).1
  unfold P6 Au5
  rw [Nat.zero_add, Cq (by omega), Bj hj]
  simp
structure Aq7 (p : Ab) : Prop where
 c : p.Ah.length <= 1000
 s : p.Ac.length <= 1000
 l : p.Ar.length <= 1000
 k : p.Ao.length <= 1000
theorem Aw.lens {b : Aa} (h : Ay b) {p : Ab} (hp : Aw b p) : Aq7 p := by
 have h1 := hp.ncl
 have h2 := hp.nso
 have h3 := hp.nli
 have h4 := hp.brk.len
 have h5 := h.brl
 have h6 := h.sol
 have h7 := h.col
 exact ⟨by omega, by omega, by omega, by omega⟩
theorem Ar7 {p : Ab} (h : Aq7 p) : F60 p p = some true := by
 have h1 := h.c
 have h2 := h.s
 have h3 := h.l
 have h4 := h.k
 unfold F60
 rw [eqB _ (by omega), eqI _ (by omega), eqR _ (by omega), eqP _ (by omega)]
 rfl
theorem Aqh (l : List Bool) (h : l.length <= 9223372036854775807) : F37 l l = some true := by
 unfold F37
 rw [Cw l 0 λ j x hj => ?_]
 ·simp [andThen]
 ·have hjl := (List.getElem?_eq_some_iff.1 hj).1
  unfold vU
  rw [Nat.zero_add, Cq (by omega), Bj hj]
  simp
theorem Atq (l : List Int) (h : l.length <= 9223372036854775807) : F38 l l = some true := by
 unfold F38
 rw [Cw l 0 λ j x hj => ?_]
 ·simp [andThen]
 ·have hjl := (List.getElem?_eq_some_iff.1 hj).1
  unfold vT
  rw [Nat.zero_add, Cq (by omega), Bj hj]
  simp
theorem Agq {p : Ab} (h : Aq7 p) : F19 p p = some true := by
 have h1 := h.c
 have h2 := h.s
 have h3 := h.l
 have h4 := h.k
 refine Ok.eq ?_
 unfold F19
 rw [Aqh _ (by omega), Atq _ (by omega)]
 have e : (A2 [((!true), false)] (some true) default : Option Bool) = some true := rfl
 simp only [Option.bind_some]
 rw [e]
 simp only [Option.bind_some]
 refine Ok.cond (λ hc => by simp [Azy] at hc) (λ _ => ?_)
 refine Ok.andThen (A := λ _ => True) (B := λ _ => False) ?_ ?_ (λ _ h => h.elim)
 ·refine Ok.whileN (λ s => 0 <= s /\ s <= (p.Ac.length : Int)) (λ s => ((p.Ac.length : Int) - s).toNat) _ _ (by omega) (by omega) ?_
  rintro i ⟨h5, h6⟩
  unfold yG Azx
  refine Ok.cond (λ hq => ?_) (λ _ => Ok.brk trivial)
  simp only [decide_eq_true_eq] at hq
  refine (Ok.getI h5 hq).bind λ u hu => ?_
  refine Ok.bind (P := λ v => v = u) ((Ok.getI h5 hq).mono λ v hv => by rw [hu] at hv; cases hv; rfl) λ v hv => ?_
  subst hv
  refine Ok.cond (λ hc => by simp [Azw] at hc) (λ _ => Ok.next ?_)
  rw [Bb (by omega)]
  omega
 ·intro _ _
  refine Ok.andThen (A := λ _ => True) (B := λ _ => False) ?_ (λ _ _ => Ok.pure rfl) (λ _ h => h.elim)
  refine Ok.whileN (λ s => 0 <= s /\ s <= (p.Ao.length : Int)) (λ s => ((p.Ao.length : Int) - s).toNat) _ _ (by omega) (by omega) ?_
  rintro i ⟨h5, h6⟩
  unfold yF Azv
  refine Ok.cond (λ hq => ?_) (λ _ => Ok.brk trivial)
  simp only [decide_eq_true_eq] at hq
  refine (Ok.getI h5 hq).bind λ u hu => ?_
  refine Ok.bind (P := λ v => v = u) ((Ok.getI h5 hq).mono λ v hv => by rw [hu] at hv; cases hv; rfl) λ v hv => ?_
  subst hv
  refine Ok.cond (λ hc => by simp [Aus] at hc) (λ _ => Ok.next ?_)
  rw [Bb (by omega)]
  omega
def X4 (like x : Af) : Af := ⟨x.State, x.Since, like.Aq, like.Phase⟩
def Ed (like : Af) (idx : List Int) (ss : List Af) : List Af := idx.foldl (λ s i => s.set i.toNat (X4 like (s.getD i.toNat default))) ss
theorem Gs (like : Af) : ∀ (idx : List Int) (ss : List Af), (Ed like idx ss).length = ss.length
 | [], _ => rfl
 | i :: idx, ss => by
  show (Ed like idx _).length = _
  rw [Gs like idx, List.length_set]
theorem Ab1 {like : Af} {idx : List Int} {j : Nat} {i : Int} (h : idx[j]? = some i) (ss : List Af) : Ed like (idx.take (j + 1)) ss = (Ed like (idx.take j) ss).set i.toNat (X4 like ((Ed like (idx.take j) ss).getD i.toNat default)) := by
 unfold Ed
 rw [Bk h, List.foldl_append]; rfl
theorem Af8 {p : Ab} {idx : List Int} {like : Af} (h : ∀ i, i ∈ idx -> 0 <= i /\ i < p.Ac.length) : M9 p idx like = some (Ed like idx p.Ac) := by
 refine Ok.eq ?_
 unfold M9
 refine Ok.andThen (A := λ s => s = Ed like idx p.Ac) (B := λ (_ : Unit) => False) ?_ (λ s hs => Ok.pure hs) (λ _ h => h.elim)
 refine Ok.foldI0 (I := λ j s => s = Ed like (idx.take j) p.Ac) rfl (λ j x s hx hs => ?_) λ s hs => ?_
 ·have hi := h x (List.mem_of_getElem? hx)
  have hl : s.length = p.Ac.length := by rw [hs, Gs]
  unfold Og
  refine (Ok.getI hi.1 (by omega)).bind λ u hu => (Ok.setI hi.1 (by omega)).bind λ v hv => ?_
  have hvg : v[x.toNat]? = some (⟨u.State, u.Since, like.Aq, u.Phase⟩ : Af) := by rw [hv, List.getElem?_set_self (by omega)]
  refine Ok.bind (P := λ w => w = (⟨u.State, u.Since, like.Aq, u.Phase⟩ : Af)) ((Ok.getI hi.1 (by rw [hv]; simpa using by omega)).mono λ w hw => by rw [hvg] at hw; cases hw; rfl) λ w hw => ?_
  refine (Ok.setI hi.1 (by rw [hv]; simpa using by omega)).bind λ z hz => Ok.next ?_
  rw [Ab1 hx, ← hs, hz, hv, hw, List.set_set]
  have : s.getD x.toNat default = u := by simp [List.getD, hu]
  rw [this]; rfl
 ·rw [List.take_length] at hs; exact hs
def Ea (b : Aa) (p : Ab) : List Af := (Bq b p).foldl (λ s x => match x.Ac with | [] => s | i :: _ => Ed (p.Ac.getD i.toNat default) x.Ac s) p.Ac
theorem Pc {b : Aa} {p : Ab} {x : Ai} (h : x ∈ Bq b p) : ∀ i, i ∈ x.Ac -> 0 <= i /\ i < b.Ac.length := by
 unfold Bq at h
 obtain ⟨f, _, rfl⟩ := List.mem_map.1 (List.mem_filter.1 h).1
 intro i hi
 obtain ⟨k, hk, rfl⟩ := List.mem_map.1 hi
 have := List.mem_range.1 (List.mem_filter.1 hk).1
 omega
theorem Hr (b : Aa) (p : Ab) : (Bq b p).length <= b.An.toNat := by
 have := List.length_filter_le Il ((List.range b.An.toNat).map (isl b p))
 simpa [Bq] using this
def Ct (p : Ab) (s : List Af) (x : Ai) : List Af := match x.Ac with
 | [] => s
 | i :: _ => Ed (p.Ac.getD i.toNat default) x.Ac s
theorem Mt (p : Ab) (s : List Af) (x : Ai) : (Ct p s x).length = s.length := by
 unfold Ct; split
 ·rfl
 ·rw [Gs]
theorem Ka (p : Ab) : ∀ (l : List Ai) (s : List Af), (l.foldl (Ct p) s).length = s.length
 | [], _ => rfl
 | x :: l, s => by show (l.foldl (Ct p) _).length = _; rw [Ka p l, Mt]
theorem Hu (b : Aa) (p : Ab) : (Ea b p).length = p.Ac.length := Ka p _ _
theorem Tx {b : Aa} (h : Ay b) {p : Ab} (hp : Aw b p) : F57 b p = some (⟨p.Ah, Ea b p, p.Ar, p.Ao⟩, 0) := by
 refine Ok.eq ?_
 unfold F57
 rw [Db h hp, Dy h hp, Hs h hp]
 simp only [Option.bind_some]
 refine Ok.cond (λ hc => by simp at hc) (λ _ => ?_)
 refine Ok.andThen (A := λ s => s = Ea b p) (B := λ (_ : Unit) => False) ?_ (λ s hs => Ok.pure (by rw [hs])) (λ _ h => h.elim)
 refine Ok.foldI0 (I := λ j s => s = ((Bq b p).take j).foldl (Ct p) p.Ac) rfl (λ j x s hx hs => ?_) λ s hs => ?_
 ·have hi := Pc (List.mem_of_getElem? hx)
  have hl : s.length = p.Ac.length := by rw [hs, Ka]
  have hn := hp.nso
  have hnext : ((Bq b p).take (j + 1)).foldl (Ct p) p.Ac = Ct p s x := by rw [Bk hx, List.foldl_append, ← hs]; rfl
  unfold vK Azj
  cases hsrc : x.Ac with
  | nil =>
   refine Ok.cond (λ hc => by simp at hc) (λ _ => Ok.next ?_)
   rw [hnext]; simp [Ct, hsrc]
  | cons i l =>
   have hi0 := hi i (by rw [hsrc]; exact List.mem_cons_self)
   refine Ok.cond (λ _ => ?_) (λ hc => by simp at hc)
   have hg : getI (i :: l) 0 = some i := rfl
   obtain ⟨u, hu⟩ : ∃ u, p.Ac[i.toNat]? = some u := ⟨_, List.getElem?_eq_getElem (by omega)⟩
   have hg2 : getI p.Ac i = some u := by have := Bj hu; rwa [Int.toNat_of_nonneg hi0.1] at this
   rw [hg]
   simp only [Option.bind_some]
   rw [hg2]
   simp only [Option.bind_some]
   rw [Af8 (by
    intro k hk
    have := hi k (by rw [hsrc]; exact hk)
    dsimp only
    omega)]
   refine Ok.next ?_
   rw [hnext]
   have : p.Ac.getD i.toNat default = u := by simp [List.getD, hu]
   simp only [Ct, hsrc, this]
 ·rw [List.take_length] at hs; exact hs
structure H1 (y : Bf) : Prop where
 stop : 1 <= y.Stop /\ y.Stop <= 99
 start : y.Stop < y.Start /\ y.Start <= 100
 delay : 0 <= y.Delay /\ y.Delay <= 600
theorem Xs {y : Bf} (h : H1 y) : F59 y = true := by
 have h1 := h.stop
 have h2 := h.start
 have h3 := h.delay
 simp only [F59, Bool.and_eq_true, decide_eq_true_eq]
 omega
theorem Ayi {s : Aj} (hs : Bw s) : Ok (F30 s) λ y => H1 y.1 /\ Bw y.2 := by
 unfold F30
 refine (D0 hs _ (by simp) (by simp)).bind λ u hu => (D0 hu.1 _ (by simp) (by simp)).bind λ v hv => (D0 hv.1 _ (by simp) (by simp)).bind λ w hw => Ok.pure ⟨?_, hw.1⟩
 have g1 : u.1 = 60 \/ u.1 = 80 \/ u.1 = 100 := by simpa using hu.2
 have g2 : v.1 = 1 \/ v.1 = 30 \/ v.1 = 50 := by simpa using hv.2
 have g3 : w.1 = 0 \/ w.1 = 1 \/ w.1 = 3 := by simpa using hw.2
 exact ⟨by dsimp only; omega, by dsimp only; omega, by dsimp only; omega⟩
def Je : Az := ⟨-1, -1⟩
theorem A6y : F86 1 = some (List.replicate 1 Je) := by kernel_rfl
theorem A6x : F86 2 = some (List.replicate 2 Je) := by kernel_rfl
theorem A6w : F86 3 = some (List.replicate 3 Je) := by kernel_rfl
theorem A6v : F86 4 = some (List.replicate 4 Je) := by kernel_rfl
theorem A6u : F86 5 = some (List.replicate 5 Je) := by kernel_rfl
theorem A6t : F86 6 = some (List.replicate 6 Je) := by kernel_rfl
theorem A0x {n : Int} (h : 1 <= n /\ n <= 6) : F86 n = some (List.replicate n.toNat Je) := by
 have : n = 1 \/ n = 2 \/ n = 3 \/ n = 4 \/ n = 5 \/ n = 6 := by omega
 rcases this with rfl | rfl | rfl | rfl | rfl | rfl
 ·exact A6y
 ·exact A6x
 ·exact A6w
 ·exact A6v
 ·exact A6u
 ·exact A6t
def Fv (t : Int) (x : Az) : Prop := (-1 <= x.High /\ x.High <= t) /\ -1 <= x.Low /\ x.Low <= t
theorem Ao4 {p : A0} {l : List Az} (h : ∀ x, x ∈ l -> Fv p.Time x) : vJ l p = some (false, p) := by
 refine Ok.eq ?_
 unfold vJ yL
 refine Ok.bind (P := λ y => y = (-1, p)) ?_ (λ y hy => Ok.pure (by rw [hy]; rfl))
 refine Ok.andThen (A := λ s => s = (p.Time, p.Power.Ah, p.Power.Ac, p.Power.Ar, p.Power.Ao, p.A5, p.A7)) (B := λ _ => False) ?_ (λ s hs => Ok.pure (by rw [hs])) (λ _ h => h.elim)
 refine Ok.foldI0 (I := λ _ s => s = (p.Time, p.Power.Ah, p.Power.Ac, p.Power.Ar, p.Power.Ao, p.A5, p.A7)) rfl (λ j x s hx hs => ?_) λ s hs => hs
 have hr := h x (List.mem_of_getElem? hx)
 unfold Fv at hr
 subst hs
 unfold Of
 refine Ok.cond (λ hc => ?_) (λ _ => Ok.next rfl)
 simp only [Aiu, Dv, Rw, Bool.or_eq_true, Bool.not_eq_true', Bool.and_eq_false_iff, decide_eq_false_iff_not] at hc
 omega
structure Po (b : Aa) (y : Bf) (p : A0) : Prop where
 st : Aw b p.Power
 fol : Ea b p.Power = p.Power.Ac
 time : 0 <= p.Time /\ p.Time <= 2147483648
 nro : p.A5.length = b.An.toNat
 ros : ∀ x, x ∈ p.A5 -> Fv p.Time x
theorem Aen {b : Aa} (h : Ay b) {y : Bf} (hy : H1 y) {p : A0} (hp : Po b y p) : F21 b y p = some 0 := by
 have h1 := h.buses
 have h2 := hp.time
 have h3 := hp.nro
 refine Ok.eq ?_
 unfold F21
 rw [Tx h hp.st]
 simp only [Option.bind_some, hp.fol]
 refine Ok.cond (λ hc => by simp at hc) (λ _ => Ok.cond (λ hc => ?_) (λ _ => Ok.cond (λ hc => ?_) (λ _ => ?_)))
 ·simp only [Azu, Xs hy, Bool.not_true, Bool.false_or, Bool.or_eq_true, decide_eq_true_eq] at hc
  omega
 ·simp only [bne_iff_ne, ne_eq] at hc
  omega
 ·have e : (⟨p.Power.Ah, p.Power.Ac, p.Power.Ar, p.Power.Ao⟩ : Ab) = p.Power := rfl
  rw [e, Ar7 (hp.st.lens h)]
  simp only [Option.bind_some]
  rw [Ao4 hp.ros]
  have e2 : A2 [((!true), false)] (some (false, p)) (default, p) = some (false, p) := rfl
  rw [e2]
  exact Ok.pure rfl
def brk (l : List Am) (k n : Int) : Bool := l.any λ x => k == x.Kind && n == x.Number
theorem Eu {p : Ab} (h : p.Ao.length <= 1000) (k n : Int) : Hf p k n = some (brk p.Ao k n) := by
 unfold Hf Arn Arg
 rw [Kf (λ x : Am => (k == x.Kind) && ((n == x.Number) && true)) (λ i y => rfl) p.Ao (by omega)]
 simp only [Option.bind_some, Q1, brk, Bool.and_true]
def Hz (b : Aa) (i : Int) : Int := On (λ x : Ak => x.Kind == 2 && x.B == i) b.Ag
theorem uO {b : Aa} (h : Ay b) (i : Int) : Akg b i = some (Hz b i) := by
 have hb := h.brl
 unfold Akg yE
 refine Ok.eq ?_
 refine Ok.bind (P := λ y => y = (Hz b i, i)) ?_ (λ y hy => Ok.pure (by rw [hy]))
 have key := J4 (f := λ n (a : Ak) (z : Unit) => (bif (a.Kind == 2 && a.B == i) then some (.ret (cnt 0 n)) else some (.next ()) : Option (Ctl Unit Int))) (p := λ x : Ak => x.Kind == 2 && x.B == i) (λ _ _ => rfl) b.Ag 0 (by omega)
 have : ∀ (xs : List Ak) (k : Nat), foldI (Ku i) xs k () = match foldI (λ n (a : Ak) (z : Unit) => (bif (a.Kind == 2 && a.B == i) then some (.ret (cnt 0 n)) else some (.next ()) : Option (Ctl Unit Int))) xs k () with
   | some (.ret r) => some (.ret (r, i))
   | some (.next _) => some (.next ())
   | some (.brk _) => some (.brk ())
   | none => none := by
  intro xs
  induction xs with
  | nil => intro k; rfl
  | cons x xs ih =>
   intro k
   simp only [foldI, Ku, vY]
   cases hq : (x.Kind == 2 && x.B == i) with
   | true => rfl
   | false => simp only [cond_false]; exact ih (k + 1)
 rw [this, key]
 unfold Hz On
 cases b.Ag.findIdx? (λ x : Ak => x.Kind == 2 && x.B == i) with
 | none => exact Ok.pure rfl
 | some j => exact Ok.pure rfl
theorem Jg {b : Aa} (h : Ay b) {i : Int} (h0 : 0 <= i) (h1 : i < b.Ac.length) : ∃ (j : Nat) (x : Ak), Hz b i = (j : Int) /\ b.Ag[j]? = some x /\ x.Kind = 2 /\ x.B = i /\ j < 24 := by
 have hone := h.one i.toNat (by omega)
 have hb := h.brl
 unfold Hz On
 cases hf : b.Ag.findIdx? (λ x : Ak => x.Kind == 2 && x.B == i) with
 | none =>
  exfalso
  rw [List.findIdx?_eq_none_iff] at hf
  have : brs b.Ag 2 i.toNat = [] := Jz λ x hx hk e => by
   have := hf x hx
   simp [hk] at this
   omega
  rw [this] at hone; simp at hone
 | some j =>
  rw [List.findIdx?_eq_some_iff_getElem] at hf
  obtain ⟨hj, hp, _⟩ := hf
  simp only [Bool.and_eq_true, beq_iff_eq] at hp
  exact ⟨j, b.Ag[j], rfl, List.getElem?_eq_getElem hj, hp.1, hp.2, by omega⟩
def ks (x : Am) : Int := x.Kind * 1000 + x.Number
def Ci (x : Am) : Prop := (1 <= x.Kind /\ x.Kind <= 4) /\ 0 <= x.Number /\ x.Number <= 100
theorem Ca.small {b : Aa} (h : Ay b) {x : Am} (hx : Ca b x) : Ci x := by
 have h1 := h.buses
 have h2 := h.brl
 have h3 := h.sol
 have h4 := h.col
 unfold Ca at hx
 unfold Ci
 omega
theorem Aex {x y : Am} (hx : Ci x) (hy : Ci y) : Pp x y ↔ ks x < ks y := by
 unfold Pp ks
 unfold Ci at hx hy
 omega
theorem Aza {x y : Am} (hx : Ci x) (hy : Ci y) (h : ks x = ks y) : x = y := by
 unfold ks at h
 unfold Ci at hx hy
 cases x; cases y
 simp only [Am.mk.injEq]
 dsimp only at *
 omega
theorem Adk {x y : Am} (hx : Ci x) (hy : Ci y) : (decide (Ry x y < 0) = decide (ks x < ks y)) /\ ((Ry x y == 0) = (ks x == ks y)) := by
 unfold Ci at hx hy
 unfold Ry ks
 by_cases hk : x.Kind = y.Kind
 ·have : (x.Kind != y.Kind) = false := by simp [hk]
  rw [this, cond_false, Bb (by omega)]
  constructor
  ·exact decide_eq_decide.2 (by omega)
  ·rw [Bool.eq_iff_iff, beq_iff_eq, beq_iff_eq]; omega
 ·have : (x.Kind != y.Kind) = true := by simp [hk]
  rw [this, cond_true, Bb (by omega)]
  constructor
  ·exact decide_eq_decide.2 (by omega)
  ·rw [Bool.eq_iff_iff, beq_iff_eq, beq_iff_eq]; omega
def Gm (l : List Am) : Prop := ∀ (j k : Nat) x y, j < k -> l[j]? = some x -> l[k]? = some y -> ks x < ks y
theorem G4 {b : Aa} (h : Ay b) {l : List Am} (hl : D1 b l) : Gm l := by
 have hs : ∀ x, x ∈ l -> Ci x := λ x hx => (hl.mem x hx).small h
 intro j k
 induction k with
 | zero => intro x y hj; omega
 | succ k ih =>
  intro x y hj hx hy
  have hk := (List.getElem?_eq_some_iff.1 hy).1
  obtain ⟨z, hz⟩ : ∃ z, l[k]? = some z := ⟨_, List.getElem?_eq_getElem (by omega)⟩
  have h1 := (Aex (hs z (List.mem_of_getElem? hz)) (hs y (List.mem_of_getElem? hy))).1 (hl.asc k z y hz hy)
  by_cases e : j = k
  ·subst e
   rw [hx] at hz; cases hz; exact h1
  ·have := ih x z (by omega) hx hz
   omega
theorem A00 {n : Int} (h0 : 0 <= n) (h1 : n <= 1000000) : w64 (Gb .u64 (IntKind.wrap .u64 (w64 n)) 1) = n / 2 := by
 have e1 : w64 n = n := Bb (by omega)
 have e2 : IntKind.wrap .u64 n = n := by
  simp [IntKind.wrap, IntKind.signed, IntKind.bits]
  omega
 have e3 : Gb .u64 n 1 = n / 2 := by
  unfold Gb
  have : (2 : Int) ^ min 1 (IntKind.u64).bits = 2 := by decide
  rw [this]
  exact Int.fdiv_eq_ediv_of_nonneg _ (by omega)
 rw [e1, e2, e3, Bb (by omega)]
structure At (l : List Am) (x : Am) (n : Nat) : Prop where
 le : n <= l.length
 lo : ∀ (j : Nat) y, j < n -> l[j]? = some y -> ks y < ks x
 hi : ∀ (j : Nat) y, n <= j -> l[j]? = some y -> ks x <= ks y
theorem Nn {l : List Am} (hs : Gm l) (hsm : ∀ x, x ∈ l -> Ci x) {x : Am} (hx : Ci x) (hl : l.length <= 1000) :
  Ok (Uz l x) λ y => ∃ n : Nat, y.1 = (n : Int) /\ At l x n /\ (y.2 = true ↔ l[n]? = some x) := by
 unfold Uz
 refine Ok.andThen (A := λ s => ∃ n : Nat, s.1 = (n : Int) /\ At l x n) (B := λ (_ : Unit) => False) ?_ ?_ (λ _ h => h.elim)
 ·refine Ok.whileN (λ s => (0 <= s.1 /\ s.1 <= s.2 /\ s.2 <= (l.length : Int)) /\ (∀ (j : Nat) y, (j : Int) < s.1 -> l[j]? = some y -> ks y < ks x) /\ ∀ (j : Nat) y, s.2 <= (j : Int) -> l[j]? = some y -> ks x <= ks y) (λ s => (s.2 - s.1).toNat) _ _ ?_ ?_ ?_
  ·refine ⟨by dsimp only; omega, λ j y hj => by dsimp only at hj; omega, λ j y hj hy => ?_⟩
   have := (List.getElem?_eq_some_iff.1 hy).1
   dsimp only at hj; omega
  ·dsimp only; omega
  ·rintro ⟨i, j⟩ ⟨⟨h1, h2, h3⟩, h4, h5⟩
   dsimp only at h1 h2 h3 h4 h5
   unfold N6
   dsimp only
   refine Ok.cond (λ hq => ?_) (λ hq => ?_)
   ·simp only [decide_eq_true_eq] at hq
    rw [A00 (by omega) (by omega)]
    refine (Ok.getI (by omega) (by omega)).bind λ y hy => ?_
    have hym := hsm y (List.mem_of_getElem? hy)
    rw [(Adk hym hx).1]
    refine Ok.cond (λ hc => ?_) (λ hc => ?_)
    ·simp only [decide_eq_true_eq] at hc
     rw [Bb (by omega)]
     refine Ok.next ⟨⟨by dsimp only; omega, λ k z hk hz => ?_, h5⟩, by dsimp only; omega⟩
     dsimp only at hk
     by_cases e : k = ((i + j) / 2).toNat
     ·subst e; rw [hy] at hz; cases hz; exact hc
     ·have := hs k _ z y (by omega) hz hy
      omega
    ·simp only [decide_eq_false_iff_not] at hc
     refine Ok.next ⟨⟨by dsimp only; omega, h4, λ k z hk hz => ?_⟩, by dsimp only; omega⟩
     dsimp only at hk
     by_cases e : k = ((i + j) / 2).toNat
     ·subst e; rw [hy] at hz; cases hz; omega
     ·have := hs _ k y z (by omega) hy hz
      omega
   ·simp only [decide_eq_false_iff_not] at hq
    refine Ok.brk ⟨i.toNat, by dsimp only; omega, by omega, λ k y hk hy => h4 k y (by omega) hy, λ k y hk hy => h5 k y (by omega) hy⟩
 ·rintro ⟨i, j⟩ ⟨n, hn, hat⟩
  dsimp only at hn
  subst hn
  dsimp only
  by_cases hlt : n < l.length
  ·obtain ⟨y, hy⟩ : ∃ y, l[n]? = some y := ⟨_, List.getElem?_eq_getElem hlt⟩
   have hd : decide ((n : Int) < (l.length : Int)) = true := by simp; omega
   rw [hd, Bj hy]
   refine Ok.bind (P := λ z => z = y) (Ok.guard (λ _ => Ok.pure rfl) λ hn => (hn ⟨rfl, trivial⟩).elim) λ z hz => Ok.pure ⟨n, rfl, hat, ?_⟩
   subst hz
   have hym := hsm z (List.mem_of_getElem? hy)
   show (true && (Ry z x == 0)) = true ↔ _
   rw [Bool.true_and, (Adk hym hx).2, beq_iff_eq, hy]
   constructor
   ·intro e; rw [Aza hym hx e]
   ·intro e; cases e; rfl
  ·have hd : decide ((n : Int) < (l.length : Int)) = false := by simp; omega
   rw [hd]
   refine Ok.bind (P := λ _ => True) (Ok.guard (λ hg => absurd hg.1 (by simp)) λ _ => trivial) λ z _ => Ok.pure ⟨n, rfl, hat, ?_⟩
   rw [List.getElem?_eq_none (by omega)]
   simp
theorem At.uniq {l : List Am} {x : Am} {n m : Nat} (h : At l x n) (k : At l x m) : n = m := by
 rcases Nat.lt_trichotomy n m with e | e | e
 ·obtain ⟨y, hy⟩ : ∃ y, l[n]? = some y := ⟨_, List.getElem?_eq_getElem (by have := k.le; omega)⟩
  have := h.hi n y (Nat.le_refl _) hy
  have := k.lo n y e hy
  omega
 ·exact e
 ·obtain ⟨y, hy⟩ : ∃ y, l[m]? = some y := ⟨_, List.getElem?_eq_getElem (by have := h.le; omega)⟩
  have := k.hi m y (Nat.le_refl _) hy
  have := h.lo m y e hy
  omega
def Dx (l : List Am) (n : Nat) (x : Am) : List Am := l.take n ++ (x :: l.drop n)
theorem Atr {l : List Am} {n : Nat} (hn : n <= l.length) (hl : l.length <= 1000) (x : Am) : Ps l (n : Int) [x] = some (Dx l n x) := by
 refine Ok.eq ?_
 unfold Ps
 refine (Ok.bndI (by omega) (by omega) (by omega)).bind λ _ _ => ?_
 refine Ok.cond (λ hc => by simp at hc) (λ _ => Ok.cond (λ hc => ?_) (λ _ => ?_))
 ·simp only [beq_iff_eq] at hc
  have e : n = l.length := by omega
  refine (Ok.appI (by simp; omega)).bind λ y hy => Ok.pure ?_
  rw [hy, Dx, e]; simp
 ·refine (Ok.insI (by simp; omega)).mono λ y hy => ?_
  rw [hy, Int.toNat_natCast]; rfl
theorem Aul {l : List Am} {n : Nat} (hn : n <= l.length) (x : Am) : Uy (Dx l n x) (n : Int) ((n : Int) + 1) = some l := by
 have hlen : (Dx l n x).length = l.length + 1 := by simp [Dx]; omega
 refine Ok.eq ?_
 unfold Uy
 have e1 : ((n : Int) + 1).toNat = n + 1 := by omega
 have hdrop : (Dx l n x).drop (n + 1) = l.drop n := by
  unfold Dx
  rw [List.drop_append, List.drop_of_length_le (by simp; omega)]
  have : n + 1 - (l.take n).length = 1 := by simp; omega
  rw [this]; simp
 have htake : (Dx l n x).take n = l.take n := by
  unfold Dx
  rw [List.take_append_of_le_length (by simp; omega), List.take_take, Nat.min_self]
 refine (Ok.bnd3I (by omega) (by omega) (by omega) (by omega)).bind λ _ _ => Ok.cond (λ hc => ?_) (λ _ => ?_)
 ·simp only [beq_iff_eq] at hc; omega
 refine (Ok.bndI (by omega) (by omega) (by omega)).bind λ _ _ => (Ok.bndI (by omega) (by omega) (by omega)).bind λ _ _ => ?_
 simp only [Int.toNat_natCast, e1, hdrop, Nat.sub_zero]
 have hpl : ((l.drop n).take ((Dx l n x).length - (n + 1))).length = l.length - n := by simp [hlen]
 have hpe : (l.drop n).take ((Dx l n x).length - (n + 1)) = l.drop n := List.take_of_length_le (by simp [hlen])
 rw [hpe]
 have hdl : (l.drop n).length = l.length - n := by simp
 refine (Ok.appPI (by rw [hlen, hdl]; omega)).bind λ y hy => ?_
 have hyl : y.length = l.length + 1 := by rw [hy]; simp [hlen]; omega
 refine (Ok.bndI (by omega) (by rw [hlen, hdl]; omega) (by rw [hlen, hyl]; omega)).bind λ _ _ => Ok.pure ?_
 have e2 : n + (l.drop n).length = l.length := by rw [hdl]; omega
 rw [e2]
 unfold Ge
 simp only [Nat.zero_add]
 rw [List.take_append_of_le_length (by simp; omega), List.take_take, Nat.min_self, hy, htake, ← List.append_assoc, List.take_append_of_le_length (by simp), List.take_append_drop, List.take_length]
theorem Qz {l : List Am} {n : Nat} (hn : n <= l.length) {x : Am} {j : Nat} {y : Am} (h : (Dx l n x)[j]? = some y) : (j < n /\ l[j]? = some y) \/ (j = n /\ y = x) \/ (n < j /\ l[j - 1]? = some y) := by
 unfold Dx at h
 have ht : (l.take n).length = n := by simp; omega
 rw [List.getElem?_append] at h
 split at h
 ·rename_i h1
  rw [ht] at h1
  rw [List.getElem?_take, if_pos h1] at h
  exact .inl ⟨h1, h⟩
 ·rename_i h1
  rw [ht] at h1 h
  by_cases e : j = n
  ·subst e
   simp at h
   exact .inr (.inl ⟨rfl, h.symm⟩)
  ·obtain ⟨k, hk⟩ : ∃ k, j - n = k + 1 := ⟨j - n - 1, by omega⟩
   rw [hk, List.getElem?_cons_succ, List.getElem?_drop] at h
   refine .inr (.inr ⟨by omega, ?_⟩)
   rw [← h]; congr 1; omega
theorem Axl {l : List Am} {n : Nat} {x y : Am} (h : y ∈ Dx l n x) : y = x \/ y ∈ l := by
 unfold Dx at h
 rcases List.mem_append.1 h with h | h
 ·exact .inr (List.mem_of_mem_take h)
 ·rcases List.mem_cons.1 h with h | h
  ·exact .inl h
  ·exact .inr (List.mem_of_mem_drop h)
theorem Anh {b : Aa} (h : Ay b) {l : List Am} (hl : D1 b l) {x : Am} (hx : Ca b x) {n : Nat} (hat : At l x n) (hnot : l[n]? ≠ some x) (hlen : l.length < 32) : D1 b (Dx l n x) := by
 have hs := G4 h hl
 have hsm : ∀ y, y ∈ l -> Ci y := λ y hy => (hl.mem y hy).small h
 have hxs := hx.small h
 refine ⟨by simp [Dx]; omega, λ y hy => ?_, λ j y z hy hz => ?_⟩
 ·rcases Axl hy with rfl | hy
  ·exact hx
  ·exact hl.mem y hy
 ·rcases Qz hat.le hy with ⟨a1, a2⟩ | ⟨a1, a2⟩ | ⟨a1, a2⟩ <;> rcases Qz hat.le hz with ⟨b1, b2⟩ | ⟨b1, b2⟩ | ⟨b1, b2⟩
  ·exact hl.asc j y z a2 b2
  ·subst b2
   exact (Aex (hsm y (List.mem_of_getElem? a2)) hxs).2 (hat.lo j y a1 a2)
  ·omega
  ·omega
  ·omega
  ·subst a2
   have e : j + 1 - 1 = n := by omega
   rw [e] at b2
   have hzm := hsm z (List.mem_of_getElem? b2)
   refine (Aex hxs hzm).2 ?_
   have h1 := hat.hi n z (Nat.le_refl _) b2
   rcases Int.lt_or_eq_of_le h1 with h1 | h1
   ·exact h1
   ·exact absurd (by rw [b2, Aza hxs hzm h1]) hnot
  ·omega
  ·omega
  ·have e : j + 1 - 1 = j - 1 + 1 := by omega
   rw [e] at b2
   exact hl.asc (j - 1) y z a2 b2
theorem At.ins {l : List Am} {x : Am} {n : Nat} (hat : At l x n) : At (Dx l n x) x n := by
 refine ⟨by have := hat.le; simp [Dx]; omega, λ j y hj hy => ?_, λ j y hj hy => ?_⟩
 ·rcases Qz hat.le hy with ⟨_, a2⟩ | ⟨a1, _⟩ | ⟨a1, _⟩
  ·exact hat.lo j y hj a2
  ·omega
  ·omega
 ·rcases Qz hat.le hy with ⟨a1, _⟩ | ⟨_, a2⟩ | ⟨a1, a2⟩
  ·omega
  ·subst a2; exact Int.le_refl _
  ·exact hat.hi (j - 1) y (by omega) a2
theorem A0w {l : List Am} {n : Nat} (hn : n <= l.length) (x : Am) : (Dx l n x)[n]? = some x := by
 unfold Dx
 rw [List.getElem?_append_right (by simp; omega)]
 have : n - (l.take n).length = 0 := by simp; omega
 rw [this]; rfl
def Kc (ss : List Af) (x : Am) (st : Int) : List Af := if x.Kind = 1 then ss.set x.Number.toNat ⟨st, (ss.getD x.Number.toNat default).Since, (ss.getD x.Number.toNat default).Aq, (ss.getD x.Number.toNat default).Phase⟩ else ss
theorem T1 (ss : List Af) (x : Am) (st : Int) : (Kc ss x st).length = ss.length := by unfold Kc; split <;> simp
theorem Ahs {ss : List Af} (h : ∀ x, x ∈ ss -> C5 x) {x : Am} (hx : x.Kind = 1 -> 0 <= x.Number /\ x.Number < ss.length) {st : Int} (hst : 0 <= st /\ st <= 3) : ∀ y, y ∈ Kc ss x st -> C5 y := by
 unfold Kc
 split
 ·rename_i hk
  have hn := hx hk
  obtain ⟨u, hu⟩ : ∃ u, ss[x.Number.toNat]? = some u := ⟨_, List.getElem?_eq_getElem (by omega)⟩
  have hd : ss.getD x.Number.toNat default = u := by simp [List.getD, hu]
  intro y hy
  rcases List.mem_or_eq_of_mem_set hy with hy | hy
  ·exact h y hy
  ·subst hy
   rw [hd]
   have := h u (List.mem_of_getElem? hu)
   exact ⟨hst, this.2⟩
 ·exact h
theorem A04 {b : Aa} (h : Ay b) {p : Ab} (hp : Aw b p) {x : Am} (hx : Ca b x) (t : Int) {n : Nat} (hat : At p.Ao x n) (hnot : p.Ao[n]? ≠ some x) (hlen : p.Ao.length < 32) :
  He ⟨b, p, t⟩ x true = some (0, ⟨b, ⟨p.Ah, Kc p.Ac x 3, p.Ar, Dx p.Ao n x⟩, t⟩) := by
 have hs := G4 h hp.brk
 have hsm : ∀ y, y ∈ p.Ao -> Ci y := λ y hy => (hp.brk.mem y hy).small h
 refine Ok.eq ?_
 unfold He
 refine (Nn hs hsm (hx.small h) (by omega)).bind λ y hy => ?_
 obtain ⟨m, e1, hat2, hf⟩ := hy
 have e2 := hat.uniq hat2
 subst e2
 have hf2 : y.2 = false := by
  cases hb : y.2 with
  | false => rfl
  | true => exact absurd (hf.1 hb) hnot
 refine Ok.cond (λ hc => by rw [hf2] at hc; simp at hc) (λ _ => Ok.cond (λ hc => ?_) (λ _ => ?_))
 ·simp [Ra] at hc; omega
 refine Ok.andThen (A := λ z => z = Dx p.Ao n x) (B := λ (_ : Unit) => False) ?_ ?_ (λ _ h => h.elim)
 ·unfold Oc
  rw [e1, Atr hat.le (by omega)]
  exact Ok.nextE rfl
 ·rintro z rfl
  unfold Kc
  refine Ok.cond (λ hk => ?_) (λ hk => ?_)
  ·simp only [beq_iff_eq] at hk
   have hn : 0 <= x.Number /\ x.Number < p.Ac.length := by
    have := hp.nso
    unfold Ca at hx
    omega
   rw [if_pos hk]
   refine (Ok.getI hn.1 hn.2).bind λ u hu => (Ok.setI hn.1 hn.2).bind λ v hv => ?_
   have hd : p.Ac.getD x.Number.toNat default = u := by simp [List.getD, hu]
   have hvg : v[x.Number.toNat]? = some (⟨0, u.Since, u.Aq, u.Phase⟩ : Af) := by rw [hv, List.getElem?_set_self (by omega)]
   simp only [cond_true]
   refine Ok.bind (P := λ w => w = (⟨0, u.Since, u.Aq, u.Phase⟩ : Af)) ((Ok.getI hn.1 (by rw [hv]; simpa using hn.2)).mono λ w hw => by rw [hvg] at hw; cases hw; rfl) λ w hw => ?_
   subst hw
   refine (Ok.setI hn.1 (by rw [hv]; simpa using hn.2)).bind λ z hz => Ok.pure ?_
   rw [hz, hv, List.set_set, hd]
  ·simp only [beq_eq_false_iff_ne, ne_eq] at hk
   rw [if_neg hk]
   exact Ok.pure rfl
theorem A0p {b : Aa} (h : Ay b) {p : Ab} (hbl : D1 b p.Ao) {q : Ab} {x : Am} (hx : Ca b x) (t : Int) {n : Nat} (hat : At p.Ao x n) (hnot : p.Ao[n]? ≠ some x) (hlen : p.Ao.length < 32)
  (hq : q.Ao = Dx p.Ao n x) (hqs : q.Ac.length = b.Ac.length) : He ⟨b, q, t⟩ x false = some (0, ⟨b, ⟨q.Ah, Kc q.Ac x 0, q.Ar, p.Ao⟩, t⟩) := by
 have hbl2 : D1 b q.Ao := by rw [hq]; exact Anh h hbl hx hat hnot hlen
 have hs := G4 h hbl2
 have hsm : ∀ y, y ∈ q.Ao -> Ci y := λ y hy => (hbl2.mem y hy).small h
 refine Ok.eq ?_
 unfold He
 refine (Nn hs hsm (hx.small h) (by have := hbl2.len; omega)).bind λ y hy => ?_
 obtain ⟨m, e1, hat2, hf⟩ := hy
 rw [hq] at hat2 hf
 have e2 := hat.ins.uniq hat2
 subst e2
 have hf2 : y.2 = true := hf.2 (A0w hat.le x)
 refine Ok.cond (λ hc => by rw [hf2] at hc; simp at hc) (λ _ => Ok.cond (λ hc => ?_) (λ _ => ?_))
 ·simp [Ra] at hc
 refine Ok.andThen (A := λ z => z = p.Ao) (B := λ (_ : Unit) => False) ?_ ?_ (λ _ h => h.elim)
 ·unfold Oc
  have hle := hat.le
  rw [e1, Bb (by omega)]
  simp only [cond_false, hq]
  rw [Aul hat.le]
  exact Ok.nextE rfl
 ·rintro z rfl
  unfold Kc
  refine Ok.cond (λ hk => ?_) (λ hk => ?_)
  ·simp only [beq_iff_eq] at hk
   have hn : 0 <= x.Number /\ x.Number < q.Ac.length := by
    unfold Ca at hx
    omega
   rw [if_pos hk]
   refine (Ok.getI hn.1 hn.2).bind λ u hu => (Ok.setI hn.1 hn.2).bind λ v hv => ?_
   have hd : q.Ac.getD x.Number.toNat default = u := by simp [List.getD, hu]
   simp only [cond_false]
   exact Ok.pure (by rw [hv, hd])
  ·simp only [beq_eq_false_iff_ne, ne_eq] at hk
   rw [if_neg hk]
   exact Ok.pure rfl
def A02 (p : Ab) (x : Am) (n : Nat) : Ab := ⟨p.Ah, Kc p.Ac x 3, p.Ar, Dx p.Ao n x⟩
theorem Apz {b : Aa} (h : Ay b) {p : Ab} (hp : Aw b p) {x : Am} (hx : Ca b x) {n : Nat} (hat : At p.Ao x n) (hnot : p.Ao[n]? ≠ some x) (hlen : p.Ao.length < 32) : Aw b (A02 p x n) where
 ncl := hp.ncl
 nso := by show (Kc p.Ac x 3).length = _; rw [T1]; exact hp.nso
 nli := hp.nli
 run := Ahs hp.run (λ hk => by have := hp.nso; unfold Ca at hx; omega) (by omega)
 lim := hp.lim
 one := hp.one
 brk := Anh h hp.brk hx hat hnot hlen
theorem Mi (b : Aa) (k n : Int) : J0 b k n = true ↔ Ca b ⟨k, n⟩ := by
 unfold J0 Ca
 dsimp only
 by_cases h1 : k = 1
 ·subst h1; simp
 rw [beq_eq_false_iff_ne.2 h1, cond_false]
 by_cases h2 : k = 2
 ·subst h2; simp
 rw [beq_eq_false_iff_ne.2 h2, cond_false]
 by_cases h3 : k = 3
 ·subst h3; simp
 rw [beq_eq_false_iff_ne.2 h3, cond_false]
 by_cases h4 : k = 4
 ·subst h4; simp
 rw [beq_eq_false_iff_ne.2 h4, cond_false]
 simp only [Bool.and_eq_true, decide_eq_true_eq]
 omega
theorem A7o {b : Aa} (h : Ay b) {l : List Am} (hl : D1 b l) {x : Am} (hx : Ca b x) : ∃ n, At l x n := by
 have hs := G4 h hl
 obtain ⟨y, _, n, _, hat, _⟩ := Nn hs (λ y hy => (hl.mem y hy).small h) (hx.small h) (by have := hl.len; omega)
 exact ⟨n, hat⟩
theorem Aaz {b : Aa} (h : Ay b) {p : Ab} (hp : Aw b p) : F65 p = some p := by
 have hl := hp.lens h
 have h1 := hl.c
 have h2 := hl.s
 have h3 := hl.l
 have h4 := hl.k
 unfold F65
 rw [Lc (by omega), Lc (by omega), Lc (by omega), Lc (by omega)]
 rfl
theorem Ok.gT {α : Type} {l : List (Bool × Bool)} {x : Option α} {d : α} {P : α -> Prop} (hx : Da l -> Ok x λ _ => True) (hr : ∀ y, P y) : Ok (A2 l x d) P :=
 Ok.guard (λ h => (hx h).mono λ y _ => hr y) λ _ => hr d
theorem Ok.triv {α : Type} {x : Option α} {v : α} (h : x = some v) : Ok x λ _ => True := ⟨v, h, trivial⟩
theorem Az6 {x like : Af} (hx : C5 x) (hl : C5 like) : C5 (X4 like x) := ⟨hx.1, hx.2.1, hl.2.2.1, hl.2.2.2⟩
theorem Ls {ss : List Af} (h : ∀ x, x ∈ ss -> C5 x) {n : Nat} {y : Af} (hy : C5 y) : ∀ x, x ∈ ss.set n y -> C5 x := λ x hx => by
 rcases List.mem_or_eq_of_mem_set hx with hx | hx
 ·exact h x hx
 ·exact hx ▸ hy
theorem Ahi {ss : List Af} (h : ∀ x, x ∈ ss -> C5 x) {n : Nat} (hn : n < ss.length) : C5 (ss.getD n default) := by
 have : ss.getD n default = ss[n] := by simp [List.getD, List.getElem?_eq_getElem hn]
 rw [this]; exact h _ (List.getElem_mem hn)
theorem Qi {like : Af} (hl : C5 like) : ∀ (idx : List Int) (ss : List Af), (∀ i, i ∈ idx -> 0 <= i /\ i < ss.length) -> (∀ x, x ∈ ss -> C5 x) -> ∀ x, x ∈ Ed like idx ss -> C5 x
 | [], _, _, h => h
 | i :: idx, ss, hi, h => by
  have h0 := hi i List.mem_cons_self
  refine Qi hl idx _ (λ j hj => ?_) (Ls h (Az6 (Ahi h (by omega)) hl))
  have := hi j (List.mem_cons_of_mem _ hj)
  simpa using this
theorem Ahm {b : Aa} {p : Ab} (hp : Aw b p) : ∀ (l : List Ai) (s : List Af), (∀ x, x ∈ l -> ∀ i, i ∈ x.Ac -> 0 <= i /\ i < b.Ac.length) -> s.length = p.Ac.length -> (∀ x, x ∈ s -> C5 x) -> ∀ x, x ∈ l.foldl (Ct p) s -> C5 x
 | [], _, _, _, h => h
 | y :: l, s, hi, hs, h => by
  refine Ahm hp l _ (λ x hx => hi x (List.mem_cons_of_mem _ hx)) (by rw [Mt, hs]) ?_
  have h0 := hi y List.mem_cons_self
  have hn := hp.nso
  unfold Ct
  split
  ·exact h
  ·rename_i i r e
   rw [e] at h0
   have h1 := h0 i List.mem_cons_self
   rw [e]
   exact Qi (Ahi hp.run (by omega)) _ _ (λ j hj => by have := h0 j hj; omega) h
theorem Q7 {b : Aa} {p : Ab} (hp : Aw b p) : ∀ x, x ∈ Ea b p -> C5 x :=
 Ahm hp _ _ (λ _ hx => Pc hx) rfl hp.run
theorem I1 {b : Aa} {p : Ab} (hp : Aw b p) {ss : List Af} (hl : ss.length = p.Ac.length) (hr : ∀ x, x ∈ ss -> C5 x) : Aw b ⟨p.Ah, ss, p.Ar, p.Ao⟩ where
 ncl := hp.ncl
 nso := hl.trans hp.nso
 nli := hp.nli
 run := hr
 lim := hp.lim
 one := hp.one
 brk := hp.brk
theorem Apb {b : Aa} {p : Ab} (hp : Aw b p) (j : Nat) : Aw b ⟨p.Ah.set j false, p.Ac, p.Ar, p.Ao⟩ where
 ncl := by simpa using hp.ncl
 nso := hp.nso
 nli := hp.nli
 run := hp.run
 lim := hp.lim
 one i hi := by
  refine Nat.le_trans (Ahr (by simp) (λ k hk => ?_) i) (hp.one i hi)
  rw [List.getElem?_set] at hk
  split at hk
  ·split at hk <;> cases hk
  ·exact hk
 brk := hp.brk
theorem Atx {l : List Ak} : ∀ {c : List Bool} {j : Nat} {x : Ak}, l[j]? = some x -> ∀ i : Nat, (Cg l (c.set j true) i).length <= (Cg l c i).length + (if x.Kind = 3 /\ x.B = (i : Int) then 1 else 0) := by
 induction l with
 | nil => intro c j x h; simp at h
 | cons y l ih =>
  intro c j x h i
  cases c with
  | nil => simp [Cg]
  | cons v c =>
   cases j with
   | zero =>
    simp only [List.getElem?_cons_zero, Option.some.injEq] at h
    subst h
    simp only [List.set_cons_zero, Cg, List.zip_cons_cons, List.filter_cons]
    by_cases hk : y.Kind = 3 /\ y.B = (i : Int)
    ·rw [if_pos hk]
     simp only [hk.1, hk.2, beq_self_eq_true, Bool.true_and, Bool.and_true, if_true]
     split <;> simp
    ·rw [if_neg hk]
     have : (y.Kind == 3 && y.B == (i : Int)) = false := by
      rw [Bool.eq_false_iff]; intro e
      simp only [Bool.and_eq_true, beq_iff_eq] at e
      exact hk e
     simp [this]
   | succ j =>
    simp only [List.getElem?_cons_succ] at h
    have := ih (c := c) h i
    simp only [List.set_cons_succ, Cg, List.zip_cons_cons, List.filter_cons] at this ⊢
    split <;> simp at this ⊢ <;> omega
theorem Aty {b : Aa} {p : Ab} {i : Nat} (h : El b p 3 (i : Int) = none) : Cg b.Ag p.Ah i = [] := by
 unfold El at h
 rw [Option.map_eq_none_iff, List.find?_eq_none] at h
 unfold Cg
 rw [List.filter_eq_nil_iff]
 exact h
theorem A5i {b : Aa} {p : Ab} (hp : Aw b p) {j : Nat} {x : Ak} (hx : b.Ag[j]? = some x) (hf : x.Kind = 3 -> El b p 3 x.B = none) : Aw b ⟨p.Ah.set j true, p.Ac, p.Ar, p.Ao⟩ where
 ncl := by simpa using hp.ncl
 nso := hp.nso
 nli := hp.nli
 run := hp.run
 lim := hp.lim
 one i hi := by
  have h1 := Atx (c := p.Ah) hx i
  have h2 := hp.one i hi
  dsimp only
  split at h1
  ·rename_i hk
   have h3 := hf hk.1
   rw [hk.2] at h3
   rw [Aty h3] at h1
   simpa using h1
  ·omega
 brk := hp.brk
theorem A0i {b : Aa} (h : Ay b) {p : Ab} (hp : Aw b p) (i : Int) : Ok (Ako b p i) λ y => y.2 ≠ 0 \/ Aw b y.1 := by
 have hbl : p.Ao.length <= 1000 := by have := hp.brk.len; omega
 have hn := hp.ncl
 unfold Ako
 rw [Db h hp, Dy h hp]
 simp only [Option.bind_some]
 refine Ok.cond (λ hc => by simp at hc) (λ _ => Ok.cond (λ _ => Ok.pure (.inl (by simp))) (λ hr => ?_))
 simp only [Auv, Bool.or_eq_false_iff, decide_eq_false_iff_not] at hr
 refine (Ok.getI (by omega) (by omega)).bind λ v _ => Ok.bind (P := λ _ => True) (Ok.gT (λ _ => Ok.triv (Eu hbl _ _)) λ _ => trivial) λ _ _ => ?_
 refine Ok.cond (λ _ => Ok.pure (.inl (by simp))) (λ _ => ?_)
 exact (Ok.getI (by omega) (by omega)).bind λ _ _ => (Ok.setI (by omega) (by omega)).bind λ z hz => Ok.pure (.inr (by rw [hz]; exact Apb hp _))
theorem Ay4 {b : Aa} (h : Ay b) {p : Ab} (hp : Aw b p) (n : Int) : Ok (Gh b p n) λ y => ∀ i, i ∈ y.1.Ac -> 0 <= i /\ i < p.Ac.length := by
 have hn := hp.nso
 unfold Gh
 rw [Hs h hp]
 simp only [Option.bind_some]
 refine Ok.andThen (A := λ _ => True) (B := λ y => ∀ i, i ∈ y.1.Ac -> 0 <= i /\ i < p.Ac.length) ?_ (λ _ _ => Ok.pure (λ i hi => by cases hi)) (λ v hv => Ok.pure hv)
 refine Ok.foldI0 (I := λ _ _ => True) trivial (λ j x s hx _ => ?_) λ s _ => trivial
 have hmem := List.mem_of_getElem? hx
 have hbl : x.An.length <= 9223372036854775807 := by
  unfold Bq at hmem
  obtain ⟨f, _, rfl⟩ := List.mem_map.1 (List.mem_filter.1 hmem).1
  have := De (λ i => (Bd b p).getD i 0 == (f : Int)) b.An.toNat
  have := h.buses
  simp only [isl, Dz]
  omega
 unfold J1
 rw [Dt _ _ hbl]
 simp only [Option.bind_some]
 refine Ok.cond (λ _ => Ok.ret λ i hi => ?_) (λ _ => Ok.next trivial)
 have := Pc hmem i hi
 omega
theorem A9k {b : Aa} (h : Ay b) {p : Ab} (hp : Aw b p) (n : Int) : Ok (Gh b p n) λ y => y.1.An.length <= 9223372036854775807 := by
 unfold Gh
 rw [Hs h hp]
 simp only [Option.bind_some]
 refine Ok.andThen (A := λ _ => True) (B := λ y => y.1.An.length <= 9223372036854775807) ?_ (λ _ _ => Ok.pure (by simp)) (λ v hv => Ok.pure hv)
 refine Ok.foldI0 (I := λ _ _ => True) trivial (λ j x s hx _ => ?_) λ s _ => trivial
 have hmem := List.mem_of_getElem? hx
 have hbl : x.An.length <= 9223372036854775807 := by
  unfold Bq at hmem
  obtain ⟨f, _, rfl⟩ := List.mem_map.1 (List.mem_filter.1 hmem).1
  have := De (λ i => (Bd b p).getD i 0 == (f : Int)) b.An.toNat
  have := h.buses
  simp only [isl, Dz]
  omega
 unfold J1
 rw [Dt _ _ hbl]
 simp only [Option.bind_some]
 exact Ok.cond (λ _ => Ok.ret hbl) (λ _ => Ok.next trivial)
theorem Nw {b : Aa} (h : Ay b) {p : Ab} (hp : Aw b p) (n : Int) : Ok (U0 b p n) λ y => y.2 = true -> 0 <= y.1 /\ y.1 < p.Ac.length := by
 unfold U0
 refine (Ay4 h hp n).bind λ y hy => ?_
 refine Ok.cond (λ _ => Ok.pure (λ e => by cases e)) (λ hc => ?_)
 simp only [beq_eq_false_iff_ne, ne_eq] at hc
 exact (Ok.getI (by omega) (by omega)).bind λ z hz => Ok.pure λ _ => hy z (List.mem_of_getElem? hz)
theorem Ok.getB {α : Type} {l : List α} {i : Int} (h0 : 0 <= i) (h1 : i < l.length) : Ok (getI l i) λ _ => True := (Ok.getI h0 h1).mono λ _ _ => trivial
theorem Az8 {b : Aa} (h : Ay b) {p : Ab} (hp : Aw b p) {j : Nat} {x : Ak} (hx : b.Ag[j]? = some x) : Ok (Akh b p x) λ _ => True := by
 have hn := hp.nso
 have hb := h.br x (List.mem_of_getElem? hx)
 unfold R5 at hb
 unfold Akh
 refine (Nw h hp _).bind λ y hy => ?_
 refine Ok.cond (λ _ => Ok.pure trivial) (λ h2 => ?_)
 simp only [Bool.not_eq_false'] at h2
 have hy := hy h2
 refine Ok.cond (λ _ => ?_) (λ _ => Ok.cond (λ hk => ?_) (λ _ => Ok.pure trivial))
 ·refine (Nw h hp _).bind λ z hz => ?_
  refine Ok.bind (P := λ _ => True) (Ok.gT (λ _ => Ok.getB hy.1 hy.2) λ _ => trivial) λ _ _ => ?_
  refine Ok.bind (P := λ _ => True) (Ok.gT (λ hg => ?_) λ _ => trivial) λ _ _ => Ok.pure trivial
  have := hz (by have := hg.1; simpa using this)
  exact Ok.getB this.1 this.2
 ·simp only [beq_iff_eq] at hk
  exact (Ok.getB hy.1 hy.2).bind λ _ _ => (Ok.getB (by omega) (by omega)).bind λ _ _ => Ok.pure trivial
theorem Atg {o : Option Int} : (F3 o).2 = false -> o = none := by
 cases o with
 | none => intro _; rfl
 | some a => intro e; cases e
theorem Awn {b : Aa} (h : Ay b) {p : Ab} (hp : Aw b p) {j : Int} (h0 : 0 <= j) (h1 : j < b.Ag.length) : Ok (Aki b p j) λ y => y = true -> ∀ x, b.Ag[j.toNat]? = some x -> x.Kind = 3 -> El b p 3 x.B = none := by
 have hbl : p.Ao.length <= 1000 := by have := hp.brk.len; omega
 have hn := hp.nso
 have hc := hp.ncl
 unfold Aki
 refine (Ok.getI h0 h1).bind λ x hx => (Ok.getB h0 (by omega)).bind λ _ _ => ?_
 have hb := h.br x (List.mem_of_getElem? hx)
 unfold R5 at hb
 refine Ok.bind (P := λ _ => True) (Ok.gT (λ _ => Ok.triv (Eu hbl _ _)) λ _ => trivial) λ _ _ => ?_
 refine Ok.bind (P := λ _ => True) (Ok.gT (λ _ => Ok.triv (Eu hbl _ _)) λ _ => trivial) λ _ _ => ?_
 refine Ok.cond (λ _ => Ok.pure (λ e => by cases e)) (λ _ => ?_)
 refine Ok.cond (λ hk => ?_) (λ hk1 => Ok.cond (λ hk => ?_) (λ hk2 => ?_))
 ·simp only [beq_iff_eq] at hk
  rw [Eu hbl]
  refine Ok.pure λ _ y hy hy3 => ?_
  rw [hx] at hy; cases hy; omega
 ·simp only [beq_iff_eq] at hk
  rw [Eu hbl]
  simp only [Option.bind_some]
  refine Ok.bind (P := λ _ => True) (Ok.gT (λ _ => Ok.getB (by omega) (by omega)) λ _ => trivial) λ _ _ => Ok.pure λ _ y hy hy3 => ?_
  rw [hx] at hy; cases hy; omega
 ·unfold Ak8
  rw [Db h hp, Atz h hc, Eu hbl]
  simp only [Option.bind_some, bne_self_eq_false, cond_false]
  refine Ok.pure λ e y hy hy3 => ?_
  rw [hx] at hy; cases hy
  simp only [Bool.and_eq_true, Bool.not_eq_true'] at e
  exact Atg e.2
theorem A1x {b : Aa} (h : Ay b) {p : Ab} (hp : Aw b p) (j : Int) : Ok (Akj b p j) λ y => y ≠ 0 \/ ((0 <= j /\ j < b.Ag.length) /\ ∀ x, b.Ag[j.toNat]? = some x -> x.Kind = 3 -> El b p 3 x.B = none) := by
 unfold Akj
 rw [Db h hp]
 simp only [Option.bind_some]
 refine Ok.cond (λ hc => by simp at hc) (λ _ => Ok.cond (λ _ => Ok.pure (.inl (by simp))) (λ hr => ?_))
 simp only [Auq, Bool.or_eq_false_iff, decide_eq_false_iff_not] at hr
 refine (Awn h hp (by omega) (by omega)).bind λ y hy => ?_
 refine Ok.cond (λ _ => Ok.pure (.inl (by simp))) (λ h2 => ?_)
 simp only [Bool.not_eq_false'] at h2
 have hy := hy h2
 refine (Ok.getI (by omega) (by omega)).bind λ x hx => (A9k h hp x.A).bind λ z hz => ?_
 refine Ok.bind (P := λ _ => True) (Ok.gT (λ _ => Ok.triv (Dt _ _ hz)) λ _ => trivial) λ _ _ => ?_
 refine Ok.bind (P := λ _ => True) (Ok.gT (λ _ => Az8 h hp hx) λ _ => trivial) λ _ _ => ?_
 exact Ok.cond (λ _ => Ok.pure (.inl (by simp))) (λ _ => Ok.pure (.inr ⟨⟨by omega, by omega⟩, hy⟩))
theorem Ax3 {b : Aa} (h : Ay b) {p : Ab} (hp : Aw b p) (i : Int) : Ok (Akp b p i) λ y => y.2 ≠ 0 \/ Aw b y.1 := by
 have hn := hp.ncl
 unfold Akp
 rw [Dy h hp]
 simp only [Option.bind_some]
 refine (A1x h hp i).bind λ y hy => Ok.cond (λ hc => Ok.pure (.inl (by simpa using hc))) (λ hc => ?_)
 simp only [bne_eq_false_iff_eq] at hc
 rcases hy with hy | ⟨hr, hf⟩
 ·exact absurd hc hy
 ·refine (Ok.getI hr.1 (by omega)).bind λ _ _ => (Ok.setI hr.1 (by omega)).bind λ z hz => ?_
  obtain ⟨x, hx⟩ : ∃ x, b.Ag[i.toNat]? = some x := ⟨_, List.getElem?_eq_getElem (by omega)⟩
  have hq := A5i hp hx (hf x hx)
  rw [← hz] at hq
  rw [Tx h hq]
  exact Ok.pure (.inr (I1 hq (Hu _ _) (Q7 hq)))
theorem Aw5 {b : Aa} (h : Ay b) {p : Ab} (hp : Aw b p) (i n : Int) : Ok (Akn b p i n) λ y => y.2 ≠ 0 \/ Aw b y.1 := by
 have hn := hp.nso
 unfold Akn
 rw [Db h hp, Dy h hp]
 simp only [Option.bind_some]
 refine Ok.cond (λ hc => by simp at hc) (λ _ => Ok.cond (λ _ => Ok.pure (.inl (by simp))) (λ hr => ?_))
 simp only [Auu, Bool.or_eq_false_iff, decide_eq_false_iff_not] at hr
 refine (Nw h hp n).bind λ y hy => ?_
 refine Ok.bind (P := λ _ => True) (Ok.gT (λ _ => Ok.getB (by omega) (by omega)) λ _ => trivial) λ u _ => ?_
 refine Ok.cond (λ _ => Ok.pure (.inl (by simp))) (λ hc => ?_)
 simp only [Bool.or_eq_false_iff, Bool.not_eq_false'] at hc
 have hy := hy hc.1
 unfold Abe
 rw [Db h hp, Mx h hp]
 simp only [Option.bind_some, bne_self_eq_false, cond_false]
 have hrun : ∀ w, p.Ac[y.1.toNat]? = some w -> C5 w := λ w hw => hp.run w (List.mem_of_getElem? hw)
 refine Ok.cond (λ _ => ?_) (λ _ => ?_)
 ·refine (Ay4 h hp _).bind λ z hz => (Ok.getI hy.1 hy.2).bind λ w hw => ?_
  rw [Af8 hz]
  exact Ok.pure (.inr (I1 hp (Gs _ _ _) (Qi (hrun w hw) _ _ hz hp.run)))
 ·refine (Ok.getI hy.1 hy.2).bind λ w hw => ?_
  have hz : ∀ k, k ∈ [i] -> 0 <= k /\ k < p.Ac.length := λ k hk => by
   simp only [List.mem_singleton] at hk
   subst hk; omega
  rw [Af8 hz]
  exact Ok.pure (.inr (I1 hp (Gs _ _ _) (Qi (hrun w hw) _ _ hz hp.run)))
theorem Tq {b : Aa} (h : Ay b) {p : Ab} (hc : p.Ah.length = b.Ag.length) (t : Int) {i : Int} (h0 : 0 <= i) (h1 : i < b.Ac.length) : Ok (Ji ⟨b, p, t⟩ i) λ _ => True := by
 obtain ⟨j, x, e, hx, _⟩ := Jg h h0 h1
 have hj := (List.getElem?_eq_some_iff.1 hx).1
 unfold Ji
 rw [uO h, e]
 simp only [Option.bind_some]
 exact (Ok.getB (by omega) (by omega)).bind λ _ _ => Ok.pure trivial
def Xo (b : Aa) (y : Int × A3) : Prop := y.1 ≠ 0 \/ Aw b y.2.Au
theorem Awl {b : Aa} (h : Ay b) {p : Ab} (hp : Aw b p) {t : Int} (ht : 0 <= t /\ t <= 2147483648) {i : Int} (h0 : 0 <= i) (h1 : i < b.Ac.length) : Ok (Vf ⟨b, p, t⟩ i) (Xo b) := by
 have hn := hp.nso
 have hbl : p.Ao.length <= 1000 := by have := hp.brk.len; omega
 unfold Vf
 refine (Ok.getB h0 (by dsimp only; omega)).bind λ u _ => Ok.bind (P := λ _ => True) (Ok.gT (λ _ => Ok.triv (Eu hbl _ _)) λ _ => trivial) λ _ _ => ?_
 refine Ok.cond (λ _ => Ok.pure (.inl (by simp))) (λ _ => (Ok.getB h0 h1).bind λ s _ => ?_)
 refine Ok.bind (P := λ _ => True) (Ok.gT (λ _ => Tq h hp.ncl t h0 h1) λ _ => trivial) λ _ _ => ?_
 refine Ok.cond (λ _ => ?_) (λ _ => ?_)
 ·exact (Ok.setI h0 (by dsimp only; omega)).bind λ z hz => Ok.pure (.inr (by
   rw [hz]
   exact I1 hp (by simp) (Ls hp.run ⟨by dsimp only; omega, ht, by dsimp only; omega, by dsimp only; omega⟩)))
 ·exact (Ok.setI h0 (by dsimp only; omega)).bind λ z hz => Ok.pure (.inr (by
   rw [hz]
   exact I1 hp (by simp) (Ls hp.run ⟨by dsimp only; omega, ht, by dsimp only; omega, by dsimp only; omega⟩)))
theorem Az9 {b : Aa} (h : Ay b) {p : Ab} (hp : Aw b p) {t : Int} {i : Int} (h0 : 0 <= i) (h1 : i < b.Ac.length) : Ok (Ve ⟨b, p, t⟩ i) (Xo b) := by
 have hn := hp.nso
 unfold Ve
 refine (Ok.getI h0 (by dsimp only; omega)).bind λ u hu => ?_
 have hr := hp.run u (List.mem_of_getElem? hu)
 refine Ok.bind (P := λ _ => True) (Ok.gT (λ _ => Tq h hp.ncl t h0 h1) λ _ => trivial) λ _ _ => ?_
 refine Ok.cond (λ _ => Ok.pure (.inl (by simp))) (λ _ => (Ok.setI h0 (by dsimp only; omega)).bind λ z hz => Ok.pure (.inr ?_))
 rw [hz]
 exact I1 hp (by simp) (Ls hp.run ⟨by dsimp only; omega, hr.2⟩)
theorem Aw8 {b : Aa} {p : Ab} (hp : Aw b p) {t : Int} {i v : Int} (h0 : 0 <= i) (h1 : i < b.Ae.length) : Ok (Vd ⟨b, p, t⟩ i v) (Xo b) := by
 have hn := hp.nli
 unfold Vd
 refine Ok.bind (P := λ y => 0 <= v -> b.Ae[i.toNat]? = some y) (Ok.guard (λ _ => (Ok.getI h0 h1).mono λ y hy _ => hy) λ hg hv => (hg ⟨by simp; omega, trivial⟩).elim) λ c hc => ?_
 refine Ok.cond (λ _ => Ok.pure (.inl (by simp))) (λ hr => ?_)
 simp only [Aij, Bool.or_eq_false_iff, decide_eq_false_iff_not] at hr
 have hc := hc (by omega)
 refine (Ok.getB h0 (by dsimp only; omega)).bind λ _ _ => (Ok.setI h0 (by dsimp only; omega)).bind λ z hz => Ok.pure (.inr ?_)
 subst hz
 exact {
  ncl := hp.ncl
  nso := hp.nso
  nli := by simpa using hp.nli
  run := hp.run
  lim := λ k m y hk hy => by
   dsimp only at hk
   rw [List.getElem?_set] at hk
   split at hk
   ·rename_i e
    split at hk
    ·cases hk
     rw [← e, hc] at hy; cases hy; omega
    ·cases hk
   ·exact hp.lim k m y hk hy
  one := hp.one
  brk := hp.brk }
theorem A0m (x : Int) : 0 <= Fq x /\ Fq x <= 3599 := by
 have := Lg (x := x) (n := 3600) (by omega)
 unfold Fq
 by_cases h : Int.tmod x 3600 < 0
 ·rw [decide_eq_true h, cond_true, Bb (by omega)]; omega
 ·rw [decide_eq_false h, cond_false]; omega
theorem Az4 {b : Aa} (h : Ay b) {p : Ab} (hp : Aw b p) : Ok (Z1 b p) λ y => Aw b y.1 /\ y.1.Ah = p.Ah /\ y.2 = 0 := by
 have hs := h.sol
 have hn := hp.nso
 unfold Z1
 rw [Db h hp, Dy h hp]
 simp only [Option.bind_some]
 refine Ok.cond (λ hc => by simp at hc) (λ _ => ?_)
 refine Ok.andThen (A := λ s => s.length = p.Ac.length /\ ∀ x, x ∈ s -> C5 x) (B := λ (_ : Unit) => False) ?_ (λ s hs => Ok.pure ⟨I1 hp hs.1 hs.2, rfl, rfl⟩) (λ _ h => h.elim)
 refine Ok.foldI0 (I := λ _ s => s.length = p.Ac.length /\ ∀ x, x ∈ s -> C5 x) ⟨rfl, hp.run⟩ (λ j x s hx hs => ?_) λ s hs => hs
 have hj := (List.getElem?_eq_some_iff.1 hx).1
 have hcnt : cnt 0 j = (j : Int) := Cq (by omega)
 unfold Pt
 rw [hcnt]
 refine Ok.cond (λ _ => ?_) (λ _ => Ok.next hs)
 refine (Ok.getI (by omega) (by omega)).bind λ u hu => (Ok.setI (by omega) (by omega)).bind λ z hz => Ok.next ?_
 have hr := hs.2 u (List.mem_of_getElem? hu)
 rw [hz]
 exact ⟨by simpa using hs.1, Ls hs.2 ⟨hr.1, hr.2.1, hr.2.2.1, A0m _⟩⟩
theorem Alx {b : Aa} (h : Ay b) {p : Ab} (hp : Aw b p) (t : Int) : Ok (Kx ⟨b, p, t⟩) λ y => Aw b y.Au := by
 have hso := h.sol
 unfold Kx
 refine (Az4 h hp).bind λ ⟨q, e⟩ hq => ?_
 dsimp only at hq ⊢
 obtain ⟨hq, _, _⟩ := hq
 have hn := hq.nso
 refine Ok.andThen (A := λ s => s.2.length = q.Ac.length /\ ∀ x, x ∈ s.2 -> C5 x) (B := λ (_ : Unit) => False) ?_ (λ s hs => Ok.pure (I1 hq hs.1 hs.2)) (λ _ h => h.elim)
 refine Ok.whileN (λ s => (0 <= s.1 /\ s.1 <= (q.Ac.length : Int)) /\ s.2.length = q.Ac.length /\ ∀ x, x ∈ s.2 -> C5 x) (λ s => ((q.Ac.length : Int) - s.1).toNat) _ _ ?_ ?_ ?_
 ·exact ⟨by dsimp only; omega, rfl, hq.run⟩
 ·dsimp only; omega
 ·rintro ⟨i, s⟩ ⟨⟨h1, h2⟩, h3, h4⟩
  dsimp only at h1 h2 h3 h4
  unfold Kw Y3
  dsimp only
  refine Ok.cond (λ hc => ?_) (λ _ => Ok.brk ⟨h3, h4⟩)
  simp only [decide_eq_true_eq] at hc
  have e1 : w64 (i + 1) = i + 1 := Bb (by omega)
  refine (Ok.getI h1 (by omega)).bind λ u hu => ?_
  have hr := h4 u (List.mem_of_getElem? hu)
  refine Ok.bind (P := λ _ => True) (Ok.gT (λ _ => Tq h hq.ncl t h1 (by omega)) λ _ => trivial) λ _ _ => ?_
  refine Ok.bind (P := λ _ => True) (Ok.gT (λ _ => Ok.getB h1 (by omega)) λ _ => trivial) λ _ _ => ?_
  rw [e1]
  refine Ok.cond (λ _ => ?_) (λ _ => Ok.next ⟨⟨by dsimp only; omega, h3, h4⟩, by dsimp only; omega⟩)
  refine (Ok.setI h1 (by omega)).bind λ z hz => Ok.next ⟨⟨by dsimp only; omega, ?_, ?_⟩, by dsimp only; omega⟩
  ·dsimp only; rw [hz]; simpa using h3
  ·dsimp only; rw [hz]; exact Ls h4 ⟨by dsimp only; omega, hr.2⟩
theorem bet {x lo hi : Int} (h : lo <= x /\ x <= hi) : B4 x lo hi = true := (I0 x lo hi).2 h
def ofL (b : Aa) (q : Ak -> Bool) : List Int := (b.Ag.zipIdx.filter λ z => q z.1).map λ z => (z.2 : Int)
theorem Aab {b : Aa} (h : Ay b) (k i : Int) : F77 b k i = some (ofL b λ x => Hy k i x) := by
 have hb := h.brl
 refine Ok.eq ?_
 unfold F77
 refine Ok.andThen (A := λ s => s = ofL b λ x => Hy k i x) (B := λ (_ : Unit) => False) ?_ (λ s hs => Ok.pure hs) (λ _ h => h.elim)
 refine Ok.foldI0 (I := λ j s => s = ((b.Ag.zipIdx.take j).filter λ z => Hy k i z.1).map λ z => (z.2 : Int)) rfl (λ j x s hx hs => ?_) λ s hs => ?_
 ·have hj := (List.getElem?_eq_some_iff.1 hx).1
  have hcnt : cnt 0 j = (j : Int) := Cq (by omega)
  have hz : b.Ag.zipIdx[j]? = some (x, j) := by rw [List.getElem?_zipIdx, hx]; simp
  have hsl : s.length <= j := by
   rw [hs, List.length_map]
   exact Nat.le_trans (List.length_filter_le _ _) (by simp; omega)
  unfold vH
  rw [hcnt, Bk hz, List.filter_append, List.map_append, ← hs]
  refine Ok.cond (λ hq => ?_) (λ hq => Ok.next (by simp [hq]))
  exact (Ok.appI (by simp; omega)).bind λ y hy => Ok.next (by rw [hy]; simp [hq])
 ·rw [hs, show b.Ag.length = b.Ag.zipIdx.length from by simp, List.take_length]; rfl
theorem Arv (q : Ak -> Bool) : ∀ (l : List Ak) (k : Nat), ((l.zipIdx k).filter λ z => q z.1).length = (l.filter q).length
 | [], _ => rfl
 | x :: l, k => by
  simp only [List.zipIdx_cons, List.filter_cons]
  split <;> simp [Arv q l (k + 1)]
theorem A0k (b : Aa) (q : Ak -> Bool) : (ofL b q).length = (b.Ag.filter q).length := by
 unfold ofL
 rw [List.length_map, Arv]
theorem Ao7 (k : Int) (hk : k ≠ 1) (i : Int) (x : Ak) : Hy k i x = (x.Kind == k && x.B == i) := by
 unfold Hy
 have : (k == 1) = false := beq_eq_false_iff_ne.2 hk
 rw [this]; simp
theorem V6 {b : Aa} {k : Int} (hk : k ≠ 1) (i : Nat) : (ofL b λ x => Hy k (i : Int) x).length = (brs b.Ag k i).length := by
 rw [A0k]
 unfold brs
 congr 1
 exact List.filter_congr λ x _ => Ao7 k hk i x
theorem Agp {b : Aa} (h : Ay b) : Akv b = some true := by
 have hs := h.sol
 have hc := h.col
 have hb := h.buses
 have hbl := h.brl
 refine Ok.eq ?_
 unfold Akv
 rw [Cw b.Ag 0 λ j x hj => ?_]
 ·rw [show ∀ (f : Unit -> Option Bool), andThen (some (Ctl.next ()) : Option (Ctl Unit Bool)) some f = f () from λ _ => rfl]
  refine Ok.andThen (A := λ _ => True) (B := λ (_ : Bool) => False) ?_ (λ _ _ => ?_) (λ _ h => h.elim)
  ·refine Ok.whileN (λ s => 0 <= s /\ s <= (b.Ac.length : Int)) (λ s => ((b.Ac.length : Int) - s).toNat) _ (0 : Int) (by omega) (by omega) ?_
   rintro i ⟨h1, h2⟩
   unfold Xc Ano
   refine Ok.cond (λ hq => ?_) (λ _ => Ok.brk trivial)
   simp only [decide_eq_true_eq] at hq
   obtain ⟨n, rfl⟩ : ∃ n : Nat, i = (n : Int) := ⟨i.toNat, by omega⟩
   rw [Aab h]
   simp only [Option.bind_some]
   have hone := h.one n (by omega)
   rw [V6 (by decide), hone, Bb (by omega)]
   refine Ok.cond (λ hc => by simp at hc) (λ _ => Ok.next ⟨by omega, by omega⟩)
  ·refine Ok.andThen (A := λ _ => True) (B := λ (_ : Bool) => False) ?_ (λ _ _ => Ok.pure rfl) (λ _ h => h.elim)
   refine Ok.whileN (λ s => 0 <= s /\ s <= (b.Ae.length : Int)) (λ s => ((b.Ae.length : Int) - s).toNat) _ (0 : Int) (by omega) (by omega) ?_
   rintro i ⟨h1, h2⟩
   unfold Xb Ann
   refine Ok.cond (λ hq => ?_) (λ _ => Ok.brk trivial)
   simp only [decide_eq_true_eq] at hq
   obtain ⟨n, rfl⟩ : ∃ n : Nat, i = (n : Int) := ⟨i.toNat, by omega⟩
   rw [Aab h]
   simp only [Option.bind_some]
   have hany := h.any n (by omega)
   have hpos : 0 < (brs b.Ag 3 n).length := List.length_pos_iff.2 hany
   rw [V6 (by decide), Bb (by omega)]
   refine Ok.cond (λ hc => ?_) (λ _ => Ok.next ⟨by omega, by omega⟩)
   simp only [decide_eq_true_eq] at hc; omega
 ·have hjl := (List.getElem?_eq_some_iff.1 hj).1
  obtain ⟨⟨a0, a1⟩, hk⟩ := h.br x (List.mem_of_getElem? hj)
  rw [Nat.zero_add]
  have hcnt : cnt 0 j = (j : Int) := Cq (by omega)
  have e1 : w64 (b.An - 1) = b.An - 1 := Bb (by omega)
  have e2 : w64 (x.A + 1) = x.A + 1 := Bb (by omega)
  have e3 : w64 ((b.Ac.length : Int) - 1) = (b.Ac.length : Int) - 1 := Bb (by omega)
  have e4 : w64 ((b.Ae.length : Int) - 1) = (b.Ae.length : Int) - 1 := Bb (by omega)
  unfold Xd Au2 Au1 Au0
  rw [e1, e2, e3, e4, hcnt, bet (x := x.A) (by omega)]
  simp only [Bool.not_true, cond_false]
  rcases hk with ⟨hk, h1, h2⟩ | ⟨hk, h1, h2⟩ | ⟨hk, h1, h2⟩
  ·rw [hk, bet (x := x.B) (lo := x.A + 1) (by omega)]; rfl
  ·rw [hk, bet (x := x.B) (lo := 0) (hi := (b.Ac.length : Int) - 1) (by omega)]; rfl
  ·rw [hk, bet (x := x.B) (lo := 0) (hi := (b.Ae.length : Int) - 1) (by omega)]
   have hcut : cutI b.Ag 0 (j : Int) = some (b.Ag.take j) := by
    refine Ok.eq ((Ok.cutI (by omega) (by omega) (by omega)).mono λ y hy => ?_)
    rw [hy]; simp
   show ((cutI b.Ag 0 (j : Int)).bind λ y9 => andThen (foldI (P0 x) y9 0 ()) (λ v => some (Ctl.ret v)) λ z1 => some (Ctl.next ())) = some (Ctl.next ())
   rw [hcut]
   simp only [Option.bind_some]
   rw [Cw _ 0 λ m y hy => ?_]
   ·rfl
   ·have hml : m < j := by
     have := (List.getElem?_eq_some_iff.1 hy).1
     simp only [List.length_take] at this; omega
    have hyb : b.Ag[m]? = some y := by
     rw [List.getElem?_take, if_pos hml] at hy; exact hy
    unfold P0
    have hne : Aik x y = false := by
     unfold Aik
     rw [Bool.eq_false_iff]
     intro e
     simp only [Bool.and_true, Bool.and_eq_true, beq_iff_eq] at e
     obtain ⟨e1, e2, e3⟩ := e
     have hn := h.nodup x.B.toNat
     have hsplit : b.Ag = b.Ag.take j ++ (x :: b.Ag.drop (j + 1)) := by
      conv => lhs; rw [← List.take_append_drop j b.Ag]
      rw [List.drop_eq_getElem_cons hjl]
      have : b.Ag[j] = x := by
       rw [List.getElem?_eq_getElem hjl] at hj; cases hj; rfl
      rw [this]
     rw [hsplit, Gg, List.map_append] at hn
     have hBn : x.B = (x.B.toNat : Int) := by omega
     have hmem1 : y.A ∈ (brs (b.Ag.take j) 3 x.B.toNat).map (·.A) := by
      refine List.mem_map.2 ⟨y, ?_, rfl⟩
      unfold brs
      refine List.mem_filter.2 ⟨List.mem_of_getElem? hy, ?_⟩
      rw [e1, hk, e3, ← hBn]; simp
     have hmem2 : x.A ∈ (brs (x :: b.Ag.drop (j + 1)) 3 x.B.toNat).map (·.A) := by
      refine List.mem_map.2 ⟨x, ?_, rfl⟩
      unfold brs
      refine List.mem_filter.2 ⟨List.mem_cons_self, ?_⟩
      rw [hk, ← hBn]; simp
     exact (List.nodup_append.1 hn).2.2 _ hmem1 _ hmem2 e2
    rw [hne]; rfl
theorem Ale {b : Aa} (h : Ay b) : Aku b = some true := by
 unfold Aku
 rw [Cw b.Ac 0 λ j x hj => ?_]
 ·rfl
 ·obtain ⟨h1, h2, h3⟩ := h.so x (List.mem_of_getElem? hj)
  unfold Xa Auz
  rw [bet h1, bet h2, bet h3]; rfl
theorem Aem {b : Aa} (h : Ay b) : Akt b = some true := by
 have hcl := h.col
 unfold Akt
 rw [Cw b.Ae 0 λ j x hj => ?_]
 ·rfl
 ·obtain ⟨h1, h2, h3, h4, h5, h6, h7⟩ := h.co j x hj
  have hjl := (List.getElem?_eq_some_iff.1 hj).1
  rw [Nat.zero_add]
  have hcnt : cnt 0 j = (j : Int) := Cq (by omega)
  unfold W_ Auy
  rw [bet h1, bet h2, bet h3, bet h4]
  have hd : decide ((x.Needs.length : Int) > 4) = false := by simp; omega
  rw [hd]
  simp only [Bool.not_true, Bool.or_false, cond_false]
  rw [Cw x.Needs 0 λ m n hm => ?_]
  ·rfl
  ·have hml := (List.getElem?_eq_some_iff.1 hm).1
   rw [Nat.zero_add]
   have hcm : cnt 0 m = (m : Int) := Cq (by omega)
   have hn := h6 n (List.mem_of_getElem? hm)
   unfold W9 Aux
   rw [hcnt, hcm, Bb (n := (j : Int) - 1) (by omega), bet (x := n) (by omega)]
   cases m with
   | zero => rfl
   | succ m =>
    obtain ⟨a, ha⟩ : ∃ a, x.Needs[m]? = some a := ⟨_, List.getElem?_eq_getElem (by omega)⟩
    have hlt := h7 m a n ha hm
    have e : w64 (((m + 1 : Nat) : Int) - 1) = (m : Int) := by rw [Bb (by omega)]; omega
    have hp : decide (((m + 1 : Nat) : Int) > 0) = true := decide_eq_true (by omega)
    have hq : decide (a >= n) = false := by simp; omega
    rw [e, Bj ha, hp]
    simp [A2, C9, hq]
theorem Agr {b : Aa} (h : Ay b) : Abp b = some 0 := by
 have h1 := h.buses
 have h2 := h.brl
 have h3 := h.sol
 have h4 := h.col
 have h5 := h.phase
 have h6 := h.freq
 unfold Abp
 rw [Agp h, Ale h, Aem h]
 have e : Aiw b = false := by
  rw [Bool.eq_false_iff]; intro e
  simp [Aiw] at e; omega
 have e2 : Aiv b true true true = false := by
  rw [Bool.eq_false_iff]; intro e
  simp [Aiv] at e; omega
 rw [e]
 simp only [cond_false, Option.bind_some]
 have g1 : (A2 [(!true, false)] (some true) default : Option Bool) = some true := rfl
 have g2 : (A2 [(!true || !true, false)] (some true) default : Option Bool) = some true := rfl
 rw [g1, Option.bind_some, g2, Option.bind_some, e2]; rfl
theorem Abs (i : Nat) (C : List Bool) : ∀ (l : List Ak) (c : List Bool) (k : Nat), C.drop k = c -> l.length = c.length ->
  (((l.zipIdx k).filter λ z => z.1.Kind == 3 && z.1.B == (i : Int)).filter λ z => C.getD z.2 false).length = (Cg l c i).length
 | [], _, _, _, _ => by simp [Cg]
 | x :: l, [], _, _, h => by simp at h
 | x :: l, v :: c, k, hd, h => by
  have hv : C[k]? = some v := by
   have := congrArg (·[0]?) hd
   simpa [List.getElem?_drop] using this
  have hd' : C.drop (k + 1) = c := by rw [← List.drop_drop, hd]; rfl
  have ih := Abs i C l c (k + 1) hd' (by simpa using h)
  have hg : C.getD k false = v := by simp [List.getD, hv]
  simp only [List.zipIdx_cons, List.filter_cons, Cg, List.zip_cons_cons] at ih ⊢
  cases hq : (x.Kind == 3 && x.B == (i : Int)) with
  | false => simpa only [Bool.false_and, Bool.false_eq_true, if_false] using ih
  | true =>
   simp only [if_true, List.filter_cons, hg]
   cases v with
   | false => simpa only [Bool.and_false, Bool.false_eq_true, if_false] using ih
   | true => simpa only [Bool.and_self, if_true, List.length_cons, Nat.add_right_cancel_iff] using ih
theorem Ih {b : Aa} (h : Ay b) {p : Ab} (hp : Aw b p) : F53 b p = some 0 := by
 have h3 := h.sol
 have h4 := h.col
 have hbl := h.brl
 have hncl := hp.ncl
 have hnso := hp.nso
 have hnli := hp.nli
 refine Ok.eq ?_
 unfold F53
 rw [Agr h]
 simp only [Option.bind_some]
 refine Ok.cond (λ hc => by simp at hc) (λ _ => Ok.cond (λ hc => ?_) (λ _ => ?_))
 ·simp [Azq, hncl, hnso, hnli] at hc
 rw [Cw p.Ac 0 λ j x hj => ?_]
 ·rw [show ∀ (f : Unit -> Option Int), andThen (some (Ctl.next ()) : Option (Ctl Unit Int)) some f = f () from λ _ => rfl]
  rw [Cw p.Ar 0 λ j x hj => ?_]
  ·rw [show ∀ (f : Unit -> Option Int), andThen (some (Ctl.next ()) : Option (Ctl Unit Int)) some f = f () from λ _ => rfl]
   have hlen := hp.brk.len
   refine Ok.cond (λ hc => ?_) (λ _ => ?_)
   ·simp only [decide_eq_true_eq] at hc; omega
   rw [Cw p.Ao 0 λ j x hj => ?_]
   ·rw [show ∀ (f : Unit -> Option Int), andThen (some (Ctl.next ()) : Option (Ctl Unit Int)) some f = f () from λ _ => rfl]
    refine Ok.andThen (A := λ _ => True) (B := λ (_ : Int) => False) ?_ (λ _ _ => Ok.pure rfl) (λ _ h => h.elim)
    refine Ok.whileN (λ s => 0 <= s /\ s <= (b.Ae.length : Int)) (λ s => ((b.Ae.length : Int) - s).toNat) _ (0 : Int) (by omega) (by omega) ?_
    rintro i ⟨g1, g2⟩
    unfold vO Azn
    refine Ok.cond (λ hq => ?_) (λ _ => Ok.brk trivial)
    simp only [decide_eq_true_eq] at hq
    obtain ⟨n, rfl⟩ : ∃ n : Nat, i = (n : Int) := ⟨i.toNat, by omega⟩
    rw [Aab h]
    simp only [Option.bind_some]
    have hone := hp.one n (by omega)
    have hz : ofL b (λ x => Hy 3 (n : Int) x) = ((b.Ag.zipIdx.filter λ z => z.1.Kind == 3 && z.1.B == (n : Int)).map λ z => (z.2 : Int)) := by
     unfold ofL
     congr 1
     exact List.filter_congr λ z _ => Ao7 3 (by decide) n z.1
    have hzf := Abs n p.Ah b.Ag p.Ah 0 rfl (by omega)
    rw [hz]
    have hin : ∀ z, z ∈ (b.Ag.zipIdx.filter λ z => z.1.Kind == 3 && z.1.B == (n : Int)) -> z.2 < p.Ah.length := by
     rintro ⟨x, j⟩ hm
     have := (List.mem_filter.1 hm).1
     rw [List.mem_zipIdx_iff_getElem?] at this
     have := (List.getElem?_eq_some_iff.1 this).1
     dsimp only; omega
    have hsz : (b.Ag.zipIdx.filter λ z => z.1.Kind == 3 && z.1.B == (n : Int)).length <= 24 := Nat.le_trans (List.length_filter_le _ _) (by simpa using hbl)
    generalize hm : (b.Ag.zipIdx.filter λ z => z.1.Kind == 3 && z.1.B == (n : Int)) = m at hin hsz hzf
    refine (Ok.foldI0 (xs := m.map λ z => (z.2 : Int)) (I := λ j s => s = (((m.take j).filter λ z => p.Ah.getD z.2 false).length : Int)) (A := λ s => s = ((m.filter λ z => p.Ah.getD z.2 false).length : Int)) (B := λ (_ : Unit) => False) rfl (λ j x s hx hs => ?_) λ s hs => ?_).inner (λ s hs => ?_) (λ _ h => h.elim)
    ·rw [List.getElem?_map, Option.map_eq_some_iff] at hx
     obtain ⟨z, hz, rfl⟩ := hx
     have hzl := hin z (List.mem_of_getElem? hz)
     obtain ⟨v, hv⟩ : ∃ v, p.Ah[z.2]? = some v := ⟨_, List.getElem?_eq_getElem hzl⟩
     have hg : p.Ah.getD z.2 false = v := by simp [List.getD, hv]
     have hle : ((m.take j).filter λ z => p.Ah.getD z.2 false).length <= 24 := Nat.le_trans (List.length_filter_le _ _) (by simp; omega)
     unfold vN
     rw [Bj hv, Bk hz, List.filter_append]
     simp only [Option.bind_some]
     refine Ok.cond (λ hq => Ok.next ?_) (λ hq => Ok.next ?_)
     ·rw [hs, Bb (by omega), List.filter_cons, hg, if_pos hq]
      simp
     ·rw [hs, List.filter_cons, hg, if_neg (ff hq)]
      simp
    ·rw [List.length_map, List.take_length] at hs; exact hs
    ·rw [hs, hzf, Bb (by omega)]
     refine Ok.cond (λ hc => ?_) (λ _ => Ok.next ⟨by omega, by omega⟩)
     simp only [decide_eq_true_eq] at hc; omega
   ·have hjl := (List.getElem?_eq_some_iff.1 hj).1
    rw [Nat.zero_add]
    have hcnt : cnt 0 j = (j : Int) := Cq (by omega)
    unfold vP Azo
    rw [(qU h x).2 (hp.brk.mem x (List.mem_of_getElem? hj)), hcnt]
    cases j with
    | zero => rfl
    | succ j =>
     obtain ⟨a, ha⟩ : ∃ a, p.Ao[j]? = some a := ⟨_, List.getElem?_eq_getElem (by omega)⟩
     have hlt := hp.brk.asc j a x ha hj
     have e : w64 (((j + 1 : Nat) : Int) - 1) = (j : Int) := by rw [Bb (by omega)]; omega
     have hpz : decide (((j + 1 : Nat) : Int) > 0) = true := decide_eq_true (by omega)
     have hb : Abo a x = true := by
      unfold Abo
      unfold Pp at hlt
      simp only [Bool.or_eq_true, Bool.and_eq_true, decide_eq_true_eq, beq_iff_eq]
      exact hlt
     rw [e, Bj ha, hpz]
     simp [A2, C9, hb]
  ·have hjl := (List.getElem?_eq_some_iff.1 hj).1
   rw [Nat.zero_add]
   have hcnt : cnt 0 j = (j : Int) := Cq (by omega)
   obtain ⟨c, hc⟩ : ∃ c, b.Ae[j]? = some c := ⟨_, List.getElem?_eq_getElem (by omega)⟩
   unfold vQ
   rw [hcnt, Bj hc]
   simp only [Option.bind_some]
   rw [bet (hp.lim j x c hj hc)]; rfl
 ·have hr := hp.run x (List.mem_of_getElem? hj)
  unfold vR Azp
  rw [bet hr.1, bet hr.2.1, bet hr.2.2.1, bet hr.2.2.2]; rfl
theorem At9 {l : List Am} {n : Nat} {x : Am} (h : l[n]? = some x) : Dx (l.take n ++ l.drop (n + 1)) n x = l := by
 have hn := (List.getElem?_eq_some_iff.1 h).1
 have ht : (l.take n).length = n := by simp; omega
 unfold Dx
 rw [List.take_append_of_le_length (by omega), List.take_take, Nat.min_self, List.drop_append_of_le_length (by omega), List.drop_of_length_le (by omega), List.nil_append]
 conv => rhs; rw [← List.take_append_drop n l]
 rw [List.drop_eq_getElem_cons hn]
 have : l[n] = x := by rw [List.getElem?_eq_getElem hn] at h; cases h; rfl
 rw [this]
theorem Kq {l : List Am} {n j : Nat} (hn : n < l.length) {y : Am} (h : (l.take n ++ l.drop (n + 1))[j]? = some y) : (j < n /\ l[j]? = some y) \/ (n <= j /\ l[j + 1]? = some y) := by
 have ht : (l.take n).length = n := by simp; omega
 rw [List.getElem?_append] at h
 split at h
 ·rename_i h1
  rw [ht] at h1
  rw [List.getElem?_take, if_pos h1] at h
  exact .inl ⟨h1, h⟩
 ·rename_i h1
  rw [ht] at h1 h
  rw [List.getElem?_drop] at h
  refine .inr ⟨by omega, ?_⟩
  rw [← h]; congr 1; omega
theorem Axt {b : Aa} (h : Ay b) {l : List Am} (hl : D1 b l) {n : Nat} (hn : n < l.length) : D1 b (l.take n ++ l.drop (n + 1)) := by
 have hs := G4 h hl
 have hsm : ∀ y, y ∈ l -> Ci y := λ y hy => (hl.mem y hy).small h
 have hlen := hl.len
 refine ⟨by simp; omega, λ y hy => ?_, λ j y z hy hz => ?_⟩
 ·rcases List.mem_append.1 hy with hy | hy
  ·exact hl.mem y (List.mem_of_mem_take hy)
  ·exact hl.mem y (List.mem_of_mem_drop hy)
 ·rcases Kq hn hy with ⟨a1, a2⟩ | ⟨a1, a2⟩ <;> rcases Kq hn hz with ⟨b1, b2⟩ | ⟨b1, b2⟩
  ·exact hl.asc j y z a2 b2
  ·exact (Aex (hsm y (List.mem_of_getElem? a2)) (hsm z (List.mem_of_getElem? b2))).2 (hs j (j + 1 + 1) y z (by omega) a2 b2)
  ·omega
  ·exact hl.asc (j + 1) y z a2 b2
theorem Axu {b : Aa} (h : Ay b) {l : List Am} (hl : D1 b l) {n : Nat} {x : Am} (hx : l[n]? = some x) : At (l.take n ++ l.drop (n + 1)) x n /\ (l.take n ++ l.drop (n + 1))[n]? ≠ some x := by
 have hs := G4 h hl
 have hn := (List.getElem?_eq_some_iff.1 hx).1
 refine ⟨⟨by simp; omega, λ j y hj hy => ?_, λ j y hj hy => ?_⟩, λ e => ?_⟩
 ·rcases Kq hn hy with ⟨_, a2⟩ | ⟨a1, _⟩
  ·exact hs j n y x hj a2 hx
  ·omega
 ·rcases Kq hn hy with ⟨a1, _⟩ | ⟨_, a2⟩
  ·omega
  ·have := hs n (j + 1) x y (by omega) hx a2; omega
 ·rcases Kq hn e with ⟨a1, _⟩ | ⟨_, a2⟩
  ·omega
  ·have := hs n (n + 1) x x (by omega) hx a2; omega
theorem A03 {b : Aa} (h : Ay b) {p : Ab} (hp : Aw b p) (t : Int) {x : Am} (hx : Ca b x) (v : Bool) : Ok (He ⟨b, p, t⟩ x v) (Xo b) := by
 obtain ⟨n, hat⟩ := A7o h hp.brk hx
 have hlen := hp.brk.len
 have hsearch := Nn (G4 h hp.brk) (λ y hy => (hp.brk.mem y hy).small h) (hx.small h) (by omega)
 have hbad : ∀ (hv : (p.Ao[n]? = some x) ↔ v = true), Ok (He ⟨b, p, t⟩ x v) (Xo b) := by
  intro hv
  unfold He
  refine hsearch.bind λ y hy => ?_
  obtain ⟨m, e1, hat2, hf⟩ := hy
  have e2 := hat.uniq hat2
  subst e2
  have : y.2 = v := by
   rw [Bool.eq_iff_iff]; exact hf.trans hv
  rw [this]
  exact Ok.cond (λ _ => Ok.pure (.inl (by simp))) (λ hc => by simp at hc)
 by_cases hin : p.Ao[n]? = some x
 ·cases v with
  | true => exact hbad ⟨λ _ => rfl, λ _ => hin⟩
  | false =>
   have hn := (List.getElem?_eq_some_iff.1 hin).1
   have he := Axu h hp.brk hin
   have hq : Aw b ⟨p.Ah, p.Ac, p.Ar, p.Ao.take n ++ p.Ao.drop (n + 1)⟩ := { ncl := hp.ncl, nso := hp.nso, nli := hp.nli, run := hp.run, lim := hp.lim, one := hp.one, brk := Axt h hp.brk hn }
   have := A0p h (p := ⟨p.Ah, p.Ac, p.Ar, p.Ao.take n ++ p.Ao.drop (n + 1)⟩) hq.brk (q := p) hx t he.1 he.2 (by simp; omega) (At9 hin).symm hp.nso
   rw [this]
   refine Ok.pure (.inr ?_)
   exact I1 hq (T1 _ _ _) (Ahs hp.run (λ hk => by have := hp.nso; unfold Ca at hx; omega) (by omega))
 ·cases v with
  | false => exact hbad ⟨λ e => absurd e hin, λ e => by cases e⟩
  | true =>
   by_cases hl : p.Ao.length < 32
   ·rw [A04 h hp hx t hat hin hl]
    exact Ok.pure (.inr (Apz h hp hx hat hin hl))
   ·unfold He
    refine hsearch.bind λ y _ => Ok.cond (λ _ => Ok.pure (.inl (by simp))) (λ _ => Ok.cond (λ _ => Ok.pure (.inl (by simp))) (λ hc => ?_))
    simp [Ra] at hc; omega
def A3t : Ab := ⟨[], [], [], []⟩
theorem Axb {b : Aa} (a : Ap) : Ok (Abn b a) λ y => y = true -> ((a.Kind = 1 \/ a.Kind = 2) -> Ca b ⟨2, a.Unit⟩) /\ ((a.Kind = 3 \/ a.Kind = 4) -> Ca b ⟨1, a.Unit⟩) /\ (a.Kind = 5 -> Ca b ⟨4, a.Unit⟩) /\ ((a.Kind = 8 \/ a.Kind = 9) -> Ca b ⟨a.Value, a.Unit⟩) := by
 unfold Abn
 refine Ok.andThen (A := λ z => z = true ↔ (a.Kind = 1 \/ a.Kind = 2)) (B := λ (_ : Unit) => False) ?_ (λ z hz => ?_) (λ _ h => h.elim)
 ·unfold Abm
  refine Ok.cond (λ hk => Ok.nextE ?_) (λ hk => Ok.nextE ?_)
  ·simp only [beq_iff_eq] at hk ⊢; omega
  ·simp only [beq_eq_false_iff_ne, ne_eq] at hk
   simp only [beq_iff_eq]; omega
 refine Ok.cond (λ hq => Ok.pure λ hk => ?_) (λ hq => ?_)
 ·have := hz.1 hq
  have hk := (Mi b _ _).1 hk
  exact ⟨λ _ => hk, λ e => by omega, λ e => by omega, λ e => by omega⟩
 have hn12 : ¬ (a.Kind = 1 \/ a.Kind = 2) := λ e => by rw [hz.2 e] at hq; cases hq
 refine Ok.andThen (A := λ z => z = true ↔ (a.Kind = 3 \/ a.Kind = 4)) (B := λ (_ : Unit) => False) ?_ (λ z hz => ?_) (λ _ h => h.elim)
 ·unfold Abl
  refine Ok.cond (λ hk => Ok.nextE ?_) (λ hk => Ok.nextE ?_)
  ·simp only [beq_iff_eq] at hk ⊢; omega
  ·simp only [beq_eq_false_iff_ne, ne_eq] at hk
   simp only [beq_iff_eq]; omega
 refine Ok.cond (λ hq => Ok.pure λ hk => ?_) (λ hq => ?_)
 ·have := hz.1 hq
  have hk := (Mi b _ _).1 hk
  exact ⟨λ e => by omega, λ _ => hk, λ e => by omega, λ e => by omega⟩
 have hn34 : ¬ (a.Kind = 3 \/ a.Kind = 4) := λ e => by rw [hz.2 e] at hq; cases hq
 refine Ok.cond (λ hq => Ok.pure λ hk => ?_) (λ hq5 => Ok.cond (λ hq => Ok.pure λ _ => ?_) (λ hq6 => Ok.cond (λ hq => Ok.pure λ hk => ?_) (λ hq8 => Ok.cond (λ hq => Ok.pure λ hk => ?_) (λ hq9 => Ok.pure λ _ => ?_))))
 ·simp only [beq_iff_eq] at hq
  have hk := (Mi b _ _).1 hk
  exact ⟨λ e => by omega, λ e => by omega, λ _ => hk, λ e => by omega⟩
 ·simp only [beq_iff_eq] at hq
  exact ⟨λ e => by omega, λ e => by omega, λ e => by omega, λ e => by omega⟩
 ·have hk := (Mi b _ _).1 hk
  simp only [beq_iff_eq] at hq
  exact ⟨λ e => by omega, λ e => by omega, λ e => by omega, λ _ => hk⟩
 ·have hk := (Mi b _ _).1 hk
  simp only [beq_iff_eq] at hq
  exact ⟨λ e => by omega, λ e => by omega, λ e => by omega, λ _ => hk⟩
 ·simp only [beq_eq_false_iff_ne, ne_eq] at hq5 hq8 hq9
  exact ⟨λ e => by omega, λ e => by omega, λ e => by omega, λ e => by omega⟩
theorem A7d {b : Aa} (h : Ay b) {p : Ab} (hp : Aw b p) {t : Int} (ht : 0 <= t /\ t <= 2147483648) {a : Ap} (hk : 1 <= a.Kind /\ a.Kind <= 9)
  (hw : ((a.Kind = 1 \/ a.Kind = 2) -> Ca b ⟨2, a.Unit⟩) /\ ((a.Kind = 3 \/ a.Kind = 4) -> Ca b ⟨1, a.Unit⟩) /\ (a.Kind = 5 -> Ca b ⟨4, a.Unit⟩) /\ ((a.Kind = 8 \/ a.Kind = 9) -> Ca b ⟨a.Value, a.Unit⟩)) : Ok (M8 ⟨b, p, t⟩ a) (Xo b) := by
 obtain ⟨w1, w2, w3, w4⟩ := hw
 unfold Ca at w2 w3
 dsimp only at w2 w3
 unfold M8
 refine Ok.cond (λ _ => (Ax3 h hp _).bind λ y hy => Ok.pure hy) (λ q1 => ?_)
 refine Ok.cond (λ _ => (A0i h hp _).bind λ y hy => Ok.pure hy) (λ q2 => ?_)
 refine Ok.cond (λ _ => (Aw5 h hp _ _).bind λ y hy => Ok.pure hy) (λ q6 => ?_)
 refine Ok.cond (λ q => ?_) (λ q3 => ?_)
 ·simp only [beq_iff_eq] at q
  exact (Awl h hp ht (by omega) (by omega)).bind λ y hy => Ok.pure hy
 refine Ok.cond (λ q => ?_) (λ q4 => ?_)
 ·simp only [beq_iff_eq] at q
  exact (Az9 h hp (by omega) (by omega)).bind λ y hy => Ok.pure hy
 refine Ok.cond (λ q => ?_) (λ q5 => ?_)
 ·simp only [beq_iff_eq] at q
  exact (Aw8 hp (by omega) (by omega)).bind λ y hy => Ok.pure hy
 refine Ok.cond (λ _ => (Alx h hp t).bind λ y hy => Ok.pure (.inr hy)) (λ q7 => ?_)
 simp only [beq_eq_false_iff_ne, ne_eq] at q1 q2 q3 q4 q5 q6 q7
 exact (A03 h hp t (w4 (by omega)) _).bind λ y hy => Ok.pure hy
theorem A5z {b : Aa} (h : Ay b) {p : Ab} (hp : Aw b p) (t : Int) (a : Ap) : Ok (F83 b p t a) λ y => (y.2 ≠ 0 /\ y.1 = A3t) \/ (y.2 = 0 /\ Aw b y.1) := by
 unfold F83
 rw [Db h hp, Dy h hp]
 simp only [Option.bind_some]
 refine Ok.cond (λ hc => by simp at hc) (λ _ => Ok.cond (λ _ => Ok.pure (.inl ⟨by simp, rfl⟩)) (λ hr => ?_))
 simp only [Aqe, Bool.or_eq_false_iff, decide_eq_false_iff_not] at hr
 refine (Axb a).bind λ y hy => Ok.cond (λ _ => Ok.pure (.inl ⟨by simp, rfl⟩)) (λ hk => ?_)
 simp only [Bool.not_eq_false'] at hk
 refine (A7d h hp (by omega) (by omega) (hy hk)).bind λ z hz => Ok.cond (λ hc => Ok.pure (.inl ⟨by simpa using hc, rfl⟩)) (λ hc => ?_)
 simp only [bne_eq_false_iff_eq] at hc
 rcases hz with hz | hz
 ·exact absurd hc hz
 ·exact Ok.pure (.inr ⟨rfl, hz⟩)
theorem A59 {b : Aa} (h : Ay b) {s : Aj} (hs : Bw s) : Ok (vV s b) λ y => Bw y.2 := by
 have hbu := h.buses
 have hbl := h.brl
 have hso := h.sol
 have hco := h.col
 unfold vV
 refine (Hc hs 1 9 (by omega) (by omega) (by omega)).bind λ y hy => ?_
 refine Ok.andThen (A := λ _ => True) (B := λ (_ : Unit) => False) ?_ (λ z _ => ?_) (λ _ h => h.elim)
 ·unfold Z0
  exact Ok.cond (λ _ => Ok.nextE trivial) (λ _ => Ok.nextE trivial)
 refine Ok.cond (λ _ => ?_) (λ _ => ?_)
 ·exact (Um hy.1 _ (by rw [Bb (by omega)]; omega)).bind λ u hu => Ok.pure hu.1
 refine Ok.andThen (A := λ _ => True) (B := λ (_ : Unit) => False) ?_ (λ z _ => ?_) (λ _ h => h.elim)
 ·unfold Zz
  exact Ok.cond (λ _ => Ok.nextE trivial) (λ _ => Ok.nextE trivial)
 refine Ok.cond (λ _ => ?_) (λ _ => Ok.cond (λ _ => ?_) (λ _ => Ok.cond (λ _ => ?_) (λ _ => Ok.cond (λ _ => ?_) (λ _ => Ok.cond (λ _ => ?_) (λ _ => Ok.pure hy.1)))))
 ·exact (Um hy.1 _ (by rw [Bb (by omega)]; omega)).bind λ u hu => Ok.pure hu.1
 ·exact (Um hy.1 _ (by rw [Bb (by omega)]; omega)).bind λ u hu => (D0 hu.1 _ (by simp) (by simp)).bind λ v hv => Ok.pure hv.1
 ·exact (Um hy.1 _ (by rw [Bb (by omega)]; omega)).bind λ u hu => (Um hu.1 _ (by rw [Bb (by omega)]; omega)).bind λ v hv => Ok.pure hv.1
 ·exact (Hc hy.1 1 4 (by omega) (by omega) (by omega)).bind λ u hu => (Um hu.1 _ (by omega)).bind λ v hv => Ok.pure hv.1
 ·exact (Hc hy.1 1 4 (by omega) (by omega) (by omega)).bind λ u hu => (Um hu.1 _ (by omega)).bind λ v hv => Ok.pure hv.1
abbrev Dg := List (Ak × Bool)
def Tie (L : Dg) (i j : Nat) : Prop := ∃ z, z ∈ L /\ z.1.Kind = 1 /\ z.2 = true /\ ((z.1.A.toNat = i /\ z.1.B.toNat = j) \/ (z.1.A.toNat = j /\ z.1.B.toNat = i))
theorem Tie.symm {L : Dg} {i j : Nat} (h : Tie L i j) : Tie L j i := by
 obtain ⟨z, h1, h2, h3, h4⟩ := h
 exact ⟨z, h1, h2, h3, h4.symm⟩
inductive C_ (L : Dg) (i : Nat) : Nat -> Nat -> Prop
 | refl : C_ L i 0 i
 | stay {r j : Nat} : C_ L i r j -> C_ L i (r + 1) j
 | step {r j k : Nat} : C_ L i r j -> Tie L j k -> C_ L i (r + 1) k
def Gi (L : Dg) (i j : Nat) : Prop := ∃ r, C_ L i r j
theorem Gi.refl (L : Dg) (i : Nat) : Gi L i i := ⟨0, .refl⟩
theorem Gi.tie {L : Dg} {i j k : Nat} (h : Gi L i j) (t : Tie L j k) : Gi L i k := by
 obtain ⟨r, h⟩ := h; exact ⟨r + 1, h.step t⟩
theorem Gi.trans {L : Dg} {i j k : Nat} (h : Gi L i j) (h2 : Gi L j k) : Gi L i k := by
 obtain ⟨r, h2⟩ := h2
 induction h2 with
 | refl => exact h
 | stay _ ih => exact ih
 | step _ t ih => exact ih.tie t
theorem Gi.symm {L : Dg} {i j : Nat} (h : Gi L i j) : Gi L j i := by
 obtain ⟨r, h⟩ := h
 induction h with
 | refl => exact .refl L i
 | stay _ ih => exact ih
 | step _ t ih => exact (Gi.tie (.refl L _) t.symm).trans ih
theorem C_.le {L : Dg} {i j r s : Nat} (h : C_ L i r j) (hs : r <= s) : C_ L i s j := by
 induction s with
 | zero =>
  have : r = 0 := by omega
  subst this; exact h
 | succ s ih =>
  by_cases e : r = s + 1
  ·subst e; exact h
  ·exact (ih (by omega)).stay
open Classical in
noncomputable def cn (p : Nat -> Prop) : Nat -> Nat
 | 0 => 0
 | n + 1 => cn p n + if p n then 1 else 0
theorem Aze (p : Nat -> Prop) : ∀ n, cn p n <= n
 | 0 => Nat.le_refl _
 | n + 1 => by have := Aze p n; unfold cn; split <;> omega
theorem Aa1 {p q : Nat -> Prop} : ∀ n, (∀ k, k < n -> p k -> q k) -> cn p n <= cn q n
 | 0, _ => Nat.le_refl _
 | n + 1, h => by
  have := Aa1 n λ k hk => h k (by omega)
  have h1 := h n (by omega)
  unfold cn
  by_cases hp : p n
  ·rw [if_pos hp, if_pos (h1 hp)]; omega
  ·rw [if_neg hp]; split <;> omega
theorem Aqc {p q : Nat -> Prop} : ∀ n, (∀ k, k < n -> p k -> q k) -> cn p n = cn q n -> ∀ k, k < n -> q k -> p k
 | 0, _, _, k, hk, _ => by omega
 | n + 1, h, e, k, hk, hq => by
  have hm := Aa1 n λ k hk => h k (by omega)
  have h1 := h n (by omega)
  unfold cn at e
  by_cases hp : p n
  ·rw [if_pos hp, if_pos (h1 hp)] at e
   by_cases ek : k = n
   ·subst ek; exact hp
   ·exact Aqc n (λ k hk => h k (by omega)) (by omega) k (by omega) hq
  ·rw [if_neg hp] at e
   by_cases hqn : q n
   ·rw [if_pos hqn] at e; omega
   ·rw [if_neg hqn] at e
    by_cases ek : k = n
    ·subst ek; exact absurd hq hqn
    ·exact Aqc n (λ k hk => h k (by omega)) (by omega) k (by omega) hq
def Ae2 (L : Dg) (n : Nat) : Prop := ∀ i j, Tie L i j -> i < n /\ j < n
theorem uE {L : Dg} {n i j : Nat} (hL : Ae2 L n) (_ : i < n) (h : Gi L i j) : C_ L i n j := by
 have hst : ∃ r, r <= n /\ ∀ k, k < n -> C_ L i (r + 1) k -> C_ L i r k := by
  by_cases hex : ∃ r, r <= n /\ ∀ k, k < n -> C_ L i (r + 1) k -> C_ L i r k
  ·exact hex
  exfalso
  have hgrow : ∀ r, r <= n -> cn (C_ L i r) n < cn (C_ L i (r + 1)) n := by
   intro r hr
   have hm := Aa1 (p := C_ L i r) (q := C_ L i (r + 1)) n λ k _ h => h.stay
   rcases Nat.lt_or_eq_of_le hm with h | h
   ·exact h
   ·exact absurd ⟨r, hr, Aqc n (λ k _ h => h.stay) h⟩ hex
  have hge : ∀ r, r <= n + 1 -> r <= cn (C_ L i r) n := by
   intro r
   induction r with
   | zero => intro _; omega
   | succ r ih => intro hr; have := ih (by omega); have := hgrow r (by omega); omega
  have h1 := hge (n + 1) (Nat.le_refl _)
  have h2 := Aze (C_ L i (n + 1)) n
  omega
 obtain ⟨r, hr, hs⟩ := hst
 obtain ⟨s, h⟩ := h
 have key : ∀ s k, C_ L i s k -> C_ L i r k := by
  intro s k h
  induction h with
  | refl => exact C_.refl.le (by omega)
  | stay _ ih => exact ih
  | step h0 t ih => exact hs _ (hL _ _ t).2 (ih.step t)
 exact (key s j h).le hr
def Cv (b : Aa) (p : Ab) : Dg := b.Ag.zip p.Ah
theorem yP {b : Aa} (h : Ay b) (p : Ab) : Ae2 (Cv b p) b.An.toNat := by
 rintro i j ⟨z, hz, hk, _, he⟩
 have := h.br z.1 (List.of_mem_zip hz).1
 unfold R5 at this
 omega
theorem A3m {s : List Int} {i : Nat} (h : i < s.length) : s[i]? = some (s.getD i 0) := by
 rw [List.getElem?_eq_getElem h]; simp [List.getD, List.getElem?_eq_getElem h]
theorem Ts {s : List Int} {z : Ak × Bool} {i : Nat} (hi : i < s.length) : (Eo s z).getD i 0 = if (z.1.Kind = 1 /\ z.2 = true) /\ (i = z.1.A.toNat \/ i = z.1.B.toNat) then min (s.getD z.1.A.toNat 0) (s.getD z.1.B.toNat 0) else s.getD i 0 := by
 unfold Eo
 by_cases hk : z.1.Kind = 1 /\ z.2 = true
 ·rw [if_pos hk]
  by_cases hB : i = z.1.B.toNat
  ·rw [if_pos ⟨hk, .inr hB⟩]
   simp [List.getD, ← hB, hi]
  ·by_cases hA : i = z.1.A.toNat
   ·rw [if_pos ⟨hk, .inl hA⟩]
    have h1 : ¬ z.1.B.toNat = i := λ e => hB e.symm
    simp only [List.getD, List.getElem?_set_ne h1]
    rw [← hA, List.getElem?_set_self hi]; rfl
   ·rw [if_neg (λ e => e.2.elim hA hB)]
    have h1 : ¬ z.1.B.toNat = i := λ e => hB e.symm
    have h2 : ¬ z.1.A.toNat = i := λ e => hA e.symm
    simp only [List.getD, List.getElem?_set_ne h1, List.getElem?_set_ne h2]
 ·rw [if_neg hk, if_neg (λ e => hk e.1)]
def Lab (L : Dg) (s : List Int) : Prop := ∀ i, i < s.length -> Gi L (s.getD i 0).toNat i
theorem Atv {L : Dg} {s : List Int} (h : Lab L s) {z : Ak × Bool} (hz : z ∈ L) (hr : z.1.Kind = 1 -> z.1.A.toNat < s.length /\ z.1.B.toNat < s.length) : Lab L (Eo s z) := by
 intro i hi
 rw [D8] at hi
 rw [Ts hi]
 split
 ·rename_i hc
  obtain ⟨⟨hk, hv⟩, hab⟩ := hc
  obtain ⟨ha, hb⟩ := hr hk
  have tAB : Tie L z.1.A.toNat z.1.B.toNat := ⟨z, hz, hk, hv, .inl ⟨rfl, rfl⟩⟩
  have c1 := h _ ha
  have c2 := h _ hb
  rcases Int.le_total (s.getD z.1.A.toNat 0) (s.getD z.1.B.toNat 0) with e | e
  ·rw [Int.min_eq_left e]
   rcases hab with rfl | rfl
   ·exact c1
   ·exact c1.tie tAB
  ·rw [Int.min_eq_right e]
   rcases hab with rfl | rfl
   ·exact c2.tie tAB.symm
   ·exact c2
 ·exact h i hi
theorem Q2 {L : Dg} {n : Nat} : ∀ (l : Dg) (s : List Int), s.length = n -> (∀ z, z ∈ l -> z ∈ L /\ (z.1.Kind = 1 -> z.1.A.toNat < n /\ z.1.B.toNat < n)) -> Lab L s -> Lab L (C7 l s)
 | [], _, _, _, h => h
 | z :: l, s, hs, hz, h => Q2 l (Eo s z) (by rw [D8]; exact hs) (λ y hy => hz y (List.mem_cons_of_mem _ hy)) (Atv h (hz z List.mem_cons_self).1 (by rw [hs]; exact (hz z List.mem_cons_self).2))
theorem Tt {s : List Int} (z : Ak × Bool) {i : Nat} (hi : i < s.length) : (Eo s z).getD i 0 <= s.getD i 0 := by
 rw [Ts hi]
 split
 ·rename_i hc
  rcases hc.2 with rfl | rfl
  ·exact Int.min_le_left _ _
  ·exact Int.min_le_right _ _
 ·exact Int.le_refl _
theorem Q3 : ∀ (l : Dg) (s : List Int) {i : Nat}, i < s.length -> (C7 l s).getD i 0 <= s.getD i 0
 | [], _, _, _ => Int.le_refl _
 | z :: l, s, i, hi => Int.le_trans (Q3 l (Eo s z) (by rw [D8]; exact hi)) (Tt z hi)
theorem qR : ∀ (l : Dg) (s : List Int) {z : Ak × Bool}, z ∈ l -> z.1.Kind = 1 -> z.2 = true -> z.1.A.toNat < s.length -> z.1.B.toNat < s.length -> ∀ i, i = z.1.A.toNat \/ i = z.1.B.toNat -> (C7 l s).getD i 0 <= min (s.getD z.1.A.toNat 0) (s.getD z.1.B.toNat 0)
 | [], _, _, h, _, _, _, _, _, _ => by cases h
 | y :: l, s, z, hz, hk, hv, ha, hb, i, hi => by
  show (C7 l (Eo s y)).getD i 0 <= _
  have hil : i < s.length := by rcases hi with rfl | rfl <;> assumption
  by_cases e : z = y
  ·subst e
   refine Int.le_trans (Q3 l _ (by rw [D8]; exact hil)) ?_
   rw [Ts hil, if_pos ⟨⟨hk, hv⟩, hi⟩]
   exact Int.le_refl _
  ·have hz' : z ∈ l := by
    rcases List.mem_cons.1 hz with h | h
    ·exact absurd h e
    ·exact h
   refine Int.le_trans (qR l (Eo s y) hz' hk hv (by rw [D8]; exact ha) (by rw [D8]; exact hb) i hi) ?_
   have h1 := Tt y ha
   have h2 := Tt y hb
   omega
theorem Ki {n i : Nat} (h : i < n) : (Cm n).getD i 0 = (i : Int) := by
 simp [Cm, List.getD, List.getElem?_range h]
theorem Apv {L : Dg} {n : Nat} (hL : Ae2 L n) : ∀ r i j, i < n -> j < n -> C_ L j r i -> ((List.range r).foldl (λ s _ => C7 L s) (Cm n)).getD i 0 <= (j : Int) := by
 intro r
 have hlen : ∀ r, ((List.range r).foldl (λ s _ => C7 L s) (Cm n)).length = n := by
  intro r
  induction r with
  | zero => simp [Cm]
  | succ r ih => rw [List.range_succ, List.foldl_append]; simp only [List.foldl_cons, List.foldl_nil, Fe]; exact ih
 induction r with
 | zero =>
  intro i j hi hj h
  cases h
  show (Cm n).getD i 0 <= _
  rw [Ki hi]
  exact Int.le_refl _
 | succ r ih =>
  intro i j hi hj h
  have hrl := hlen r
  rw [List.range_succ, List.foldl_append]
  simp only [List.foldl_cons, List.foldl_nil]
  generalize (List.range r).foldl (λ s _ => C7 L s) (Cm n) = s at *
  cases h with
  | stay h => exact Int.le_trans (Q3 L s (by omega)) (ih i j hi hj h)
  | step h t =>
   rename_i k
   have hk := hL _ _ t
   have h1 := ih k j hk.1 hj h
   obtain ⟨z, hz, hz1, hz2, he⟩ := t
   have hA : z.1.A.toNat < s.length := by omega
   have hB : z.1.B.toNat < s.length := by omega
   have h2 := qR L s hz hz1 hz2 hA hB i (by omega)
   rcases he with ⟨e1, e2⟩ | ⟨e1, e2⟩
   ·rw [e1] at h2; omega
   ·rw [e2] at h2; omega
theorem qQ {b : Aa} (h : Ay b) (p : Ab) {i j : Nat} (hi : i < b.An.toNat) (hj : j < b.An.toNat) : (Bd b p).getD i 0 = (Bd b p).getD j 0 ↔ Gi (Cv b p) i j := by
 have hL := yP h p
 have hlen := Ia b p
 have hlab : Lab (Cv b p) (Bd b p) := by
  have hz : ∀ z, z ∈ Cv b p -> z ∈ Cv b p /\ (z.1.Kind = 1 -> z.1.A.toNat < b.An.toNat /\ z.1.B.toNat < b.An.toNat) := by
   intro z hz
   refine ⟨hz, λ hk => ?_⟩
   have := h.br z.1 (List.of_mem_zip hz).1
   unfold R5 at this
   omega
  have key : ∀ (xs : List Nat) (s : List Int), s.length = b.An.toNat -> Lab (Cv b p) s -> Lab (Cv b p) (xs.foldl (λ s _ => C7 (b.Ag.zip p.Ah) s) s) := by
   intro xs
   induction xs with
   | nil => intro s _ h; exact h
   | cons x xs ih => intro s hl h; exact ih _ (by rw [Fe]; exact hl) (Q2 _ s hl hz h)
  refine key _ _ (by simp [Cm]) ?_
  intro k hk
  have hk' : k < b.An.toNat := by simpa [Cm] using hk
  rw [Ki hk']
  exact .refl _ k
 have hlow : ∀ i j, i < b.An.toNat -> j < b.An.toNat -> Gi (Cv b p) j i -> (Bd b p).getD i 0 <= (j : Int) := λ i j hi hj hc => Apv hL _ i j hi hj (uE hL hj hc)
 have hlo := Tu h p
 have hrange : ∀ i, i < b.An.toNat -> 0 <= (Bd b p).getD i 0 /\ ((Bd b p).getD i 0).toNat < b.An.toNat := by
  intro i hi
  have := hlo i _ (A3m (by omega))
  omega
 constructor
 ·intro e
  have c1 := hlab i (by omega)
  have c2 := hlab j (by omega)
  rw [e] at c1
  exact c1.symm.trans c2
 ·intro hc
  have r1 := hrange i hi
  have r2 := hrange j hj
  have c1 := hlab i (by omega)
  have c2 := hlab j (by omega)
  have l1 := hlow j _ hj r1.2 (c1.trans hc)
  have l2 := hlow i _ hi r2.2 (c2.trans hc.symm)
  omega
def Fs (s : List Bool) (z : Ak × Bool) : List Bool :=
 if (z.1.Kind = 1 /\ z.2 = true) /\ (s.getD z.1.A.toNat false || s.getD z.1.B.toNat false) = true then (s.set z.1.A.toNat true).set z.1.B.toNat true else s
theorem Ey (s : List Bool) (z : Ak × Bool) : (Fs s z).length = s.length := by unfold Fs; split <;> simp
def Gj (L : Dg) (s : List Bool) : List Bool := L.foldl Fs s
theorem K7 : ∀ (l : Dg) (s : List Bool), (Gj l s).length = s.length
 | [], _ => rfl
 | z :: l, s => by show (Gj l (Fs s z)).length = _; rw [K7 l, Ey]
theorem Awq {s : List Bool} {m i : Nat} (hi : i < s.length) : (s.set m true).getD i false = (decide (m = i) || s.getD i false) := by
 by_cases e : m = i
 ·subst e; simp [List.getD, hi]
 ·simp [List.getD, List.getElem?_set_ne e, e]
theorem Kg {s : List Bool} {z : Ak × Bool} {i : Nat} (hi : i < s.length) : (Fs s z).getD i false = true ↔ s.getD i false = true \/ (((z.1.Kind = 1 /\ z.2 = true) /\ (s.getD z.1.A.toNat false || s.getD z.1.B.toNat false) = true) /\ (i = z.1.A.toNat \/ i = z.1.B.toNat)) := by
 unfold Fs
 split
 ·rename_i hc
  rw [Awq (by simpa using hi), Awq hi, Bool.or_eq_true, Bool.or_eq_true, decide_eq_true_iff, decide_eq_true_iff]
  constructor
  ·rintro (e | e | e)
   ·exact .inr ⟨hc, .inr e.symm⟩
   ·exact .inr ⟨hc, .inl e.symm⟩
   ·exact .inl e
  ·rintro (e | ⟨_, e | e⟩)
   ·exact .inr (.inr e)
   ·exact .inr (.inl e.symm)
   ·exact .inl e.symm
 ·rename_i hc
  exact ⟨.inl, λ e => e.elim id λ e => absurd e.1 hc⟩
def Got (L : Dg) (n : Nat) (s : List Bool) : Prop := ∀ i, i < s.length -> s.getD i false = true -> Gi L n i
theorem As7 {L : Dg} {n : Nat} {s : List Bool} (h : Got L n s) {z : Ak × Bool} (hz : z ∈ L) (hr : z.1.Kind = 1 -> z.1.A.toNat < s.length /\ z.1.B.toNat < s.length) : Got L n (Fs s z) := by
 intro i hi e
 rw [Ey] at hi
 rcases (Kg hi).1 e with e | ⟨⟨⟨hk, hv⟩, ho⟩, hab⟩
 ·exact h i hi e
 ·obtain ⟨ha, hb⟩ := hr hk
  have t : Tie L z.1.A.toNat z.1.B.toNat := ⟨z, hz, hk, hv, .inl ⟨rfl, rfl⟩⟩
  simp only [Bool.or_eq_true] at ho
  rcases ho with ho | ho
  ·have c := h _ ha ho
   rcases hab with rfl | rfl
   ·exact c
   ·exact c.tie t
  ·have c := h _ hb ho
   rcases hab with rfl | rfl
   ·exact c.tie t.symm
   ·exact c
theorem jW {L : Dg} {n m : Nat} : ∀ (l : Dg) (s : List Bool), s.length = m -> (∀ z, z ∈ l -> z ∈ L /\ (z.1.Kind = 1 -> z.1.A.toNat < m /\ z.1.B.toNat < m)) -> Got L n s -> Got L n (Gj l s)
 | [], _, _, _, h => h
 | z :: l, s, hs, hz, h => jW l (Fs s z) (by rw [Ey]; exact hs) (λ y hy => hz y (List.mem_cons_of_mem _ hy)) (As7 h (hz z List.mem_cons_self).1 (by rw [hs]; exact (hz z List.mem_cons_self).2))
theorem Qm : ∀ (l : Dg) (s : List Bool) {i : Nat}, i < s.length -> s.getD i false = true -> (Gj l s).getD i false = true
 | [], _, _, _, h => h
 | z :: l, s, _, hi, h => Qm l (Fs s z) (by rw [Ey]; exact hi) ((Kg hi).2 (.inl h))
theorem jV : ∀ (l : Dg) (s : List Bool) {z : Ak × Bool}, z ∈ l -> z.1.Kind = 1 -> z.2 = true -> z.1.A.toNat < s.length -> z.1.B.toNat < s.length -> (s.getD z.1.A.toNat false || s.getD z.1.B.toNat false) = true -> ∀ i, i = z.1.A.toNat \/ i = z.1.B.toNat -> (Gj l s).getD i false = true
 | [], _, _, h, _, _, _, _, _, _, _ => by cases h
 | y :: l, s, z, hz, hk, hv, ha, hb, ho, i, hi => by
  show (Gj l (Fs s y)).getD i false = true
  have hil : i < s.length := by rcases hi with rfl | rfl <;> assumption
  by_cases e : z = y
  ·subst e
   exact Qm l _ (by rw [Ey]; exact hil) ((Kg hil).2 (.inr ⟨⟨⟨hk, hv⟩, ho⟩, hi⟩))
  ·have hz' : z ∈ l := by
    rcases List.mem_cons.1 hz with h | h
    ·exact absurd h e
    ·exact h
   refine jV l (Fs s y) hz' hk hv (by rw [Ey]; exact ha) (by rw [Ey]; exact hb) ?_ i hi
   simp only [Bool.or_eq_true] at ho ⊢
   exact ho.imp (λ e => (Kg ha).2 (.inl e)) (λ e => (Kg hb).2 (.inl e))
def Kh (L : Dg) (r : Nat) (s : List Bool) : List Bool := (List.range r).foldl (λ s _ => Gj L s) s
theorem J7 (L : Dg) (r : Nat) (s : List Bool) : Kh L (r + 1) s = Gj L (Kh L r s) := by
 unfold Kh; rw [List.range_succ, List.foldl_append]; rfl
theorem Hg (L : Dg) (s : List Bool) : ∀ r, (Kh L r s).length = s.length
 | 0 => rfl
 | r + 1 => by rw [J7, K7, Hg L s r]
theorem Ao3 {L : Dg} {n m : Nat} (hL : Ae2 L m) {s : List Bool} (hs : s.length = m) (hn : s.getD n false = true) : ∀ r i, i < m -> C_ L n r i -> (Kh L r s).getD i false = true := by
 intro r
 induction r with
 | zero => intro i _ h; cases h; exact hn
 | succ r ih =>
  intro i hi h
  rw [J7]
  have hl := Hg L s r
  cases h with
  | stay h => exact Qm L _ (by omega) (ih i hi h)
  | step h t =>
   rename_i k
   have hk := hL _ _ t
   have h1 := ih k hk.1 h
   obtain ⟨z, hz, hz1, hz2, he⟩ := t
   refine jV L _ hz hz1 hz2 (by omega) (by omega) ?_ i (by omega)
   rcases he with ⟨e1, _⟩ | ⟨_, e2⟩
   ·rw [e1, h1]; rfl
   ·rw [e2, h1]; simp
def I2 (b : Aa) (p : Ab) (n : Nat) : List Int := ((List.range b.An.toNat).filter λ i => (Bd b p).getD i 0 == (Bd b p).getD n 0).map λ (i : Nat) => (i : Int)
theorem Aws {b : Aa} (h : Ay b) {p : Ab} (hp : Aw b p) {n : Nat} (hn : n < b.An.toNat) : Ak5 b p (n : Int) = some (I2 b p n) := by
 have hbu := h.buses
 have hbl := h.brl
 have hncl := hp.ncl
 have hL := yP h p
 refine Ok.eq ?_
 unfold Ak5
 refine (Ok.mkI (by omega) (by omega)).bind λ y hy => ?_
 have hyl : y.length = b.An.toNat := by rw [hy]; simp
 refine (Ok.getB (by omega) (by omega)).bind λ _ _ => (Ok.setI (by omega) (by omega)).bind λ z hz => ?_
 rw [Int.toNat_natCast] at hz
 have hzl : z.length = b.An.toNat := by rw [hz]; simpa using hyl
 have hzn : z.getD n false = true := by rw [hz]; simp [List.getD, hyl, hn]
 have hzg : Got (Cv b p) n z := by
  intro i hi e
  have hiy : i < y.length := by omega
  rw [hz, Awq hiy] at e
  simp only [Bool.or_eq_true, decide_eq_true_eq] at e
  rcases e with e | e
  ·subst e; exact .refl _ _
  ·rw [hy] at e; simp [List.getD, show i < b.An.toNat by omega] at e
 clear hz
 refine Ok.andThen (A := λ s => s = Kh (Cv b p) b.An.toNat z) (B := λ (_ : Unit) => False) ?_ (λ s hs => ?_) (λ _ h => h.elim)
 ·refine Ok.foldI0 (I := λ j s => s = Kh (Cv b p) j z) rfl (λ j x s hx hs => ?_) λ s hs => by rw [hs, hzl]
  unfold Xl
  have hsl : s.length = b.An.toNat := by rw [hs, Hg, hzl]
  refine (Ok.foldI0 (I := λ k r => r = Gj ((Cv b p).take k) s) (A := λ r => r = Gj (Cv b p) s) (B := λ (_ : Unit) => False) rfl (λ k u r hu hr => ?_) λ r hr => ?_).inner (λ r hr => Ok.next (by rw [hr, hs, J7])) (λ _ h => h.elim)
  ·have hk := (List.getElem?_eq_some_iff.1 hu).1
   have hcnt : cnt 0 k = (k : Int) := Cq (by omega)
   have hrl : r.length = b.An.toNat := by rw [hr, K7, hsl]
   obtain ⟨⟨a0, a1⟩, hkind⟩ := h.br u (List.mem_of_getElem? hu)
   obtain ⟨v, hv⟩ : ∃ v, p.Ah[k]? = some v := ⟨_, List.getElem?_eq_getElem (by omega)⟩
   have hzk : (Cv b p)[k]? = some (u, v) := by unfold Cv; rw [List.getElem?_zip_eq_some]; exact ⟨hu, hv⟩
   have hnext : Gj ((Cv b p).take (k + 1)) s = Fs r (u, v) := by
    rw [Bk hzk, Gj, List.foldl_append, hr]; rfl
   rw [hnext]
   have hB : u.Kind = 1 -> 0 <= u.B /\ u.B < b.An := λ e => by omega
   unfold Xk
   rw [hcnt, Bj hv]
   by_cases k1 : u.Kind = 1
   ·have h2 := hB k1
    obtain ⟨ga, hga⟩ : ∃ ga, r[u.A.toNat]? = some ga := ⟨_, List.getElem?_eq_getElem (by omega)⟩
    obtain ⟨gb, hgb⟩ : ∃ gb, r[u.B.toNat]? = some gb := ⟨_, List.getElem?_eq_getElem (by omega)⟩
    have hda : r.getD u.A.toNat false = ga := by simp [List.getD, hga]
    have hdb : r.getD u.B.toNat false = gb := by simp [List.getD, hgb]
    have ea : getI r u.A = some ga := by have := Bj hga; rwa [Int.toNat_of_nonneg a0] at this
    have eb : getI r u.B = some gb := by have := Bj hgb; rwa [Int.toNat_of_nonneg h2.1] at this
    rw [beq_iff_eq.2 k1]
    refine Ok.bind (P := λ w => w = v) (Ok.guard (λ _ => Ok.pure rfl) λ hn => (hn ⟨rfl, trivial⟩).elim) λ w hw => ?_
    subst hw
    cases w with
    | false =>
     refine Ok.bind (P := λ _ => True) (Ok.gT (λ _ => Ok.getB a0 (by omega)) λ _ => trivial) λ _ _ => ?_
     refine Ok.bind (P := λ _ => True) (Ok.gT (λ _ => Ok.getB h2.1 (by omega)) λ _ => trivial) λ _ _ => ?_
     refine Ok.cond (λ hq => by simp [Ub] at hq) (λ _ => Ok.next ?_)
     unfold Fs
     rw [if_neg (by simp)]
    | true =>
     rw [ea, eb]
     refine Ok.bind (P := λ w => w = ga) (Ok.guard (λ _ => Ok.pure rfl) λ hn => (hn ⟨rfl, trivial⟩).elim) λ w hw => ?_
     subst hw
     refine Ok.bind (P := λ x => (w || x) = (w || gb)) (Ok.guard (λ _ => Ok.pure rfl) λ hn => ?_) λ x hx => ?_
     ·cases w with
      | true => rfl
      | false => exact (hn ⟨rfl, rfl, trivial⟩).elim
     have hc8 : Ub u true w x = (w || gb) := by
      unfold Ub
      rw [hx, beq_iff_eq.2 k1]; rfl
     rw [hc8]
     refine Ok.cond (λ hq => ?_) (λ hq => Ok.next ?_)
     ·refine Ok.bind (P := λ _ => True) (Ok.triv rfl) λ _ _ => (Ok.setI a0 (by omega)).bind λ r1 e1 => ?_
      refine (Ok.getB h2.1 (by rw [e1]; simp; omega)).bind λ _ _ => (Ok.setI h2.1 (by rw [e1]; simp; omega)).bind λ r2 e2 => Ok.next ?_
      rw [e2, e1]
      unfold Fs
      rw [if_pos ⟨⟨k1, rfl⟩, by rw [hda, hdb]; exact hq⟩]
     ·unfold Fs
      rw [if_neg (λ e => by have := e.2; rw [hda, hdb, hq] at this; cases this)]
   ·have k0 : (u.Kind == 1) = false := beq_eq_false_iff_ne.2 k1
    rw [k0]
    refine Ok.bind (P := λ _ => True) (Ok.guard (λ hg => absurd hg.1 (by simp)) λ _ => trivial) λ y7 _ => ?_
    refine Ok.bind (P := λ _ => True) (Ok.guard (λ hg => absurd hg.1 (by simp)) λ _ => trivial) λ y9 _ => ?_
    refine Ok.bind (P := λ _ => True) (Ok.guard (λ hg => absurd hg.1 (by simp)) λ _ => trivial) λ y11 _ => ?_
    refine Ok.cond (λ hq => by simp [Ub, k0] at hq) (λ _ => Ok.next ?_)
    unfold Fs
    rw [if_neg (λ e => k1 e.1.1)]
  ·have : b.Ag.length = (Cv b p).length := by unfold Cv; rw [List.length_zip]; omega
   rw [hr, this, List.take_length]
 ·have hsl : s.length = b.An.toNat := by rw [hs, Hg, hzl]
  have hval : ∀ i, i < b.An.toNat -> s.getD i false = ((Bd b p).getD i 0 == (Bd b p).getD n 0) := by
   intro i hi
   rw [Bool.eq_iff_iff, beq_iff_eq, qQ h p hi hn]
   have hg : ∀ r, Got (Cv b p) n (Kh (Cv b p) r z) := by
    intro r
    induction r with
    | zero => exact hzg
    | succ r ih =>
     rw [J7]
     refine jW (m := b.An.toNat) _ _ (by rw [Hg, hzl]) (λ y hy => ⟨hy, λ hk => ?_⟩) ih
     have := h.br y.1 (List.of_mem_zip hy).1
     unfold R5 at this
     omega
   constructor
   ·intro e
    rw [hs] at e
    exact (hg _ i (by rw [Hg, hzl]; exact hi) e).symm
   ·intro c
    rw [hs]
    exact Ao3 hL hzl hzn _ i hi (uE hL hn c.symm)
  refine Ok.andThen (A := λ y => y = I2 b p n) (B := λ (_ : Unit) => False) ?_ (λ y hy => Ok.pure hy) (λ _ h => h.elim)
  refine Ok.foldI0 (I := λ j y => y = ((List.range j).filter λ i => (Bd b p).getD i 0 == (Bd b p).getD n 0).map λ (i : Nat) => (i : Int)) rfl (λ j x y hx hy => ?_) λ y hy => ?_
  ·have hj := (List.getElem?_eq_some_iff.1 hx).1
   have hcnt : cnt 0 j = (j : Int) := Cq (by omega)
   have hv := hval j (by omega)
   have hxd : s.getD j false = x := by simp [List.getD, hx]
   rw [hxd] at hv
   have hyl2 : y.length <= j := by rw [hy]; exact De _ j
   rw [Fh, ← hy]
   unfold Xj
   refine Ok.cond (λ hq => ?_) (λ hq => Ok.next ?_)
   ·refine (Ok.appI (by simp; omega)).bind λ w hw => Ok.next ?_
    rw [hw, hcnt, if_pos (by rw [← hv]; exact hq)]
   ·rw [if_neg (by rw [← hv, hq]; simp), List.append_nil]
  ·rw [hy, hsl]; rfl
def ofZ (b : Aa) (k i : Int) : List (Ak × Nat) := b.Ag.zipIdx.filter λ z => z.1.Kind == k && z.1.B == i
theorem Apc {b : Aa} {k : Int} (hk : k ≠ 1) (i : Int) : (ofL b λ x => Hy k i x) = (ofZ b k i).map λ z => (z.2 : Int) := by
 unfold ofL ofZ
 congr 1
 exact List.filter_congr λ z _ => Ao7 k hk i z.1
theorem Aaa {b : Aa} {k i : Int} {z : Ak × Nat} (h : z ∈ ofZ b k i) : b.Ag[z.2]? = some z.1 := by
 have := (List.mem_filter.1 h).1
 rwa [List.mem_zipIdx_iff_getElem?] at this
theorem Afj (q : Ak -> Bool) (C : List Bool) : ∀ (l : List Ak) (c : List Bool) (k : Nat), C.drop k = c -> l.length = c.length ->
  (((l.zipIdx k).filter λ z => q z.1).find? λ z => C.getD z.2 false).map (·.1) = ((l.zip c).find? λ z => q z.1 && z.2).map (·.1)
 | [], _, _, _, _ => by simp
 | x :: l, [], _, _, h => by simp at h
 | x :: l, v :: c, k, hd, h => by
  have hv : C[k]? = some v := by
   have := congrArg (·[0]?) hd
   simpa [List.getElem?_drop] using this
  have hd' : C.drop (k + 1) = c := by rw [← List.drop_drop, hd]; rfl
  have ih := Afj q C l c (k + 1) hd' (by simpa using h)
  have hg : C.getD k false = v := by simp [List.getD, hv]
  simp only [List.zipIdx_cons, List.filter_cons, List.zip_cons_cons, List.find?_cons]
  cases hq : q x with
  | false => simpa only [Bool.false_and, Bool.false_eq_true, if_false] using ih
  | true =>
   simp only [if_true, List.find?_cons, hg, Bool.true_and]
   cases v with
   | false => exact ih
   | true => rfl
theorem Ath {b : Aa} {p : Ab} (hc : p.Ah.length = b.Ag.length) (k i : Int) : El b p k i = ((ofZ b k i).find? λ z => p.Ah.getD z.2 false).map (·.1.A) := by
 have := Afj (λ x => x.Kind == k && x.B == i) p.Ah b.Ag p.Ah 0 rfl (by omega)
 unfold El ofZ
 have h2 := congrArg (Option.map (·.A)) this
 simp only [Option.map_map] at h2
 exact h2.symm
theorem uF {b : Aa} {p : Ab} (hc : p.Ah.length = b.Ag.length) {k i : Int} {z : Ak × Nat} (h : z ∈ ofZ b k i) : p.Ah[z.2]? = some (p.Ah.getD z.2 false) := by
 have := (List.getElem?_eq_some_iff.1 (Aaa h)).1
 rw [List.getElem?_eq_getElem (by omega)]
 simp [List.getD, List.getElem?_eq_getElem (show z.2 < p.Ah.length by omega)]
theorem Aa0 {b : Aa} (h : Ay b) {p : Ab} (hp : Aw b p) (i : Int) : F27 b p i = some (F3 (F5 b p i)) := by
 have hn := hp.nso
 have hc := hp.ncl
 refine Ok.eq ?_
 unfold F27
 rw [Ih h hp]
 simp only [Option.bind_some]
 by_cases hi : 0 <= i /\ i < b.Ac.length
 ·obtain ⟨x, hx⟩ : ∃ x, p.Ac[i.toNat]? = some x := ⟨_, List.getElem?_eq_getElem (by omega)⟩
  have hg : getI p.Ac i = some x := by have := Bj hx; rwa [Int.toNat_of_nonneg hi.1] at this
  have hd : p.Ac.getD i.toNat default = x := by simp [List.getD, hx]
  have hcond : ((((0 : Int) != 0) || (decide (i < 0))) || (decide (i >= (b.Ac.length : Int)))) = false := by
   rw [Bool.eq_false_iff]; intro e; simp at e; omega
  rw [hcond, hg]
  refine Ok.bind (P := λ y => y = x) (Ok.guard (λ _ => Ok.pure rfl) λ hn => (hn ⟨rfl, trivial⟩).elim) λ y hy => ?_
  subst hy
  refine Ok.cond (λ hq => Ok.pure ?_) (λ hq => ?_)
  ·simp only [Ae1, hcond, Bool.false_or, bne_iff_ne, ne_eq] at hq
   unfold F5
   rw [if_neg (λ e => by rw [hd] at e; exact hq e.2.2)]; rfl
  ·simp only [Ae1, hcond, Bool.false_or, bne_eq_false_iff_eq] at hq
   have hcon : F5 b p i = El b p 2 i := by
    unfold F5
    rw [if_pos ⟨hi.1, by omega, by rw [hd]; exact hq⟩]
   rw [Aab h, Apc (by decide), hcon, Ath hc]
   simp only [Option.bind_some]
   obtain ⟨n, rfl⟩ : ∃ n : Nat, i = (n : Int) := ⟨i.toNat, by omega⟩
   have hlen := V6 (b := b) (k := 2) (by decide) n
   rw [Apc (by decide), h.one n (by omega), List.length_map] at hlen
   obtain ⟨z, hz⟩ := List.length_eq_one_iff.1 hlen
   have hzm : z ∈ ofZ b 2 (n : Int) := by rw [hz]; exact List.mem_cons_self
   have hcz := uF hc hzm
   have hbz := Aaa hzm
   rw [hz]
   show Ok ((getI [(z.2 : Int)] 0).bind _) _
   rw [show getI [(z.2 : Int)] 0 = some (z.2 : Int) from rfl]
   simp only [Option.bind_some, Bj hcz, List.find?_cons, List.find?_nil]
   cases hv : p.Ah.getD z.2 false with
   | false => exact Ok.pure rfl
   | true =>
    simp only [Bool.not_true, cond_false, Bj hbz, Option.bind_some]
    exact Ok.pure rfl
 ·refine Ok.bind (P := λ _ => True) (Ok.guard (λ hg => ?_) λ _ => trivial) λ y _ => ?_
  ·have := hg.1
   simp at this; omega
  refine Ok.cond (λ hq => Ok.pure ?_) (λ hq => ?_)
  ·unfold F5
   rw [if_neg (λ e => hi (by omega))]; rfl
  ·simp [Ae1] at hq; omega
theorem Axs {b : Aa} (h : Ay b) {p : Ab} (hp : Aw b p) {i : Int} (h0 : 0 <= i) (h1 : i < b.Ae.length) : F48 b p i = some (F3 (El b p 3 i)) := by
 have hc := hp.ncl
 refine Ok.eq ?_
 unfold F48
 rw [Ih h hp]
 simp only [Option.bind_some]
 refine Ok.cond (λ hq => ?_) (λ _ => ?_)
 ·simp [Azr] at hq; omega
 rw [Aab h, Apc (by decide), Ath hc]
 simp only [Option.bind_some]
 have key : ∀ (m : List (Ak × Nat)) (k : Nat), (∀ z, z ∈ m -> b.Ag[z.2]? = some z.1 /\ p.Ah[z.2]? = some (p.Ah.getD z.2 false)) ->
   foldI (Uq b p) (m.map λ z => (z.2 : Int)) k () = match m.find? λ z => p.Ah.getD z.2 false with
    | some z => some (.ret (z.1.A, true))
    | none => some (.next ()) := by
  intro m
  induction m with
  | nil => intro k _; rfl
  | cons z m ih =>
   intro k hm
   obtain ⟨e1, e2⟩ := hm z List.mem_cons_self
   simp only [List.map_cons, foldI, Uq, Bj e1, Bj e2, Option.bind_some, List.find?_cons]
   cases p.Ah.getD z.2 false with
   | true => rfl
   | false => exact ih (k + 1) λ y hy => hm y (List.mem_cons_of_mem _ hy)
 rw [key _ 0 λ z hz => ⟨Aaa hz, uF hc hz⟩]
 cases (ofZ b 3 i).find? λ z => p.Ah.getD z.2 false with
 | none => exact Ok.pure rfl
 | some z => exact Ok.pure rfl
theorem Att (l : List Int) (x : Int) : F55 l x = some (l.any (· == x)) := by
 unfold F55
 have : ∀ (l : List Int) (k : Nat), foldI (Uo x) l k () = bif l.any (· == x) then some (.ret true) else some (.next ()) := by
  intro l
  induction l with
  | nil => intro k; rfl
  | cons y l ih =>
   intro k
   simp only [foldI, Uo, List.any_cons]
   cases hy : (y == x) with
   | true => rfl
   | false => simp only [cond_false, Bool.false_or]; exact ih (k + 1)
 rw [this]
 cases l.any (· == x) <;> rfl
theorem Af9 {b : Aa} {p : Ab} {n : Nat} {a : Int} (h0 : 0 <= a) (h1 : a < b.An) : (I2 b p n).any (· == a) = ((Bd b p).getD a.toNat 0 == (Bd b p).getD n 0) := by
 rw [Bool.eq_iff_iff, List.any_eq_true]
 constructor
 ·rintro ⟨x, hx, e⟩
  rw [beq_iff_eq] at e; subst e
  obtain ⟨i, hi, rfl⟩ := List.mem_map.1 hx
  rw [Int.toNat_natCast]
  exact (List.mem_filter.1 hi).2
 ·intro e
  refine ⟨a, List.mem_map.2 ⟨a.toNat, List.mem_filter.2 ⟨List.mem_range.2 (by omega), e⟩, by omega⟩, by simp⟩
theorem Iv {b : Aa} (h : Ay b) (p : Ab) {n : Nat} (hn : n < b.An.toNat) : 0 <= (Bd b p).getD n 0 /\ ((Bd b p).getD n 0).toNat <= n /\ (((Bd b p).getD n 0).toNat : Int) = (Bd b p).getD n 0 := by
 have := Tu h p n _ (A3m (by rw [Ia]; exact hn))
 omega
theorem A0l {b : Aa} (h : Ay b) {p : Ab} (hp : Aw b p) {n : Nat} (hn : n < b.An.toNat) : F54 b p (n : Int) = some (isl b p ((Bd b p).getD n 0).toNat, true) := by
 have hso := h.sol
 have hco := h.col
 have hg := Iv h p hn
 refine Ok.eq ?_
 unfold F54
 rw [Ih h hp]
 simp only [Option.bind_some]
 refine Ok.cond (λ hc => ?_) (λ _ => ?_)
 ·simp [Azm] at hc; omega
 rw [Aws h hp hn]
 simp only [Option.bind_some]
 refine Ok.andThen (A := λ s => s.2 = Ff b p b.Ac.length ((Bd b p).getD n 0).toNat) (B := λ (_ : Unit) => False) ?_ (λ s hs => ?_) (λ _ h => h.elim)
 ·refine Ok.whileN (λ s => (0 <= s.1 /\ s.1 <= (b.Ac.length : Int)) /\ s.2 = Ff b p s.1.toNat ((Bd b p).getD n 0).toNat) (λ s => ((b.Ac.length : Int) - s.1).toNat) _ _ ?_ ?_ ?_
  ·exact ⟨by dsimp only; omega, rfl⟩
  ·dsimp only; omega
  ·rintro ⟨i, s⟩ ⟨⟨g1, g2⟩, g3⟩
   dsimp only at g1 g2 g3
   unfold vM Azl
   dsimp only
   have hsl : s.length <= i.toNat := by rw [g3]; exact De _ _
   refine Ok.cond (λ hq => ?_) (λ hq => Ok.brk ?_)
   ·simp only [decide_eq_true_eq] at hq
    have e1 : w64 (i + 1) = i + 1 := Bb (by omega)
    have e2 : (i + 1).toNat = i.toNat + 1 := by omega
    have e3 : ((i.toNat : Nat) : Int) = i := by omega
    rw [e1, Aa0 h hp]
    simp only [Option.bind_some, Att]
    have hnext : Ff b p (i.toNat + 1) ((Bd b p).getD n 0).toNat = s ++ if (Ft b p (F5 b p i) == some (((Bd b p).getD n 0).toNat : Int)) = true then [i] else [] := by
     unfold Ff at g3 ⊢
     rw [Fh, ← g3, e3]
    have hskip : (Ft b p (F5 b p i) == some (((Bd b p).getD n 0).toNat : Int)) = false -> Ok (some (.next (i + 1, s)) : Option (Ctl (Int × List Int) Unit)) (Gw (λ s' => ((0 <= s'.1 /\ s'.1 <= (b.Ac.length : Int)) /\ s'.2 = Ff b p s'.1.toNat ((Bd b p).getD n 0).toNat) /\ ((b.Ac.length : Int) - s'.1).toNat < ((b.Ac.length : Int) - i).toNat) (λ s => s.2 = Ff b p b.Ac.length ((Bd b p).getD n 0).toNat) (λ _ => False)) := by
     intro hf
     refine Ok.next ⟨⟨by dsimp only; omega, ?_⟩, by dsimp only; omega⟩
     dsimp only
     rw [e2, hnext, hf]; simp
    cases hco : F5 b p i with
    | none =>
     refine Ok.bind (P := λ _ => True) (Ok.guard (λ hg => absurd hg.1 (by simp [F3])) λ _ => trivial) λ y _ => ?_
     refine Ok.cond (λ hq => by simp [F3] at hq) (λ _ => hskip (by rw [hco]; rfl))
    | some a =>
     have ha := Aid h hco
     refine Ok.bind (P := λ y => y = (I2 b p n).any (· == a)) (Ok.guard (λ _ => Ok.pure rfl) λ hn => (hn ⟨rfl, trivial⟩).elim) λ y hy => ?_
     rw [Af9 ha.1 ha.2] at hy
     have hgr : (Ft b p (F5 b p i) == some (((Bd b p).getD n 0).toNat : Int)) = ((Bd b p).getD a.toNat 0 == (Bd b p).getD n 0) := by
      rw [hco, hg.2.2]; rfl
     refine Ok.cond (λ hq => ?_) (λ hq => ?_)
     ·simp only [F3, Bool.true_and] at hq
      refine (Ok.appI (by simp; omega)).bind λ w hw => Ok.next ⟨⟨by dsimp only; omega, ?_⟩, by dsimp only; omega⟩
      dsimp only
      rw [e2, hnext, hgr, ← hy, hq, hw]; rfl
     ·simp only [F3, Bool.true_and] at hq
      exact hskip (by rw [hgr, ← hy, hq])
   ·simp only [decide_eq_false_iff_not] at hq
    dsimp only
    rw [g3]
    have : i.toNat = b.Ac.length := by omega
    rw [this]
 ·refine Ok.andThen (A := λ s => s.2 = Gl b p b.Ae.length ((Bd b p).getD n 0).toNat) (B := λ (_ : Unit) => False) ?_ (λ t ht => Ok.pure ?_) (λ _ h => h.elim)
  ·refine Ok.whileN (λ s => (0 <= s.1 /\ s.1 <= (b.Ae.length : Int)) /\ s.2 = Gl b p s.1.toNat ((Bd b p).getD n 0).toNat) (λ s => ((b.Ae.length : Int) - s.1).toNat) _ _ ?_ ?_ ?_
   ·exact ⟨by dsimp only; omega, rfl⟩
   ·dsimp only; omega
   ·rintro ⟨i, s⟩ ⟨⟨g1, g2⟩, g3⟩
    dsimp only at g1 g2 g3
    unfold vL Azk
    dsimp only
    have hsl : s.length <= i.toNat := by rw [g3]; exact De _ _
    refine Ok.cond (λ hq => ?_) (λ hq => Ok.brk ?_)
    ·simp only [decide_eq_true_eq] at hq
     have e1 : w64 (i + 1) = i + 1 := Bb (by omega)
     have e2 : (i + 1).toNat = i.toNat + 1 := by omega
     have e3 : ((i.toNat : Nat) : Int) = i := by omega
     rw [e1, Axs h hp g1 hq]
     simp only [Option.bind_some, Att]
     have hnext : Gl b p (i.toNat + 1) ((Bd b p).getD n 0).toNat = s ++ if (Ft b p (El b p 3 i) == some (((Bd b p).getD n 0).toNat : Int)) = true then [i] else [] := by
      unfold Gl at g3 ⊢
      rw [Fh, ← g3, e3]
     have hskip : (Ft b p (El b p 3 i) == some (((Bd b p).getD n 0).toNat : Int)) = false -> Ok (some (.next (i + 1, s)) : Option (Ctl (Int × List Int) Unit)) (Gw (λ s' => ((0 <= s'.1 /\ s'.1 <= (b.Ae.length : Int)) /\ s'.2 = Gl b p s'.1.toNat ((Bd b p).getD n 0).toNat) /\ ((b.Ae.length : Int) - s'.1).toNat < ((b.Ae.length : Int) - i).toNat) (λ s => s.2 = Gl b p b.Ae.length ((Bd b p).getD n 0).toNat) (λ _ => False)) := by
      intro hf
      refine Ok.next ⟨⟨by dsimp only; omega, ?_⟩, by dsimp only; omega⟩
      dsimp only
      rw [e2, hnext, hf]; simp
     cases hco : El b p 3 i with
     | none =>
      refine Ok.bind (P := λ _ => True) (Ok.guard (λ hg => absurd hg.1 (by simp [F3])) λ _ => trivial) λ y _ => ?_
      refine Ok.cond (λ hq => by simp [F3] at hq) (λ _ => hskip (by rw [hco]; rfl))
     | some a =>
      have ha := Yn h hco
      refine Ok.bind (P := λ y => y = (I2 b p n).any (· == a)) (Ok.guard (λ _ => Ok.pure rfl) λ hn => (hn ⟨rfl, trivial⟩).elim) λ y hy => ?_
      rw [Af9 ha.1 ha.2] at hy
      have hgr : (Ft b p (El b p 3 i) == some (((Bd b p).getD n 0).toNat : Int)) = ((Bd b p).getD a.toNat 0 == (Bd b p).getD n 0) := by
       rw [hco, hg.2.2]; rfl
      refine Ok.cond (λ hq => ?_) (λ hq => ?_)
      ·simp only [F3, Bool.true_and] at hq
       refine (Ok.appI (by simp; omega)).bind λ w hw => Ok.next ⟨⟨by dsimp only; omega, ?_⟩, by dsimp only; omega⟩
       dsimp only
       rw [e2, hnext, hgr, ← hy, hq, hw]; rfl
      ·simp only [F3, Bool.true_and] at hq
       exact hskip (by rw [hgr, ← hy, hq])
    ·simp only [decide_eq_false_iff_not] at hq
     dsimp only
     rw [g3]
     have : i.toNat = b.Ae.length := by omega
     rw [this]
  ·rw [hs, ht]
   unfold isl Dz I2
   rw [hg.2.2]
def G_ (b : Aa) (p : Ab) (f : Nat) : Bool := (Bd b p).getD f 0 == (f : Int)
theorem Jw {b : Aa} (h : Ay b) (p : Ab) {n : Nat} (hn : n < b.An.toNat) : G_ b p ((Bd b p).getD n 0).toNat = true := by
 have hg := Iv h p hn
 unfold G_
 rw [beq_iff_eq, hg.2.2]
 have hm : ((Bd b p).getD n 0).toNat < b.An.toNat := by omega
 have hL := yP h p
 have hself : Gi (Cv b p) ((Bd b p).getD n 0).toNat n := by
  have hlab : ∀ (xs : List Nat) (s : List Int), s.length = b.An.toNat -> Lab (Cv b p) s -> Lab (Cv b p) (xs.foldl (λ s _ => C7 (b.Ag.zip p.Ah) s) s) := by
   intro xs
   induction xs with
   | nil => intro s _ h; exact h
   | cons x xs ih =>
    intro s hl h2
    refine ih _ (by rw [Fe]; exact hl) (Q2 _ s hl (λ z hz => ⟨hz, λ hk => ?_⟩) h2)
    have := h.br z.1 (List.of_mem_zip hz).1
    unfold R5 at this
    omega
  refine hlab (List.range b.An.toNat) (Cm b.An.toNat) (by simp [Cm]) ?_ n ?_
  ·intro k hk
   rw [Ki (by simpa [Cm] using hk)]
   exact .refl _ k
  ·have := Ia b p
   unfold Bd at this
   rw [this]; exact hn
 exact (qQ h p hm hn).2 hself
theorem Axq {b : Aa} (h : Ay b) (p : Ab) {f : Nat} (hf : f < b.An.toNat) : Il (isl b p f) = G_ b p f := by
 rw [Bool.eq_iff_iff]
 unfold Il isl Dz
 simp only [Bool.not_eq_true', beq_eq_false_iff_ne, ne_eq, List.length_map]
 constructor
 ·intro e
  have hne : (List.range b.An.toNat).filter (λ i => (Bd b p).getD i 0 == (f : Int)) ≠ [] := λ e2 => e (by rw [e2]; rfl)
  obtain ⟨i, hi⟩ := List.exists_mem_of_ne_nil _ hne
  obtain ⟨h1, h2⟩ := List.mem_filter.1 hi
  rw [beq_iff_eq] at h2
  have := Jw h p (List.mem_range.1 h1)
  rw [h2, Int.toNat_natCast] at this
  exact this
 ·intro e e2
  have hm : f ∈ (List.range b.An.toNat).filter (λ i => (Bd b p).getD i 0 == (f : Int)) := List.mem_filter.2 ⟨List.mem_range.2 hf, e⟩
  have := List.length_pos_iff.2 (List.ne_nil_of_mem hm)
  omega
def J9 (b : Aa) (p : Ab) (n : Nat) : List Nat := (List.range n).filter (G_ b p)
theorem H_ {b : Aa} (h : Ay b) (p : Ab) : Bq b p = (J9 b p b.An.toNat).map (isl b p) := by
 unfold Bq J9
 rw [List.filter_map]
 congr 1
 exact List.filter_congr λ f hf => Axq h p (List.mem_range.1 hf)
theorem Ar8 {b : Aa} (h : Ay b) (p : Ab) {n : Nat} (hn : n < b.An.toNat) : ∃ m : Nat, (I2 b p n)[0]? = some (m : Int) /\ (m = n ↔ G_ b p n = true) := by
 have hg := Iv h p hn
 have hm : ((Bd b p).getD n 0).toNat < b.An.toNat := by omega
 have hgg := Jw h p hn
 unfold G_ at hgg
 rw [beq_iff_eq, hg.2.2] at hgg
 have hfind : (List.range b.An.toNat).find? (λ i => (Bd b p).getD i 0 == (Bd b p).getD n 0) = some ((Bd b p).getD n 0).toNat := by
  rw [List.find?_range_eq_some]
  refine ⟨by rw [beq_iff_eq]; exact hgg, List.mem_range.2 hm, λ j hj => ?_⟩
  simp only [Bool.not_eq_true', beq_eq_false_iff_ne, ne_eq]
  intro e
  have := Iv h p (n := j) (by omega)
  omega
 refine ⟨((Bd b p).getD n 0).toNat, ?_, ?_⟩
 ·unfold I2
  rw [List.getElem?_map, ← List.head?_eq_getElem?, List.head?_filter, hfind]; rfl
 ·unfold G_
  rw [beq_iff_eq]; omega
theorem Ahe {b : Aa} (h : Ay b) {p : Ab} (hp : Aw b p) : F25 b p = some (Bq b p) := by
 have hbu := h.buses
 rw [H_ h]
 refine Ok.eq ?_
 unfold F25
 rw [Ih h hp]
 simp only [Option.bind_some]
 refine Ok.cond (λ hc => by simp at hc) (λ _ => ?_)
 refine Ok.andThen (A := λ s => s.2 = (J9 b p b.An.toNat).map (isl b p)) (B := λ (_ : Unit) => False) ?_ (λ s hs => Ok.pure hs) (λ _ h => h.elim)
 refine Ok.whileN (λ s => (0 <= s.1 /\ s.1 <= b.An) /\ s.2 = (J9 b p s.1.toNat).map (isl b p)) (λ s => (b.An - s.1).toNat) _ _ ?_ ?_ ?_
 ·exact ⟨by dsimp only; omega, rfl⟩
 ·dsimp only; omega
 ·rintro ⟨i, s⟩ ⟨⟨g1, g2⟩, g3⟩
  dsimp only at g1 g2 g3
  unfold vX
  dsimp only
  refine Ok.cond (λ hq => ?_) (λ hq => Ok.brk ?_)
  ·simp only [decide_eq_true_eq] at hq
   obtain ⟨n, rfl⟩ : ∃ n : Nat, i = (n : Int) := ⟨i.toNat, by omega⟩
   have hn : n < b.An.toNat := by omega
   have e1 : w64 ((n : Int) + 1) = (n : Int) + 1 := Bb (by omega)
   have e2 : ((n : Int) + 1).toNat = n + 1 := by omega
   have hg := Iv h p hn
   obtain ⟨m, hm, hmn⟩ := Ar8 h p hn
   have hbuses : (isl b p ((Bd b p).getD n 0).toNat).An = I2 b p n := by
    unfold isl Dz I2
    rw [hg.2.2]
   rw [Int.toNat_natCast] at g3
   have hsl : s.length <= n := by
    rw [g3, List.length_map]
    exact Nat.le_trans (List.length_filter_le _ _) (by simp)
   have hnext : J9 b p (n + 1) = J9 b p n ++ if G_ b p n = true then [n] else [] := by
    unfold J9
    rw [List.range_succ, List.filter_append]
    congr 1
    cases hq : G_ b p n <;> simp [hq]
   rw [e1, A0l h hp hn]
   simp only [Option.bind_some, hbuses]
   have hg0 : getI (I2 b p n) 0 = some (m : Int) := Bj (j := 0) hm
   rw [hg0]
   simp only [Option.bind_some]
   refine Ok.cond (λ hq => ?_) (λ hq => Ok.next ⟨⟨by dsimp only; omega, ?_⟩, by dsimp only; omega⟩)
   ·simp only [beq_iff_eq] at hq
    have hle := hmn.1 (by omega)
    refine (Ok.appI (by simp; omega)).bind λ w hw => Ok.next ⟨⟨by dsimp only; omega, ?_⟩, by dsimp only; omega⟩
    dsimp only
    have hgn : ((Bd b p).getD n 0).toNat = n := by
     unfold G_ at hle
     rw [beq_iff_eq] at hle; omega
    rw [e2, hnext, if_pos hle, hw, g3, List.map_append, hgn]; rfl
   ·simp only [beq_eq_false_iff_ne, ne_eq] at hq
    have hle : ¬ G_ b p n = true := λ e => hq (by rw [hmn.2 e])
    dsimp only
    rw [e2, hnext, if_neg hle, List.append_nil, g3]
  ·simp only [decide_eq_false_iff_not] at hq
   dsimp only
   have : i.toNat = b.An.toNat := by omega
   rw [g3, this]
theorem Alj {b : Aa} (h : Ay b) {p : Ab} (hp : Aw b p) : Ak2 b p = some (⟨p.Ah, Ea b p, p.Ar, p.Ao⟩, 0) := by
 have hn := hp.nso
 refine Ok.eq ?_
 unfold Ak2
 rw [Ih h hp]
 simp only [Option.bind_some]
 refine Ok.cond (λ hc => by simp at hc) (λ _ => ?_)
 refine Ok.bind (P := λ y => y = ⟨p.Ah, Ea b p, p.Ar, p.Ao⟩) ?_ λ y hy => Ok.pure (by rw [hy])
 unfold Arp
 rw [Aaz h hp, Ahe h hp]
 simp only [Option.bind_some]
 refine Ok.andThen (A := λ s => s = Ea b p) (B := λ (_ : Unit) => False) ?_ (λ s hs => Ok.pure (by rw [hs])) (λ _ h => h.elim)
 refine Ok.foldI0 (I := λ j s => s = ((Bq b p).take j).foldl (Ct p) p.Ac) rfl (λ j x s hx hs => ?_) λ s hs => ?_
 ·have hi := Pc (List.mem_of_getElem? hx)
  have hl : s.length = p.Ac.length := by rw [hs, Ka]
  have hnext : ((Bq b p).take (j + 1)).foldl (Ct p) p.Ac = Ct p s x := by rw [Bk hx, List.foldl_append, ← hs]; rfl
  rw [hnext]
  unfold Xi
  cases hsrc : x.Ac with
  | nil => exact Ok.next (by unfold Ct; rw [hsrc])
  | cons m l =>
   have hm := hi m (by rw [hsrc]; exact List.mem_cons_self)
   obtain ⟨u, hu⟩ : ∃ u, p.Ac[m.toNat]? = some u := ⟨_, List.getElem?_eq_getElem (by omega)⟩
   have hgu : getI p.Ac m = some u := by have := Bj hu; rwa [Int.toNat_of_nonneg hm.1] at this
   have hd : p.Ac.getD m.toNat default = u := by simp [List.getD, hu]
   have hf : Ct p s x = Ed u (m :: l) s := by unfold Ct; rw [hsrc]; simp only [hd]
   rw [hf]
   have hin : ∀ k, k ∈ m :: l -> 0 <= k /\ k < p.Ac.length := λ k hk => by
    have := hi k (by rw [hsrc]; exact hk)
    omega
   refine (Ok.foldI0 (I := λ k r => r = Ed u ((m :: l).take k) s) (A := λ r => r = Ed u (m :: l) s) (B := λ (_ : Unit) => False) rfl (λ k n r hk hr => ?_) λ r hr => by rw [hr, List.take_length]).inner (λ r hr => Ok.next hr) (λ _ h => h.elim)
   have hnk := hin n (List.mem_of_getElem? hk)
   have hrl : r.length = p.Ac.length := by rw [hr, Gs, hl]
   unfold Xh
   rw [hsrc, show getI (m :: l) 0 = some m from rfl]
   simp only [Option.bind_some, hgu]
   refine (Ok.getI hnk.1 (by omega)).bind λ v hv => (Ok.setI hnk.1 (by omega)).bind λ r1 e1 => ?_
   have hvg : r1[n.toNat]? = some (⟨v.State, v.Since, u.Aq, v.Phase⟩ : Af) := by rw [e1, List.getElem?_set_self (by omega)]
   refine Ok.bind (P := λ w => w = (⟨v.State, v.Since, u.Aq, v.Phase⟩ : Af)) ((Ok.getI hnk.1 (by rw [e1]; simp; omega)).mono λ w hw => by rw [hvg] at hw; cases hw; rfl) λ w hw => ?_
   refine (Ok.setI hnk.1 (by rw [e1]; simp; omega)).bind λ r2 e2 => Ok.next ?_
   have hdv : r.getD n.toNat default = v := by simp [List.getD, hv]
   rw [Ab1 hk, ← hr, hdv, e2, e1, hw, List.set_set]; rfl
 ·rw [List.take_length] at hs; exact hs
theorem Awo {ss : List Af} {n : Nat} (h : n < ss.length) : ss.set n (ss.getD n default) = ss := by
 apply List.ext_getElem?
 intro i
 rw [List.getElem?_set]
 split
 ·rename_i e; subst e
  simp [List.getD, List.getElem?_eq_getElem h]
 ·rfl
theorem Ab2 {like : Af} : ∀ (idx : List Int) (ss : List Af), (∀ i, i ∈ idx -> i.toNat < ss.length /\ X4 like (ss.getD i.toNat default) = ss.getD i.toNat default) -> Ed like idx ss = ss
 | [], _, _ => rfl
 | i :: idx, ss, h => by
  obtain ⟨h1, h2⟩ := h i List.mem_cons_self
  show Ed like idx (ss.set i.toNat (X4 like (ss.getD i.toNat default))) = ss
  rw [h2, Awo h1]
  exact Ab2 idx ss λ j hj => h j (List.mem_cons_of_mem _ hj)
theorem Yr {ss : List Af} {m n : Nat} {y : Af} : (ss.set m y).getD n default = if m = n /\ m < ss.length then y else ss.getD n default := by
 unfold List.getD
 rw [List.getElem?_set]
 by_cases e : m = n
 ·subst e
  by_cases hl : m < ss.length
  ·simp [hl]
  ·simp [hl]
 ·simp [e]
theorem jS (like : Af) : ∀ (idx : List Int) (ss : List Af) (n : Nat), ((Ed like idx ss).getD n default).State = (ss.getD n default).State
 | [], _, _ => rfl
 | i :: idx, ss, n => by
  show ((Ed like idx _).getD n default).State = _
  rw [jS like idx, Yr]
  split
  ·rename_i e; rw [← e.1]; rfl
  ·rfl
theorem X9 {like : Af} : ∀ (idx : List Int) (ss : List Af) {n : Nat}, (∀ i, i ∈ idx -> i.toNat ≠ n) -> (Ed like idx ss).getD n default = ss.getD n default
 | [], _, _, _ => rfl
 | i :: idx, ss, n, h => by
  show (Ed like idx _).getD n default = _
  rw [X9 idx _ (λ j hj => h j (List.mem_cons_of_mem _ hj)), Yr, if_neg (λ e => h i List.mem_cons_self e.1)]
theorem Al4 {like : Af} : ∀ (idx : List Int) (ss : List Af) {n : Nat}, n < ss.length -> (∃ i, i ∈ idx /\ i.toNat = n) -> ((Ed like idx ss).getD n default).Aq = like.Aq /\ ((Ed like idx ss).getD n default).Phase = like.Phase
 | [], _, _, _, h => by obtain ⟨_, h, _⟩ := h; cases h
 | i :: idx, ss, n, hn, h => by
  by_cases hr : ∃ j, j ∈ idx /\ j.toNat = n
  ·exact Al4 idx _ (by simpa using hn) hr
  ·have hi : i.toNat = n := by
    obtain ⟨j, hj, e⟩ := h
    rcases List.mem_cons.1 hj with rfl | hj
    ·exact e
    ·exact absurd ⟨j, hj, e⟩ hr
   have : (Ed like (i :: idx) ss).getD n default = X4 like (ss.getD i.toNat default) := by
    show (Ed like idx _).getD n default = _
    rw [X9 idx _ (λ j hj e => hr ⟨j, hj, e⟩), Yr, if_pos ⟨hi, by omega⟩]
   rw [this]; exact ⟨rfl, rfl⟩
def Alb (b : Aa) (p : Ab) : Prop := ∀ x, x ∈ Bq b p -> ∀ i j, i ∈ x.Ac -> j ∈ x.Ac ->
 (p.Ac.getD i.toNat default).Aq = (p.Ac.getD j.toNat default).Aq /\ (p.Ac.getD i.toNat default).Phase = (p.Ac.getD j.toNat default).Phase
theorem Ahl {b : Aa} {p : Ab} (hn : p.Ac.length = b.Ac.length) (h : Alb b p) : Ea b p = p.Ac := by
 have key : ∀ l : List Ai, (∀ x, x ∈ l -> x ∈ Bq b p) -> l.foldl (Ct p) p.Ac = p.Ac := by
  intro l
  induction l with
  | nil => intro _; rfl
  | cons x l ih =>
   intro hl
   have hx := hl x List.mem_cons_self
   have hst : Ct p p.Ac x = p.Ac := by
    unfold Ct
    split
    ·rfl
    ·rename_i i r e
     refine Ab2 _ _ λ j hj => ?_
     have hj2 := Pc hx j hj
     have ha := h x hx i j (by rw [e]; exact List.mem_cons_self) hj
     refine ⟨by omega, ?_⟩
     unfold X4
     rw [ha.1, ha.2]
   rw [List.foldl_cons, hst]
   exact ih λ y hy => hl y (List.mem_cons_of_mem _ hy)
 exact key _ λ _ hx => hx
theorem Ali (p : Ab) (s : List Af) (x : Ai) (n : Nat) : ((Ct p s x).getD n default).State = (s.getD n default).State := by
 unfold Ct
 split
 ·rfl
 ·exact jS _ _ _ _
theorem Aeq (b : Aa) (p : Ab) (n : Nat) : ((Ea b p).getD n default).State = (p.Ac.getD n default).State := by
 have key : ∀ (l : List Ai) (s : List Af), ((l.foldl (Ct p) s).getD n default).State = (s.getD n default).State := by
  intro l
  induction l with
  | nil => intro s; rfl
  | cons x l ih => intro s; rw [List.foldl_cons, ih, Ali]
 exact key _ _
theorem Aep {b : Aa} {p q : Ab} (hc : q.Ah = p.Ah) (hl : q.Ac.length = p.Ac.length) (hs : ∀ n : Nat, (q.Ac.getD n default).State = (p.Ac.getD n default).State) : Bq b q = Bq b p := by
 have hled : ∀ k i, El b q k i = El b p k i := λ k i => by unfold El; rw [hc]
 have hgr : Bd b q = Bd b p := by unfold Bd; rw [hc]
 have hcon : ∀ i, F5 b q i = F5 b p i := λ i => by unfold F5; rw [hled, hl, hs]
 have hgo : ∀ o, Ft b q o = Ft b p o := λ o => by unfold Ft; rw [hgr]
 have hisl : isl b q = isl b p := by
  funext f
  unfold isl Dz Ff Gl
  simp only [hgr, hled, hcon, hgo]
 unfold Bq
 rw [hisl]
theorem zT {b : Aa} {p : Ab} {f : Nat} {i : Int} : i ∈ (isl b p f).Ac ↔ ∃ k : Nat, i = (k : Int) /\ k < b.Ac.length /\ Ft b p (F5 b p (k : Int)) = some (f : Int) := by
 constructor
 ·intro h
  obtain ⟨k, hk, e⟩ := List.mem_map.1 h
  obtain ⟨h1, h2⟩ := List.mem_filter.1 hk
  exact ⟨k, e.symm, List.mem_range.1 h1, by rwa [beq_iff_eq] at h2⟩
 ·rintro ⟨k, e, h1, h2⟩
  exact List.mem_map.2 ⟨k, List.mem_filter.2 ⟨List.mem_range.2 h1, by rw [beq_iff_eq]; exact h2⟩, e.symm⟩
theorem Awm {b : Aa} {p : Ab} {f g : Nat} (hfg : f ≠ g) {i j : Int} (hi : i ∈ (isl b p f).Ac) (hj : j ∈ (isl b p g).Ac) : i.toNat ≠ j.toNat := by
 obtain ⟨k, rfl, _, e1⟩ := zT.1 hi
 obtain ⟨m, rfl, _, e2⟩ := zT.1 hj
 rw [Int.toNat_natCast, Int.toNat_natCast]
 intro e; subst e
 rw [e1] at e2
 have := Option.some.inj e2
 exact hfg (by omega)
def Aey (b : Aa) (p : Ab) (f : Nat) : Af := p.Ac.getD ((isl b p f).Ac.headD 0).toNat default
theorem Ahn {b : Aa} {p : Ab} {n : Nat} : ∀ (fs : List Nat) (s : List Af), (∀ f, f ∈ fs -> ∀ i, i ∈ (isl b p f).Ac -> i.toNat ≠ n) -> ((fs.map (isl b p)).foldl (Ct p) s).getD n default = s.getD n default
 | [], _, _ => rfl
 | f :: fs, s, h => by
  rw [List.map_cons, List.foldl_cons, Ahn fs _ (λ g hg => h g (List.mem_cons_of_mem _ hg))]
  have hf := h f List.mem_cons_self
  unfold Ct
  split
  ·rfl
  ·exact X9 _ _ hf
theorem Aas {b : Aa} {p : Ab} (hn : p.Ac.length = b.Ac.length) : ∀ (fs : List Nat) (s : List Af), s.length = p.Ac.length -> fs.Nodup -> ∀ f, f ∈ fs -> ∀ i, i ∈ (isl b p f).Ac ->
  (((fs.map (isl b p)).foldl (Ct p) s).getD i.toNat default).Aq = (Aey b p f).Aq /\ (((fs.map (isl b p)).foldl (Ct p) s).getD i.toNat default).Phase = (Aey b p f).Phase
 | [], _, _, _, _, h, _, _ => by cases h
 | g :: fs, s, hs, hnd, f, hf, i, hi => by
  obtain ⟨h1, h2⟩ := List.nodup_cons.1 hnd
  rw [List.map_cons, List.foldl_cons]
  by_cases e : f = g
  ·subst e
   rw [Ahn fs _ (λ k hk j hj => Awm (λ e => h1 (by rw [← e]; exact hk)) hj hi)]
   obtain ⟨k, rfl, hk, _⟩ := zT.1 hi
   unfold Ct
   split
   ·rename_i e; rw [e] at hi; cases hi
   ·rename_i m r e
    have : Aey b p f = p.Ac.getD m.toNat default := by unfold Aey; rw [e]; rfl
    rw [this]
    exact Al4 _ _ (by rw [Int.toNat_natCast]; omega) ⟨_, hi, rfl⟩
  ·rcases List.mem_cons.1 hf with h | hf
   ·exact absurd h e
   ·exact Aas hn fs _ (by rw [Mt]; exact hs) h2 f hf i hi
theorem Aaq {b : Aa} (h : Ay b) {p : Ab} (hn : p.Ac.length = b.Ac.length) : Alb b ⟨p.Ah, Ea b p, p.Ar, p.Ao⟩ := by
 have hisl : Bq b ⟨p.Ah, Ea b p, p.Ar, p.Ao⟩ = Bq b p := Aep rfl (Hu b p) (Aeq b p)
 intro x hx i j hi hj
 rw [hisl, H_ h] at hx
 obtain ⟨f, hf, rfl⟩ := List.mem_map.1 hx
 have hnd : (J9 b p b.An.toNat).Nodup := (List.nodup_range).sublist List.filter_sublist
 have hfl : Ea b p = ((J9 b p b.An.toNat).map (isl b p)).foldl (Ct p) p.Ac := by
  rw [← H_ h]; rfl
 have e1 := Aas hn _ p.Ac rfl hnd f hf i hi
 have e2 := Aas hn _ p.Ac rfl hnd f hf j hj
 dsimp only
 rw [hfl]
 exact ⟨e1.1.trans e2.1.symm, e1.2.trans e2.2.symm⟩
def Apo (b : Aa) (p : Ab) (n : Nat) : Bool := decide (((isl b p ((Bd b p).getD n 0).toNat).Ac.length : Int) > 0)
theorem Au9 {b : Aa} {p : Ab} {n f : Nat} (hn : n < b.An.toNat) : (isl b p f).An.any ((n : Int) == ·) = ((Bd b p).getD n 0 == (f : Int)) := by
 rw [Bool.eq_iff_iff, List.any_eq_true]
 constructor
 ·rintro ⟨x, hx, e⟩
  rw [beq_iff_eq] at e; subst e
  obtain ⟨i, hi, e⟩ := List.mem_map.1 hx
  have : i = n := by omega
  subst this
  exact (List.mem_filter.1 hi).2
 ·intro e
  exact ⟨n, List.mem_map.2 ⟨n, List.mem_filter.2 ⟨List.mem_range.2 hn, e⟩, rfl⟩, by simp⟩
theorem of_eq {b : Aa} (h : Ay b) {p : Ab} (hp : Aw b p) {n : Nat} (hn : n < b.An.toNat) : Gh b p (n : Int) = some (isl b p ((Bd b p).getD n 0).toNat, true) := by
 have hg := Iv h p hn
 have hbu := h.buses
 unfold Gh
 rw [Hs h hp, H_ h]
 simp only [Option.bind_some]
 have key : ∀ (fs : List Nat) (k : Nat), foldI (J1 (n : Int)) (fs.map (isl b p)) k () = if ((Bd b p).getD n 0).toNat ∈ fs then some (.ret (isl b p ((Bd b p).getD n 0).toNat, true)) else some (.next ()) := by
  intro fs
  induction fs with
  | nil => intro k; rfl
  | cons f fs ih =>
   intro k
   have hbl : (isl b p f).An.length <= 9223372036854775807 := by
    have := De (λ i => (Bd b p).getD i 0 == (f : Int)) b.An.toNat
    simp only [isl, Dz]
    omega
   simp only [List.map_cons, foldI, J1, Dt _ _ hbl, Option.bind_some, Au9 hn]
   by_cases e : (Bd b p).getD n 0 = (f : Int)
   ·have e2 : ((Bd b p).getD n 0).toNat = f := by omega
    rw [beq_iff_eq.2 e, e2, if_pos List.mem_cons_self]; rfl
   ·have e2 : ((Bd b p).getD n 0).toNat ≠ f := by omega
    rw [beq_eq_false_iff_ne.2 e]
    simp only [cond_false]
    rw [ih]
    by_cases hm : ((Bd b p).getD n 0).toNat ∈ fs
    ·rw [if_pos hm, if_pos (List.mem_cons_of_mem _ hm)]
    ·rw [if_neg hm, if_neg (λ hh => (List.mem_cons.1 hh).elim e2 hm)]
 have hm : ((Bd b p).getD n 0).toNat ∈ J9 b p b.An.toNat := List.mem_filter.2 ⟨List.mem_range.2 (by omega), Jw h p hn⟩
 rw [key, if_pos hm]
 rfl
theorem Aan {b : Aa} (h : Ay b) {p : Ab} (hp : Aw b p) {n : Nat} (hn : n < b.An.toNat) : Vs b p (n : Int) = some (Apo b p n) := by
 unfold Vs
 rw [of_eq h hp hn]
 simp [Apo]
theorem Alv {b : Aa} (h : Ay b) {s : Aj} (hs : Bw s) : Ok (vG s b) λ y => (Aw b y.1 /\ Alb b y.1 /\ y.1.Ao.length <= 4) /\ Bw y.2 := by
 unfold vG
 refine (Ayk h hs).bind λ y hy => ?_
 rw [Alj h hy.1.1]
 exact Ok.pure ⟨⟨I1 hy.1.1 (Hu b _) (Q7 hy.1.1), Aaq h hy.1.1.nso, hy.1.2⟩, hy.2⟩
theorem Ayl {b : Aa} (h : Ay b) {s : Aj} (hs : Bw s) : Ok (vW s b) λ y => ((∀ t, Po b t y.1) /\ (5 <= y.1.Time /\ y.1.Time <= 20) /\ y.1.A7 = [] /\ y.1.Power.Ao.length <= 4) /\ Bw y.2 := by
 have hbu := h.buses
 unfold vW
 refine (Hc hs 5 20 (by omega) (by omega) (by omega)).bind λ y hy => (Alv h hy.1).bind λ z hz => ?_
 refine Ok.andThen (A := λ s => Bw ⟨s.2.1, s.2.2.1⟩ /\ s.2.2.2.length = b.An.toNat /\ ∀ x, x ∈ s.2.2.2 -> (-1 <= x.High /\ x.High <= 4) /\ -1 <= x.Low /\ x.Low <= 4) (B := λ (_ : Unit) => False) ?_ (λ s hs => ?_) (λ _ h => h.elim)
 ·refine Ok.whileN (λ s => (0 <= s.1 /\ s.1 <= b.An) /\ Bw ⟨s.2.1, s.2.2.1⟩ /\ (s.2.2.2.length : Int) = s.1 /\ ∀ x, x ∈ s.2.2.2 -> (-1 <= x.High /\ x.High <= 4) /\ -1 <= x.Low /\ x.Low <= 4) (λ s => (b.An - s.1).toNat) _ _ ?_ ?_ ?_
  ·exact ⟨by dsimp only; omega, hz.2, by simp, λ x hx => by cases hx⟩
  ·dsimp only; omega
  ·rintro ⟨i, L, a, l⟩ ⟨⟨g1, g2⟩, g3, g4, g5⟩
   dsimp only at g1 g2 g3 g4 g5
   unfold Rx
   dsimp only
   refine Ok.cond (λ hq => ?_) (λ hq => Ok.brk ?_)
   ·simp only [decide_eq_true_eq] at hq
    have e1 : w64 (i + 1) = i + 1 := Bb (by omega)
    rw [e1]
    refine (Hc g3 (-1) 4 (by omega) (by omega) (by omega)).bind λ u hu => (Hc hu.1 (-1) 4 (by omega) (by omega) (by omega)).bind λ v hv => (Ok.appI (by simp; omega)).bind λ w hw => Ok.next ?_
    refine ⟨⟨by dsimp only; omega, hv.1, by rw [hw]; simp; omega, λ x hx => ?_⟩, by dsimp only; omega⟩
    rw [hw] at hx
    rcases List.mem_append.1 hx with hx | hx
    ·exact g5 x hx
    ·simp only [List.mem_singleton] at hx
     subst hx
     exact ⟨hu.2, hv.2⟩
   ·simp only [decide_eq_false_iff_not] at hq
    exact ⟨g3, by dsimp only; omega, g5⟩
 ·refine Ok.pure ⟨⟨λ t => ?_, hy.2, rfl, hz.1.2.2⟩, hs.1⟩
  exact {
   st := hz.1.1
   fol := Ahl hz.1.1.nso hz.1.2.1
   time := by have := hy.2; dsimp only; omega
   nro := hs.2.1
   ros := λ x hx => by
    have := hs.2.2 x hx
    have := hy.2
    unfold Fv
    dsimp only
    omega }
theorem Awi {s : Aj} (hs : Bw s) : Ok (F9 s) λ y => A57 y.1 /\ H1 y.2.1 /\ ((∀ t, Po y.1 t y.2.2.1) /\ (5 <= y.2.2.1.Time /\ y.2.2.1.Time <= 20) /\ y.2.2.1.A7 = [] /\ y.2.2.1.Power.Ao.length <= 4) /\ Bw y.2.2.2 := by
 unfold F9
 exact (Ayy hs).bind λ b hb => (Ayi hb.2).bind λ y hy => (Ayl hb.1.ok hy.2).bind λ p hp => Ok.pure ⟨hb.1, hy.1, hp.1, hp.2⟩
theorem Gd {b : Aa} {i : Nat} (h : i < b.Ae.length) : b.Ae[i]? = some (b.Ae.getD i default) := by
 rw [List.getElem?_eq_getElem h]; simp [List.getD, List.getElem?_eq_getElem h]
theorem Anf {p : Ab} {i : Nat} (h : i < p.Ar.length) : p.Ar[i]? = some (p.Ar.getD i 0) := by
 rw [List.getElem?_eq_getElem h]; simp [List.getD, List.getElem?_eq_getElem h]

theorem Ua {b : Aa} {p : Ab} (hp : Aw b p) {j : Nat} (hj : j < b.Ag.length) : p.Ah[j]? = some (p.Ah.getD j false) := by
 have := hp.ncl
 rw [List.getElem?_eq_getElem (by omega)]; simp [List.getD, List.getElem?_eq_getElem (show j < p.Ah.length by omega)]
theorem A5u {b : Aa} {j : Nat} {x : Ak} (hx : b.Ag[j]? = some x) : b.Ag.getD j default = x := by simp [List.getD, hx]
def Ds (p : Ab) (x : Ak) : Bool :=
 brk p.Ao 3 x.A || (if x.Kind = 1 then brk p.Ao 3 x.B else if x.Kind = 2 then brk p.Ao 1 x.B || ((p.Ac.getD x.B.toNat default).State != 2) else brk p.Ao 4 x.B)
theorem A1f {b : Aa} {p : Ab} (hp : Aw b p) (k n : Int) (acts : List Ap) : Ks k n ⟨b, p, acts⟩ = some (brk p.Ao k n, ⟨b, p, acts⟩) := by
 have := hp.brk.len
 unfold Ks
 rw [Eu (by dsimp only; omega)]; rfl
theorem Aum {b : Aa} (h : Ay b) {p : Ab} (hp : Aw b p) (acts : List Ap) {x : Ak} (hx : x ∈ b.Ag) : U5 ⟨b, p, acts⟩ x = some (Ds p x, ⟨b, p, acts⟩) := by
 have hbr := (h.br x hx).2
 have hns := hp.nso
 unfold U5 Ds
 simp only [A1f hp, Option.bind_some]
 cases brk p.Ao 3 x.A with
 | true => rfl
 | false =>
  simp only [cond_false, Bool.false_or]
  rcases hbr with ⟨hk, _⟩ | ⟨hk, h0, h1⟩ | ⟨hk, _⟩
  ·rw [hk]; rfl
  ·rw [hk]
   have e : p.Ac[x.B.toNat]? = some (p.Ac.getD x.B.toNat default) := by
    rw [List.getElem?_eq_getElem (by omega)]; simp [List.getD, List.getElem?_eq_getElem (show x.B.toNat < p.Ac.length by omega)]
   have e2 : getI p.Ac x.B = some (p.Ac.getD x.B.toNat default) := by
    unfold getI; rw [decide_eq_true h0]; exact e
   rw [e2]
   cases brk p.Ao 1 x.B <;> rfl
  ·rw [hk]; rfl
def C8 (b : Aa) (C : List Bool) (q : Ak -> Bool) (n : Nat) : List Int := ((List.range n).filter λ i => C.getD i false && q (b.Ag.getD i default)).map λ (i : Nat) => (i : Int)
theorem Lm {b : Aa} {C : List Bool} {q : Ak -> Bool} {n : Nat} {i : Int} : i ∈ C8 b C q n ↔ ∃ k : Nat, i = (k : Int) /\ k < n /\ C.getD k false = true /\ q (b.Ag.getD k default) = true := by
 unfold C8
 simp only [List.mem_map, List.mem_filter, List.mem_range, Bool.and_eq_true]
 constructor
 ·rintro ⟨k, ⟨h1, h2, h3⟩, rfl⟩; exact ⟨k, rfl, h1, h2, h3⟩
 ·rintro ⟨k, rfl, h1, h2, h3⟩; exact ⟨k, ⟨h1, h2, h3⟩, rfl⟩
theorem Gc (b : Aa) (C : List Bool) (q : Ak -> Bool) (n : Nat) : (C8 b C q n).length <= n := De _ n
def H9 (C : List Bool) (l : List Int) : List Bool := l.foldl (λ c i => c.set i.toNat false) C
def Li (l : List Int) : List Ap := l.map λ i => ⟨2, i, 0⟩
theorem Ac4 : ∀ (l : List Int) (C : List Bool), (H9 C l).length = C.length
 | [], _ => rfl
 | i :: l, C => by
  show (H9 (C.set i.toNat false) l).length = _
  rw [Ac4 l]; simp
theorem Apa (C : List Bool) (l : List Int) (i : Int) : H9 C (l ++ [i]) = (H9 C l).set i.toNat false := by
 unfold H9; rw [List.foldl_append]; rfl
theorem Agv {b : Aa} : ∀ (l : List Int) {p : Ab}, Aw b p -> Aw b ⟨H9 p.Ah l, p.Ac, p.Ar, p.Ao⟩
 | [], _, hp => hp
 | i :: l, p, hp => Agv l (p := ⟨p.Ah.set i.toNat false, p.Ac, p.Ar, p.Ao⟩) (Apb hp i.toNat)
theorem Aw0 {b : Aa} {p : Ab} {acts : List Ap} (ha : acts.length <= 1000000) {i : Int} (h0 : 0 <= i) (h1 : i < p.Ah.length) : M6 ⟨b, p, acts⟩ i = some ⟨b, ⟨p.Ah.set i.toNat false, p.Ac, p.Ar, p.Ao⟩, acts ++ [⟨2, i, 0⟩]⟩ := by
 refine Ok.eq ?_
 unfold M6
 refine (Ok.getI h0 h1).bind λ _ _ => (Ok.setI h0 h1).bind λ y hy => (Ok.appI (by simp; omega)).bind λ z hz => Ok.pure ?_
 rw [hy, hz]
theorem Yh {b : Aa} {p : Ab} {acts : List Ap} {l : List Int} (ha : acts.length + l.length <= 1000000) (hl : ∀ i, i ∈ l -> 0 <= i /\ i < p.Ah.length) :
  Ok (foldI Kv l 0 (b.An, b.Ag, b.Ac, b.Ae, b.Phase, b.Aq, p.Ah, p.Ac, p.Ar, p.Ao, acts)) (Dk (λ s => s = (b.An, b.Ag, b.Ac, b.Ae, b.Phase, b.Aq, H9 p.Ah l, p.Ac, p.Ar, p.Ao, acts ++ Li l)) λ (_ : Unit) => False) := by
 refine Ok.foldI0 (I := λ j s => s = (b.An, b.Ag, b.Ac, b.Ae, b.Phase, b.Aq, H9 p.Ah (l.take j), p.Ac, p.Ar, p.Ao, acts ++ Li (l.take j))) (by simp [H9, Li]) (λ j i s hi hs => ?_) λ s hs => ?_
 ·have hj := (List.getElem?_eq_some_iff.1 hi).1
  have hin := hl i (List.mem_of_getElem? hi)
  subst hs
  unfold Kv
  have e := Aw0 (b := b) (p := ⟨H9 p.Ah (l.take j), p.Ac, p.Ar, p.Ao⟩) (acts := acts ++ Li (l.take j)) (by simp [Li]; omega) hin.1 (by rw [Ac4]; exact hin.2)
  refine Ok.bind (P := λ y => y = _) (Ok.of_eq e rfl) λ y hy => Ok.next ?_
  subst hy
  rw [Bk hi, Apa]
  simp [Li]
 ·rw [List.take_length] at hs; exact hs
def acA (b : Aa) (C : List Bool) (q : Ak -> Bool) : List Ap := Li (C8 b C q b.Ag.length)
def acC (b : Aa) (C : List Bool) (q : Ak -> Bool) : List Bool := H9 C (C8 b C q b.Ag.length)
theorem Ws (b : Aa) (C : List Bool) (q : Ak -> Bool) : (acA b C q).length <= b.Ag.length := by
 unfold acA Li
 rw [List.length_map]; exact Gc b C q _
theorem Ai2 {b : Aa} {p : Ab} (hp : Aw b p) (q : Ak -> Bool) : Aw b ⟨acC b p.Ah q, p.Ac, p.Ar, p.Ao⟩ := Agv _ hp
theorem Q5 {b : Aa} {C : List Bool} {q : Ak -> Bool} {j : Nat} {x : Ak} (hx : b.Ag[j]? = some x) : C8 b C q (j + 1) = C8 b C q j ++ if (C.getD j false && q x) = true then [(j : Int)] else [] := by
 unfold C8
 rw [Fh, A5u hx]
theorem Ar1 {b : Aa} (h : Ay b) {p : Ab} (hp : Aw b p) {acts : List Ap} (ha : acts.length <= 1000) : U_ ⟨b, p, acts⟩ = some ⟨b, ⟨acC b p.Ah (Ds p), p.Ac, p.Ar, p.Ao⟩, acts ++ acA b p.Ah (Ds p)⟩ := by
 have hbl := h.brl
 have hnc := hp.ncl
 refine Ok.eq ?_
 unfold U_
 refine Ok.andThen (A := λ s => s = (b.An, b.Ag, b.Ac, b.Ae, b.Phase, b.Aq, C8 b p.Ah (Ds p) b.Ag.length, p.Ah, p.Ac, p.Ar, p.Ao, acts)) (B := λ (_ : Unit) => False) ?_ (λ s hs => ?_) (λ _ h => h.elim)
 ·refine Ok.foldI0 (I := λ j s => s = (b.An, b.Ag, b.Ac, b.Ae, b.Phase, b.Aq, C8 b p.Ah (Ds p) j, p.Ah, p.Ac, p.Ar, p.Ao, acts)) rfl (λ j x s hx hs => ?_) λ s hs => hs
  have hj : j < b.Ag.length := (List.getElem?_eq_some_iff.1 hx).1
  have hfl := Gc b p.Ah (Ds p) j
  have hfs := Q5 (C := p.Ah) (q := Ds p) hx
  subst hs
  unfold Ob
  rw [Cq (by omega), Bj (Ua hp hj)]
  simp only [Option.bind_some]
  have hd := Aum h hp acts (List.mem_of_getElem? hx)
  cases hC : p.Ah.getD j false with
  | false =>
   rw [hC] at hfs
   refine Ok.next ?_
   rw [hfs]; simp
  | true =>
   rw [hC] at hfs
   refine Ok.bind (P := λ y => y = (Ds p x, (⟨b, p, acts⟩ : Ax))) (Ok.of_eq hd rfl) λ y hy => ?_
   subst hy
   cases hq : Ds p x with
   | false =>
    rw [hq] at hfs
    refine Ok.next ?_
    rw [hfs]; simp
   | true =>
    rw [hq] at hfs
    refine Ok.bind (P := λ y => y = C8 b p.Ah (Ds p) j ++ [(j : Int)]) (Ok.appI (by simp; omega)) λ y hy => Ok.next ?_
    rw [hy, hfs]; simp
 ·subst hs
  have hfl := Gc b p.Ah (Ds p) b.Ag.length
  refine Ok.andThen (Yh (b := b) (p := p) (acts := acts) (l := C8 b p.Ah (Ds p) b.Ag.length) (by omega) λ i hi => ?_) (λ s hs => ?_) (λ _ h => h.elim)
  ·obtain ⟨k, rfl, hk, _⟩ := Lm.1 hi
   omega
  ·subst hs
   exact Ok.pure rfl
def Fj (b : Aa) (p : Ab) (x : Ak) : Bool := x.Kind == 3 && !Apo b p x.A.toNat
theorem A09 {b : Aa} (h : Ay b) {p : Ab} (hp : Aw b p) (acts : List Ap) {x : Ak} (hx : x ∈ b.Ag) : U4 x ⟨b, p, acts⟩ = some (Fj b p x, ⟨b, p, acts⟩) := by
 have hA := (h.br x hx).1
 have hl := Aan h hp (n := x.A.toNat) (by omega)
 rw [Int.toNat_of_nonneg hA.1] at hl
 unfold U4 Fj
 rw [hl]
 cases x.Kind == 3 <;> rfl
theorem Ar0 {b : Aa} (h : Ay b) {p : Ab} (hp : Aw b p) {acts : List Ap} (ha : acts.length <= 1000) : U9 ⟨b, p, acts⟩ = some ⟨b, ⟨acC b p.Ah (Fj b p), p.Ac, p.Ar, p.Ao⟩, acts ++ acA b p.Ah (Fj b p)⟩ := by
 have hbl := h.brl
 have hnc := hp.ncl
 refine Ok.eq ?_
 unfold U9
 refine Ok.andThen (A := λ s => s = (b.An, b.Ag, b.Ac, b.Ae, b.Phase, b.Aq, C8 b p.Ah (Fj b p) b.Ag.length, p.Ah, p.Ac, p.Ar, p.Ao, acts)) (B := λ (_ : Unit) => False) ?_ (λ s hs => ?_) (λ _ h => h.elim)
 ·refine Ok.foldI0 (I := λ j s => s = (b.An, b.Ag, b.Ac, b.Ae, b.Phase, b.Aq, C8 b p.Ah (Fj b p) j, p.Ah, p.Ac, p.Ar, p.Ao, acts)) rfl (λ j x s hx hs => ?_) λ s hs => hs
  have hj : j < b.Ag.length := (List.getElem?_eq_some_iff.1 hx).1
  have hfl := Gc b p.Ah (Fj b p) j
  have hfs := Q5 (C := p.Ah) (q := Fj b p) hx
  subst hs
  unfold Oa
  rw [Cq (by omega), Bj (Ua hp hj)]
  simp only [Option.bind_some]
  have hd := A09 h hp acts (List.mem_of_getElem? hx)
  cases hC : p.Ah.getD j false with
  | false =>
   rw [hC] at hfs
   refine Ok.next ?_
   rw [hfs]; simp
  | true =>
   rw [hC] at hfs
   refine Ok.bind (P := λ y => y = (Fj b p x, (⟨b, p, acts⟩ : Ax))) (Ok.of_eq hd rfl) λ y hy => ?_
   subst hy
   cases hq : Fj b p x with
   | false =>
    rw [hq] at hfs
    refine Ok.next ?_
    rw [hfs]; simp
   | true =>
    rw [hq] at hfs
    refine Ok.bind (P := λ y => y = C8 b p.Ah (Fj b p) j ++ [(j : Int)]) (Ok.appI (by simp; omega)) λ y hy => Ok.next ?_
    rw [hy, hfs]; simp
 ·subst hs
  have hfl := Gc b p.Ah (Fj b p) b.Ag.length
  refine Ok.andThen (Yh (b := b) (p := p) (acts := acts) (l := C8 b p.Ah (Fj b p) b.Ag.length) (by omega) λ i hi => ?_) (λ s hs => ?_) (λ _ h => h.elim)
  ·obtain ⟨k, rfl, hk, _⟩ := Lm.1 hi
   omega
  ·subst hs
   exact Ok.pure rfl
def T_ (b : Aa) (p : Ab) : Ab := ⟨acC b p.Ah (Ds p), p.Ac, p.Ar, p.Ao⟩
def Ax2 (b : Aa) (p : Ab) : Ab := ⟨acC b (T_ b p).Ah (Fj b (T_ b p)), p.Ac, p.Ar, p.Ao⟩
def T9 (b : Aa) (p : Ab) : Ab := ⟨(Ax2 b p).Ah, Ea b (Ax2 b p), p.Ar, p.Ao⟩
def Y0 (b : Aa) (p : Ab) : List Ap := acA b p.Ah (Ds p) ++ acA b (T_ b p).Ah (Fj b (T_ b p))
theorem Anm {b : Aa} {p : Ab} (hp : Aw b p) : Aw b (T_ b p) := Ai2 hp _
theorem Aa3 {b : Aa} {p : Ab} (hp : Aw b p) : Aw b (Ax2 b p) := Ai2 (Anm hp) _
theorem Anl {b : Aa} {p : Ab} (hp : Aw b p) : Aw b (T9 b p) := I1 (Aa3 hp) (Hu b _) (Q7 (Aa3 hp))
theorem Aif (b : Aa) (p : Ab) : (Y0 b p).length <= 2 * b.Ag.length := by
 have h1 := Ws b p.Ah (Ds p)
 have h2 := Ws b (T_ b p).Ah (Fj b (T_ b p))
 unfold Y0
 rw [List.length_append]; omega
theorem Ax4 {b : Aa} (h : Ay b) {p : Ab} (hp : Aw b p) : Vi ⟨b, p, []⟩ = some ⟨b, T9 b p, Y0 b p⟩ := by
 have hbl := h.brl
 have hl := Ws b p.Ah (Ds p)
 unfold Vi
 rw [Ar1 h hp (by simp)]
 simp only [Option.bind_some, List.nil_append]
 have e2 := Ar0 h (Anm hp) (acts := acA b p.Ah (Ds p)) (by omega)
 have e3 := Tx h (Aa3 hp)
 refine Ok.eq ?_
 refine Ok.bind (P := λ y => y = _) (Ok.of_eq e2 rfl) λ y hy => ?_
 subst hy
 refine Ok.bind (P := λ y => y = _) (Ok.of_eq e3 rfl) λ y hy => ?_
 subst hy
 exact Ok.pure rfl
def key (b : Aa) (c : Int) : Int := (b.Ae.getD c.toNat default).Bn * 100 + c
theorem Tw {l : List Int} {m k : Nat} {v : Int} : (l.set m v).getD k 0 = if m = k /\ m < l.length then v else l.getD k 0 := by
 simp only [List.getD, List.getElem?_set]
 by_cases e : m = k
 ·subst e
  by_cases hl : m < l.length
  ·simp [hl]
  ·simp [hl]
 ·simp [e]
theorem Tv {l : List Int} {k : Nat} (h : k < l.length) : getI l (k : Int) = some (l.getD k 0) := Bj (by
 rw [List.getElem?_eq_getElem h]; simp [List.getD, List.getElem?_eq_getElem h])
structure Srt (b : Aa) (n i : Nat) (d : List Int) : Prop where
 len : d.length = n
 low : ∀ k, k < i -> k < n -> 0 <= d.getD k 0 /\ d.getD k 0 < (i : Int)
 asc : ∀ k m, k < m -> m < i -> m < n -> key b (d.getD k 0) < key b (d.getD m 0)
 rest : ∀ k, i <= k -> k < n -> d.getD k 0 = (k : Int)
 mem : ∀ v, v < n -> ∃ k, k < n /\ d.getD k 0 = (v : Int)
structure Ins (b : Aa) (n i j : Nat) (d : List Int) : Prop where
 len : d.length = n
 here : d.getD j 0 = (i : Int)
 low : ∀ k, k <= i -> k ≠ j -> 0 <= d.getD k 0 /\ d.getD k 0 < (i : Int)
 asc : ∀ k m, k < m -> m <= i -> k ≠ j -> m ≠ j -> key b (d.getD k 0) < key b (d.getD m 0)
 big : ∀ k, j < k -> k <= i -> key b (i : Int) < key b (d.getD k 0)
 rest : ∀ k, i < k -> k < n -> d.getD k 0 = (k : Int)
 mem : ∀ v, v < n -> ∃ k, k < n /\ d.getD k 0 = (v : Int)
theorem Srt.ins {b : Aa} {n i : Nat} {d : List Int} (h : Srt b n i d) (hi : i < n) : Ins b n i i d where
 len := h.len
 here := h.rest i (Nat.le_refl _) hi
 low k hk hne := h.low k (by omega) (by omega)
 asc k m hkm hm hk hm2 := h.asc k m hkm (by omega) (by omega)
 big k h1 h2 := by omega
 rest k h1 h2 := h.rest k (by omega) h2
 mem := h.mem
theorem Ins.done {b : Aa} {n i j : Nat} {d : List Int} (h : Ins b n i j d) (hj : j <= i) (hk : 0 < j -> key b (d.getD (j - 1) 0) < key b (i : Int)) : Srt b n (i + 1) d := by
 refine ⟨h.len, λ k h1 h2 => ?_, λ k m hkm hm hn => ?_, λ k h1 h2 => h.rest k (by omega) h2, h.mem⟩
 ·by_cases e : k = j
  ·rw [e, h.here]; omega
  ·have := h.low k (by omega) e
   omega
 ·have lo : ∀ k, k < j -> key b (d.getD k 0) < key b (i : Int) := λ k hkj => by
   have h3 := hk (by omega)
   by_cases e : k = j - 1
   ·rw [e]; exact h3
   ·have := h.asc k (j - 1) (by omega) (by omega) (by omega) (by omega)
    omega
  by_cases e : k = j
  ·subst e
   rw [h.here]
   exact h.big m hkm (by omega)
  ·by_cases e2 : m = j
   ·subst e2
    rw [h.here]
    exact lo k hkm
   ·exact h.asc k m hkm (by omega) e e2
theorem Ins.step {b : Aa} {n i j : Nat} {d : List Int} (h : Ins b n i j d) (hj : j <= i) (h0 : 0 < j) (hi : i < n) (hk : key b (i : Int) < key b (d.getD (j - 1) 0)) : Ins b n i (j - 1) ((d.set j (d.getD (j - 1) 0)).set (j - 1) (i : Int)) := by
 have hl := h.len
 have ev : ∀ k, ((d.set j (d.getD (j - 1) 0)).set (j - 1) (i : Int)).getD k 0 = if k = j - 1 then (i : Int) else if k = j then d.getD (j - 1) 0 else d.getD k 0 := λ k => by
  rw [Tw, Tw, List.length_set]
  by_cases e1 : k = j - 1
  ·have c1 : j - 1 = k /\ j - 1 < d.length := ⟨e1.symm, by omega⟩
   rw [if_pos c1, if_pos e1]
  ·have c1 : ¬ (j - 1 = k /\ j - 1 < d.length) := λ hh => e1 hh.1.symm
   rw [if_neg c1, if_neg e1]
   by_cases e2 : k = j
   ·have c2 : j = k /\ j < d.length := ⟨e2.symm, by omega⟩
    rw [if_pos c2, if_pos e2]
   ·have c2 : ¬ (j = k /\ j < d.length) := λ hh => e2 hh.1.symm
    rw [if_neg c2, if_neg e2]
 refine ⟨by simp [hl], ?_, λ k h1 h2 => ?_, λ k m hkm hm hk1 hm1 => ?_, λ k h1 h2 => ?_, λ k h1 h2 => ?_, λ v hv => ?_⟩
 ·rw [ev, if_pos rfl]
 ·rw [ev, if_neg h2]
  split
  ·exact h.low (j - 1) (by omega) (by omega)
  ·exact h.low k h1 (by omega)
 ·rw [ev, ev, if_neg hk1, if_neg hm1]
  by_cases e1 : k = j
  ·rw [if_pos e1, if_neg (by omega)]
   subst e1
   exact h.asc (k - 1) m (by omega) hm (by omega) (by omega)
  ·rw [if_neg e1]
   by_cases e2 : m = j
   ·rw [if_pos e2]
    exact h.asc k (j - 1) (by omega) (by omega) e1 (by omega)
   ·rw [if_neg e2]
    exact h.asc k m hkm hm e1 e2
 ·rw [ev, if_neg (by omega)]
  split
  ·exact hk
  ·exact h.big k (by omega) h2
 ·rw [ev, if_neg (by omega), if_neg (by omega)]
  exact h.rest k h1 h2
 ·obtain ⟨k, hk1, hk2⟩ := h.mem v hv
  by_cases e1 : k = j
  ·refine ⟨j - 1, by omega, ?_⟩
   rw [ev, if_pos rfl, ← hk2, e1, h.here]
  ·by_cases e2 : k = j - 1
   ·refine ⟨j, by omega, ?_⟩
    rw [ev, if_neg (by omega), if_pos rfl, ← hk2, e2]
   ·refine ⟨k, hk1, ?_⟩
    rw [ev, if_neg e2, if_neg e1]; exact hk2
theorem Ata {b : Aa} {x y : Nat} (hx : x < b.Ae.length) (hy : y < b.Ae.length) : M5 (x : Int) (y : Int) b = some (if (b.Ae.getD x default).Bn < (b.Ae.getD y default).Bn then -1 else if (b.Ae.getD x default).Bn > (b.Ae.getD y default).Bn then 1 else 0) := by
 unfold M5
 rw [Bj (Gd hx), Bj (Gd hy)]
 simp only [Option.bind_some, Aie]
theorem Axm {b : Aa} (h : Ay b) {i : Nat} (hi : i < b.Ae.length) {d : List Int} (hd : Ins b b.Ae.length i i d) :
  Ok (whileN (Kr 0 b) 1152921504606846976 ((i : Int), d)) (Dk (λ s => Srt b b.Ae.length (i + 1) s.2) λ (_ : Unit) => False) := by
 have hcl := h.col
 refine Ok.whileN (λ s => ∃ j : Nat, s.1 = (j : Int) /\ j <= i /\ Ins b b.Ae.length i j s.2) (λ s => s.1.toNat) _ _ ⟨i, rfl, Nat.le_refl _, hd⟩ (by dsimp only; omega) ?_
 rintro ⟨z, d⟩ ⟨j, hz, hj, hI⟩
 dsimp only at hz hI
 subst hz
 have hl := hI.len
 unfold Kr
 dsimp only
 by_cases h0 : 0 < j
 ·have e1 : decide ((j : Int) > 0) = true := decide_eq_true (by omega)
  have e2 : w64 ((j : Int) - 1) = ((j - 1 : Nat) : Int) := by rw [Bb (by omega)]; omega
  have hlow := hI.low (j - 1) (by omega) (by omega)
  obtain ⟨v, hv⟩ : ∃ v : Nat, d.getD (j - 1) 0 = (v : Int) := ⟨(d.getD (j - 1) 0).toNat, by omega⟩
  have hvi : v < i := by omega
  have ec := Ata (b := b) hi (show v < b.Ae.length by omega)
  have g1 : A2 [(decide ((j : Int) > 0), true)] (getI d (j : Int)) default = some (i : Int) := by
   rw [e1, Tv (by omega), hI.here]; rfl
  have g2 : A2 [(decide ((j : Int) > 0), true)] (getI d (w64 ((j : Int) - 1))) default = some (v : Int) := by
   rw [e1, e2, Tv (by omega), hv]; rfl
  rw [g1, g2]
  simp only [Option.bind_some]
  have g3 : A2 [(decide ((j : Int) > 0), true)] (M5 (i : Int) (v : Int) b) default = M5 (i : Int) (v : Int) b := by rw [e1]; rw [ec]; rfl
  rw [g3, ec]
  simp only [Option.bind_some]
  have hci := h.co i _ (Gd hi)
  have hcv := h.co v _ (Gd (show v < b.Ae.length by omega))
  have ki : key b (i : Int) = (b.Ae.getD i default).Bn * 100 + (i : Int) := by unfold key; rw [Int.toNat_natCast]
  have kv : key b (v : Int) = (b.Ae.getD v default).Bn * 100 + (v : Int) := by unfold key; rw [Int.toNat_natCast]
  refine Ok.cond (λ hq => ?_) (λ hq => ?_)
  ·simp only [Y1, Bool.and_eq_true, decide_eq_true_eq] at hq
   have hlt : (b.Ae.getD i default).Bn < (b.Ae.getD v default).Bn := by
    have := hq.2
    split at this
    ·assumption
    ·split at this <;> omega
   have e3 : getI d (w64 ((j : Int) - 1)) = some (d.getD (j - 1) 0) := by rw [e2, Tv (by omega)]
   have e4 : getI d (j : Int) = some (i : Int) := by rw [Tv (by omega), hI.here]
   rw [e3, e4]
   simp only [Option.bind_some]
   rw [e2, Ig (by omega)]
   simp only [Option.bind_some]
   rw [Tv (by rw [List.length_set]; omega)]
   simp only [Option.bind_some]
   rw [Ig (by rw [List.length_set]; omega)]
   simp only [Option.bind_some]
   refine Ok.next ⟨⟨j - 1, rfl, by omega, hI.step hj h0 hi ?_⟩, by dsimp only; omega⟩
   rw [hv, ki, kv]; omega
  ·refine Ok.brk (hI.done hj λ _ => ?_)
   simp only [Y1, Bool.and_eq_false_iff, decide_eq_false_iff_not] at hq
   have hge : ¬ (b.Ae.getD i default).Bn < (b.Ae.getD v default).Bn := by
    intro hlt
    rw [if_pos hlt] at hq
    omega
   rw [hv, ki, kv]; omega
 ·have h00 : j = 0 := by omega
  subst h00
  exact Ok.brk (hI.done hj λ hh => by omega)
theorem A0b {b : Aa} (h : Ay b) {d : List Int} (hd : Srt b b.Ae.length 0 d) : Ok (Uw d b) λ y => Srt b b.Ae.length b.Ae.length y.1 := by
 have hcl := h.col
 have hl := hd.len
 unfold Uw vZ
 rw [hl]
 refine Ok.bind (P := λ y => Srt b b.Ae.length b.Ae.length y.1) ?_ λ y hy => Ok.pure hy
 refine Ok.andThen (A := λ s => s = ((0 : Int), (20 : Int), d, b.An, b.Ag, b.Ac, b.Ae, b.Phase, b.Aq)) (B := λ (_ : Unit) => False) ?_ (λ s hs => ?_) (λ _ h => h.elim)
 ·refine Ok.whileN (λ s => s = ((0 : Int), (20 : Int), d, b.An, b.Ag, b.Ac, b.Ae, b.Phase, b.Aq)) (λ _ => 0) _ _ rfl (by omega) ?_
  intro s hs
  subst hs
  unfold N5
  dsimp only
  refine Ok.cond (λ hq => ?_) (λ _ => Ok.brk rfl)
  simp only [decide_eq_true_eq] at hq
  omega
 ·subst hs
  dsimp only
  refine Ok.bind (P := λ y => Srt b b.Ae.length b.Ae.length y.1) ?_ λ y hy => ?_
  ·unfold Uu
   have e1 : w64 (0 + 1) = 1 := by rw [Bb (by omega)]; rfl
   rw [e1]
   refine Ok.andThen (A := λ s => Srt b b.Ae.length b.Ae.length s.2) (B := λ (_ : Unit) => False) ?_ (λ s hs => Ok.pure hs) (λ _ h => h.elim)
   refine Ok.whileN (λ s => ∃ i : Nat, s.1 = (i : Int) /\ 1 <= i /\ (i <= b.Ae.length \/ b.Ae.length = 0) /\ Srt b b.Ae.length i s.2) (λ s => (100 - s.1).toNat) _ _ ⟨1, rfl, by omega, by omega, ?_⟩ (by dsimp only; omega) ?_
   ·refine ⟨hl, λ k h1 h2 => ?_, λ k m h1 h2 h3 => by omega, λ k h1 h2 => hd.rest k (by omega) h2, hd.mem⟩
    have : k = 0 := by omega
    subst this
    have := hd.rest 0 (Nat.le_refl _) h2
    dsimp only
    rw [this]; omega
   ·rintro ⟨z, d'⟩ ⟨i, hz, h1, h2, hS⟩
    dsimp only at hz hS
    subst hz
    unfold N3
    dsimp only
    refine Ok.cond (λ hq => ?_) (λ hq => Ok.brk ?_)
    ·simp only [decide_eq_true_eq] at hq
     have hin : i < b.Ae.length := by omega
     refine Ok.inner (Axm h hin (hS.ins hin)) (λ s hs => ?_) (λ _ h => h.elim)
     have e2 : w64 ((i : Int) + 1) = ((i + 1 : Nat) : Int) := by rw [Bb (by omega)]; omega
     rw [e2]
     exact Ok.next ⟨⟨i + 1, rfl, by omega, by omega, hs⟩, by dsimp only; omega⟩
    ·simp only [decide_eq_false_iff_not] at hq
     dsimp only
     have hge : b.Ae.length <= i := by omega
     refine ⟨hS.len, λ k g1 g2 => ?_, λ k m g1 g2 g3 => hS.asc k m g1 (by omega) g3, λ k g1 g2 => by omega, hS.mem⟩
     obtain ⟨w1, w2⟩ := hS.low k (by omega) g2
     exact ⟨w1, by omega⟩
  ·refine Ok.andThen (A := λ _ => True) (B := λ (_ : Unit) => False) ?_ (λ s hs => Ok.pure hy) (λ _ h => h.elim)
   refine Ok.whileN (λ _ => True) (λ _ => 0) _ _ trivial (by omega) ?_
   intro s _
   unfold N4
   refine Ok.cond (λ hq => ?_) (λ _ => Ok.brk trivial)
   simp only [decide_eq_true_eq] at hq
   omega
def Mj (b : Aa) : List Int := (Z2 b).getD []
theorem Yg {b : Aa} (h : Ay b) : Z2 b = some (Mj b) /\ Srt b b.Ae.length b.Ae.length (Mj b) := by
 have hcl := h.col
 have key : Ok (Z2 b) λ y => Srt b b.Ae.length b.Ae.length y := by
  unfold Z2
  rw [Aig h]
  simp only [Option.bind_some]
  refine Ok.cond (λ hc => by simp at hc) (λ _ => ?_)
  refine Ok.andThen (A := λ s => s.2 = Cm b.Ae.length) (B := λ (_ : Unit) => False) ?_ (λ s hs => ?_) (λ _ h => h.elim)
  ·refine Ok.whileN (λ s => ∃ i : Nat, s.1 = (i : Int) /\ i <= b.Ae.length /\ s.2 = Cm i) (λ s => (100 - s.1).toNat) _ _ ⟨0, rfl, by omega, rfl⟩ (by dsimp only; omega) ?_
   rintro ⟨z, d⟩ ⟨i, hz, h1, h2⟩
   dsimp only at hz h2
   subst hz
   subst h2
   unfold W5 Aur
   dsimp only
   refine Ok.cond (λ hq => ?_) (λ hq => Ok.brk ?_)
   ·simp only [decide_eq_true_eq] at hq
    refine (Ok.appI (by simp [Cm]; omega)).bind λ y hy => ?_
    have e2 : w64 ((i : Int) + 1) = ((i + 1 : Nat) : Int) := by rw [Bb (by omega)]; omega
    rw [e2]
    refine Ok.next ⟨⟨i + 1, rfl, by omega, ?_⟩, by dsimp only; omega⟩
    dsimp only
    rw [hy]
    unfold Cm
    rw [List.range_succ, List.map_append]; rfl
   ·simp only [decide_eq_false_iff_not] at hq
    have : i = b.Ae.length := by omega
    subst this; rfl
  ·rw [hs]
   refine (A0b h ?_).bind λ y hy => Ok.pure hy
   refine ⟨by simp [Cm], λ k h1 => by omega, λ k m _ h1 => by omega, λ k _ h2 => Ki h2, λ v hv => ⟨v, hv, Ki hv⟩⟩
 obtain ⟨r, e, hr⟩ := key
 have : Mj b = r := by unfold Mj; rw [e]; rfl
 rw [this]
 exact ⟨e, hr⟩
theorem A1w {b : Aa} (h : Ay b) {c : Int} (hc : c ∈ Mj b) : 0 <= c /\ c < b.Ae.length := by
 have hs := (Yg h).2
 obtain ⟨k, hk⟩ := List.mem_iff_getElem?.1 hc
 have hlt := (List.getElem?_eq_some_iff.1 hk).1
 have := hs.low k (by have := hs.len; omega) (by have := hs.len; omega)
 have e : (Mj b).getD k 0 = c := by simp [List.getD, hk]
 rwa [e] at this
theorem Am9 {b : Aa} (h : Ay b) : (Mj b).length = b.Ae.length := (Yg h).2.len
def Sg (L : List Int) (l : List Int) : Int := l.foldl (λ s c => s + L.getD c.toNat 0) 0
theorem Abw (L : List Int) (l : List Int) (c : Int) : Sg L (l ++ [c]) = Sg L l + L.getD c.toNat 0 := by
 unfold Sg; rw [List.foldl_append]; rfl
def Gx (b : Aa) (p : Ab) (n : Nat) : Nat := ((Bd b p).getD n 0).toNat
def G2 (b : Aa) (p : Ab) (n : Nat) : Int := if 0 < (isl b p (Gx b p n)).Ac.length then Sg p.Ar (isl b p (Gx b p n)).Ae else 0
def Aeu (b : Aa) : List Int := b.Ac.map (·.Rating)
def Mg (b : Aa) (p : Ab) (n : Nat) : Int := Sg (Aeu b) (isl b p (Gx b p n)).Ac
theorem A0s {b : Aa} {p : Ab} {f : Nat} {i : Int} (hi : i ∈ (isl b p f).Ae) : 0 <= i /\ i < b.Ae.length := by
 obtain ⟨k, hk, rfl⟩ := List.mem_map.1 hi
 have := List.mem_range.1 (List.mem_filter.1 hk).1
 omega
theorem Ang {b : Aa} {p : Ab} {f : Nat} {i : Int} (hi : i ∈ (isl b p f).Ac) : 0 <= i /\ i < b.Ac.length := by
 obtain ⟨k, hk, rfl⟩ := List.mem_map.1 hi
 have := List.mem_range.1 (List.mem_filter.1 hk).1
 omega
theorem Ag7 {b : Aa} (h : Ay b) {p : Ab} (hp : Aw b p) {c : Int} (h0 : 0 <= c) (h1 : c < b.Ae.length) : getI p.Ar c = some (p.Ar.getD c.toNat 0) /\ 0 <= p.Ar.getD c.toNat 0 /\ p.Ar.getD c.toNat 0 <= (b.Ae.getD c.toNat default).Load /\ p.Ar.getD c.toNat 0 <= 50000 := by
 have hn := hp.nli
 obtain ⟨k, rfl⟩ : ∃ k : Nat, c = (k : Int) := ⟨c.toNat, by omega⟩
 rw [Int.toNat_natCast]
 have hg := Gd (b := b) (i := k) (by omega)
 have hl := hp.lim k _ _ (Anf (p := p) (by omega)) hg
 have hc := (h.co k _ hg).1
 exact ⟨Bj (Anf (by omega)), hl.1, hl.2, by omega⟩
theorem A_2 {b : Aa} {c : Int} (h0 : 0 <= c) (h1 : c < b.Ae.length) : getI b.Ae c = some (b.Ae.getD c.toNat default) := by
 obtain ⟨k, rfl⟩ : ∃ k : Nat, c = (k : Int) := ⟨c.toNat, by omega⟩
 rw [Int.toNat_natCast]
 exact Bj (Gd (by omega))
theorem Wi {b : Aa} (h : Ay b) {p : Ab} (hp : Aw b p) {n : Nat} (hn : n < b.An.toNat) : U1 b p (n : Int) = some (G2 b p n) /\ 0 <= G2 b p n /\ G2 b p n <= 800000 := by
 have hcl := h.col
 have hlen : (isl b p (Gx b p n)).Ae.length <= b.Ae.length := De _ _
 have key : Ok (U1 b p (n : Int)) λ y => y = G2 b p n /\ 0 <= G2 b p n /\ G2 b p n <= 800000 := by
  unfold U1
  have hof : Gh b p (n : Int) = some (isl b p (Gx b p n), true) := of_eq h hp hn
  rw [hof]
  simp only [Option.bind_some]
  refine Ok.andThen (A := λ s => s = G2 b p n /\ 0 <= G2 b p n /\ G2 b p n <= 800000) (B := λ (_ : Unit) => False) ?_ (λ s hs => Ok.pure hs) (λ _ h => h.elim)
  by_cases hs : 0 < (isl b p (Gx b p n)).Ac.length
  ·refine Ok.foldI0 (I := λ j s => s = Sg p.Ar ((isl b p (Gx b p n)).Ae.take j) /\ 0 <= s /\ s <= 50000 * (j : Int)) ⟨rfl, by omega, by omega⟩ (λ j c s hc hI => ?_) λ s hI => ?_
   ·obtain ⟨h1, h2, h3⟩ := hI
    have hj : j < (isl b p (Gx b p n)).Ae.length := (List.getElem?_eq_some_iff.1 hc).1
    have hcm := A0s (List.mem_of_getElem? hc)
    obtain ⟨g1, g2, g3, g4⟩ := Ag7 h hp hcm.1 hcm.2
    unfold Pu
    have e : decide (((isl b p (Gx b p n)).Ac.length : Int) > 0) = true := decide_eq_true (by omega)
    show Ok (bif decide (((isl b p (Gx b p n)).Ac.length : Int) > 0) then _ else _) _
    rw [e, g1]
    simp only [cond_true, Option.bind_some]
    rw [Bb (by omega)]
    refine Ok.next ⟨?_, by omega, by omega⟩
    rw [Bk hc, Abw, h1]
   ·rw [List.take_length] at hI
    have e : G2 b p n = Sg p.Ar (isl b p (Gx b p n)).Ae := by unfold G2; rw [if_pos hs]
    rw [e, ← hI.1]
    exact ⟨rfl, hI.2.1, by omega⟩
  ·have e : G2 b p n = 0 := by unfold G2; rw [if_neg hs]
   rw [e]
   refine Ok.foldI0 (I := λ _ s => s = 0) rfl (λ j c s hc hI => ?_) λ s hI => ⟨hI, by omega, by omega⟩
   unfold Pu
   have e : decide (((isl b p (Gx b p n)).Ac.length : Int) > 0) = false := decide_eq_false (by omega)
   show Ok (bif decide (((isl b p (Gx b p n)).Ac.length : Int) > 0) then _ else _) _
   rw [e]
   exact Ok.next hI
 obtain ⟨r, e, h1, h2⟩ := key
 rw [h1] at e
 exact ⟨e, h2⟩
theorem Nr {b : Aa} (h : Ay b) {p : Ab} (hp : Aw b p) {n : Nat} (hn : n < b.An.toNat) : U2 b p (n : Int) = some (Mg b p n) /\ 0 <= Mg b p n /\ Mg b p n <= 400000 := by
 have hcl := h.sol
 have hlen : (isl b p (Gx b p n)).Ac.length <= b.Ac.length := De _ _
 have key : Ok (U2 b p (n : Int)) λ y => y = Mg b p n /\ 0 <= Mg b p n /\ Mg b p n <= 400000 := by
  unfold U2
  have hof : Gh b p (n : Int) = some (isl b p (Gx b p n), true) := of_eq h hp hn
  rw [hof]
  simp only [Option.bind_some]
  refine Ok.andThen (A := λ s => s = Mg b p n /\ 0 <= Mg b p n /\ Mg b p n <= 400000) (B := λ (_ : Unit) => False) ?_ (λ s hs => Ok.pure hs) (λ _ h => h.elim)
  refine Ok.foldI0 (I := λ j s => s = Sg (Aeu b) ((isl b p (Gx b p n)).Ac.take j) /\ 0 <= s /\ s <= 50000 * (j : Int)) ⟨rfl, by omega, by omega⟩ (λ j c s hc hI => ?_) λ s hI => ?_
  ·obtain ⟨h1, h2, h3⟩ := hI
   have hj : j < (isl b p (Gx b p n)).Ac.length := (List.getElem?_eq_some_iff.1 hc).1
   have hcm := Ang (List.mem_of_getElem? hc)
   unfold W0
   refine (Ok.getI hcm.1 hcm.2).bind λ y hy => ?_
   have hr := (h.so y (List.mem_of_getElem? hy)).1
   have e : (Aeu b).getD c.toNat 0 = y.Rating := by simp [Aeu, List.getD, hy]
   rw [Bb (by omega)]
   refine Ok.next ⟨?_, by omega, by omega⟩
   rw [Bk hc, Abw, h1, e]
  ·rw [List.take_length] at hI
   unfold Mg
   rw [← hI.1]
   exact ⟨rfl, hI.2.1, by omega⟩
 obtain ⟨r, e, h1, h2⟩ := key
 rw [h1] at e
 exact ⟨e, h2⟩
def Mu (b : Aa) (p : Ab) (n : Nat) : Int := max 0 (G2 b p n - Mg b p n)
theorem Ac7 {b : Aa} (h : Ay b) {p : Ab} (hp : Aw b p) (acts : List Ap) {n : Nat} (hn : n < b.An.toNat) : Pr ⟨b, p, acts⟩ (n : Int) = some (Mu b p n) := by
 obtain ⟨h1, h2, h3⟩ := Wi h hp hn
 obtain ⟨h4, h5, h6⟩ := Nr h hp hn
 unfold Pr
 simp only [h1, h4, Option.bind_some]
 rw [Bb (by omega)]; rfl
theorem A05 {b : Aa} (h : Ay b) {p : Ab} (hp : Aw b p) {n : Nat} (hn : n < b.An.toNat) : 0 <= Mu b p n /\ Mu b p n <= 800000 := by
 obtain ⟨h1, h2, h3⟩ := Wi h hp hn
 obtain ⟨h4, h5, h6⟩ := Nr h hp hn
 unfold Mu
 omega
def B3 (p : Ab) (L : List Int) : Ab := ⟨p.Ah, p.Ac, L, p.Ao⟩
def D2 (p : Ab) (C : List Bool) : Ab := ⟨C, p.Ac, p.Ar, p.Ao⟩
def G3 (b : Aa) (p : Ab) (n : Nat) (c : Int) : Int := min (Mu b p n) (p.Ar.getD c.toNat 0 - (b.Ae.getD c.toNat default).Least)
def Ol (b : Aa) (p : Ab) (n : Nat) (z : List Int × List Ap) (c : Int) : List Int × List Ap :=
 if 0 < G3 b (B3 p z.1) n c then (z.1.set c.toNat (z.1.getD c.toNat 0 - G3 b (B3 p z.1) n c), z.2 ++ [⟨5, c, z.1.getD c.toNat 0 - G3 b (B3 p z.1) n c⟩]) else z
def Ij (b : Aa) (p : Ab) (n : Nat) (l : List Int) (z : List Int × List Ap) : List Int × List Ap := l.foldl (Ol b p n) z
theorem Ab0 {b : Aa} {p : Ab} (hp : Aw b p) {c : Nat} {v : Int} (hv : 0 <= v /\ v <= (b.Ae.getD c default).Load) : Aw b (B3 p (p.Ar.set c v)) where
 ncl := hp.ncl
 nso := hp.nso
 nli := by simp [B3, hp.nli]
 run := hp.run
 lim i n x hn hx := by
  simp only [B3, List.getElem?_set] at hn
  by_cases e : c = i
  ·subst e
   have ex : b.Ae.getD c default = x := by simp [List.getD, hx]
   rw [ex] at hv
   rw [if_pos rfl] at hn
   split at hn
   ·cases hn; exact hv
   ·cases hn
  ·rw [if_neg e] at hn
   exact hp.lim i n x hn hx
 one := hp.one
 brk := hp.brk
theorem Ane {b : Aa} (h : Ay b) {p : Ab} {n : Nat} {z : List Int × List Ap} (hz : Aw b (B3 p z.1)) {c : Int} (h0 : 0 <= c) (h1 : c < b.Ae.length) : Aw b (B3 p (Ol b p n z c).1) := by
 unfold Ol
 split
 ·rename_i hl
  obtain ⟨_, g2, g3, _⟩ := Ag7 h hz h0 h1
  have hco := (h.co c.toNat _ (Gd (b := b) (i := c.toNat) (by omega))).2.1
  have hm : G3 b (B3 p z.1) n c <= z.1.getD c.toNat 0 - (b.Ae.getD c.toNat default).Least := Int.min_le_right _ _
  exact Ab0 (p := B3 p z.1) hz (c := c.toNat) ⟨by omega, by
   have : (B3 p z.1).Ar.getD c.toNat 0 = z.1.getD c.toNat 0 := rfl
   omega⟩
 ·exact hz
theorem Ag6 {b : Aa} (h : Ay b) {p : Ab} (hp : Aw b p) {acts : List Ap} {l : List Int} (hl : ∀ c, c ∈ l -> 0 <= c /\ c < b.Ae.length) (ha : acts.length + l.length <= 100000) {n : Nat} (hn : n < b.An.toNat) :
  Pw ⟨b, p, acts⟩ l (n : Int) = some ⟨b, B3 p (Ij b p n l (p.Ar, acts)).1, (Ij b p n l (p.Ar, acts)).2⟩ /\ Aw b (B3 p (Ij b p n l (p.Ar, acts)).1) /\ (Ij b p n l (p.Ar, acts)).2.length <= acts.length + l.length := by
 have key : Ok (Pw ⟨b, p, acts⟩ l (n : Int)) λ y => y = ⟨b, B3 p (Ij b p n l (p.Ar, acts)).1, (Ij b p n l (p.Ar, acts)).2⟩ /\ Aw b (B3 p (Ij b p n l (p.Ar, acts)).1) /\ (Ij b p n l (p.Ar, acts)).2.length <= acts.length + l.length := by
  unfold Pw
  refine Ok.andThen (A := λ s => s = Ij b p n l (p.Ar, acts) /\ Aw b (B3 p s.1) /\ s.2.length <= acts.length + l.length) (B := λ (_ : Unit) => False) ?_ (λ s hs => ?_) (λ _ h => h.elim)
  ·refine Ok.foldI0 (I := λ j s => s = Ij b p n (l.take j) (p.Ar, acts) /\ Aw b (B3 p s.1) /\ s.2.length <= acts.length + j) ⟨rfl, hp, by simp⟩ (λ j c s hc hI => ?_) λ s hI => ?_
   ·obtain ⟨h1, h2, h3⟩ := hI
    have hj : j < l.length := (List.getElem?_eq_some_iff.1 hc).1
    have hin := hl c (List.mem_of_getElem? hc)
    obtain ⟨g1, g2, g3, g4⟩ := Ag7 h h2 hin.1 hin.2
    have hco := (h.co c.toNat _ (Gd (b := b) (i := c.toNat) (by omega))).2.1
    have hcl := (h.co c.toNat _ (Gd (b := b) (i := c.toNat) (by omega))).1
    have hex := A05 h h2 hn
    have hE := Ac7 h h2 s.2 hn
    have hsucc : Ij b p n (l.take (j + 1)) (p.Ar, acts) = Ol b p n s c := by
     rw [Bk hc, h1]; unfold Ij; rw [List.foldl_append]; rfl
    have hok := Ane (n := n) h h2 hin.1 hin.2
    have hless : w64 ((B3 p s.1).Ar.getD c.toNat 0 - (b.Ae.getD c.toNat default).Least) = (B3 p s.1).Ar.getD c.toNat 0 - (b.Ae.getD c.toNat default).Least := Bb (by omega)
    have hlen : s.1.length = b.Ae.length := h2.nli
    unfold N8
    refine Ok.bind (P := λ y => y = Mu b (B3 p s.1) n) (Ok.of_eq hE rfl) λ y hy => ?_
    subst hy
    refine Ok.bind (P := λ y => y = (B3 p s.1).Ar.getD c.toNat 0) (Ok.of_eq g1 rfl) λ y hy => ?_
    subst hy
    refine Ok.bind (P := λ y => y = b.Ae.getD c.toNat default) (Ok.of_eq (A_2 hin.1 hin.2) rfl) λ y hy => ?_
    subst hy
    have em : min (Mu b (B3 p s.1) n) (w64 ((B3 p s.1).Ar.getD c.toNat 0 - (b.Ae.getD c.toNat default).Least)) = G3 b (B3 p s.1) n c := by rw [hless]; rfl
    have hlb : 0 < G3 b (B3 p s.1) n c -> 0 <= (B3 p s.1).Ar.getD c.toNat 0 - G3 b (B3 p s.1) n c /\ (B3 p s.1).Ar.getD c.toNat 0 - G3 b (B3 p s.1) n c <= 50000 := λ hh => by
     have hm : G3 b (B3 p s.1) n c <= (B3 p s.1).Ar.getD c.toNat 0 - (b.Ae.getD c.toNat default).Least := Int.min_le_right _ _
     omega
    refine Ok.cond (λ hq => ?_) (λ hq => ?_)
    ·simp only [Y2, em, decide_eq_true_eq, gt_iff_lt] at hq
     have hb2 := hlb hq
     rw [em, Bb (by omega)]
     have eS : Ol b p n s c = (s.1.set c.toNat (s.1.getD c.toNat 0 - G3 b (B3 p s.1) n c), s.2 ++ [⟨5, c, s.1.getD c.toNat 0 - G3 b (B3 p s.1) n c⟩]) := by unfold Ol; rw [if_pos hq]
     refine (Ok.setI hin.1 (by omega)).bind λ y hy => ?_
     subst hy
     refine Ok.bind (P := λ v => v = s.1.getD c.toNat 0 - G3 b (B3 p s.1) n c) ?_ λ v hv => ?_
     ·refine (Ok.getI hin.1 (by rw [List.length_set]; omega)).mono λ v hv => ?_
      rw [List.getElem?_set_self (by omega)] at hv
      cases hv; rfl
     ·subst hv
      refine (Ok.appI (by simp; omega)).bind λ w hw => Ok.next ?_
      subst hw
      rw [hsucc, eS]
      rw [eS] at hok
      exact ⟨rfl, hok, by simp; omega⟩
    ·simp only [Y2, em, decide_eq_false_iff_not, gt_iff_lt] at hq
     have eS : Ol b p n s c = s := by unfold Ol; rw [if_neg hq]
     refine Ok.next ?_
     rw [hsucc, eS]
     exact ⟨rfl, h2, by show s.2.length <= _; omega⟩
   ·rw [List.take_length] at hI
    exact hI
  ·obtain ⟨h1, h2, h3⟩ := hs
   subst h1
   exact Ok.pure ⟨rfl, h2, h3⟩
 obtain ⟨r, e, h1, h2⟩ := key
 rw [h1] at e
 exact ⟨e, h2⟩
def isC (c : Int) (x : Ak) : Bool := x.Kind == 3 && x.B == c
theorem Arz {b : Aa} (h : Ay b) {p : Ab} (hp : Aw b p) {acts : List Ap} (ha : acts.length <= 100000) (c : Int) : U7 ⟨b, p, acts⟩ c = some (⟨b, D2 p (acC b p.Ah (isC c)), acts ++ acA b p.Ah (isC c)⟩, c) := by
 have hbl := h.brl
 have hnc := hp.ncl
 refine Ok.eq ?_
 unfold U7
 refine Ok.andThen (A := λ s => s = C8 b p.Ah (isC c) b.Ag.length) (B := λ (_ : Unit) => False) ?_ (λ s hs => ?_) (λ _ h => h.elim)
 ·refine Ok.foldI0 (I := λ j s => s = C8 b p.Ah (isC c) j) rfl (λ j x s hx hs => ?_) λ s hs => hs
  have hj : j < b.Ag.length := (List.getElem?_eq_some_iff.1 hx).1
  have hfl := Gc b p.Ah (isC c) j
  have hfs := Q5 (C := p.Ah) (q := isC c) hx
  subst hs
  unfold N_
  rw [Cq (by omega), Bj (Ua hp hj)]
  simp only [Option.bind_some]
  have e : Uv x c = isC c x := rfl
  rw [e, hfs]
  cases (p.Ah.getD j false && isC c x) with
  | false => refine Ok.next ?_; simp
  | true =>
   refine Ok.bind (P := λ y => y = C8 b p.Ah (isC c) j ++ [(j : Int)]) (Ok.appI (by simp; omega)) λ y hy => Ok.next ?_
   rw [hy]; simp
 ·subst hs
  have hfl := Gc b p.Ah (isC c) b.Ag.length
  refine Ok.andThen (Yh (b := b) (p := p) (acts := acts) (l := C8 b p.Ah (isC c) b.Ag.length) (by omega) λ i hi => ?_) (λ s hs => ?_) (λ _ h => h.elim)
  ·obtain ⟨k, rfl, hk, _⟩ := Lm.1 hi
   omega
  ·subst hs
   exact Ok.pure rfl
def M_ (b : Aa) (p : Ab) (n : Nat) (z : List Bool × List Ap) (c : Int) : List Bool × List Ap :=
 if 0 < p.Ar.getD c.toNat 0 /\ 0 < Mu b (D2 p z.1) n then (acC b z.1 (isC c), z.2 ++ acA b z.1 (isC c)) else z
def Fr (b : Aa) (p : Ab) (n : Nat) (l : List Int) (z : List Bool × List Ap) : List Bool × List Ap := l.foldl (M_ b p n) z
theorem Al0 {b : Aa} (h : Ay b) {p : Ab} (hp : Aw b p) {acts : List Ap} {l : List Int} (hl : ∀ c, c ∈ l -> 0 <= c /\ c < b.Ae.length) (ha : acts.length + 24 * l.length <= 100000) {n : Nat} (hn : n < b.An.toNat) :
  Pv ⟨b, p, acts⟩ l (n : Int) = some ⟨b, D2 p (Fr b p n l (p.Ah, acts)).1, (Fr b p n l (p.Ah, acts)).2⟩ /\ Aw b (D2 p (Fr b p n l (p.Ah, acts)).1) /\ (Fr b p n l (p.Ah, acts)).2.length <= acts.length + 24 * l.length := by
 have hbl := h.brl
 have key : Ok (Pv ⟨b, p, acts⟩ l (n : Int)) λ y => y = ⟨b, D2 p (Fr b p n l (p.Ah, acts)).1, (Fr b p n l (p.Ah, acts)).2⟩ /\ Aw b (D2 p (Fr b p n l (p.Ah, acts)).1) /\ (Fr b p n l (p.Ah, acts)).2.length <= acts.length + 24 * l.length := by
  unfold Pv
  refine Ok.andThen (A := λ s => ∃ z : List Bool × List Ap, s = (b.An, b.Ag, b.Ac, b.Ae, b.Phase, b.Aq, z.1, p.Ac, p.Ar, p.Ao, z.2) /\ z = Fr b p n l (p.Ah, acts) /\ Aw b (D2 p z.1) /\ z.2.length <= acts.length + 24 * l.length) (B := λ (_ : Unit) => False) ?_ (λ s hs => ?_) (λ _ h => h.elim)
  ·refine Ok.foldI0 (I := λ j s => ∃ z : List Bool × List Ap, s = (b.An, b.Ag, b.Ac, b.Ae, b.Phase, b.Aq, z.1, p.Ac, p.Ar, p.Ao, z.2) /\ z = Fr b p n (l.take j) (p.Ah, acts) /\ Aw b (D2 p z.1) /\ z.2.length <= acts.length + 24 * j) ⟨(p.Ah, acts), rfl, rfl, hp, by simp⟩ (λ j c s hc hI => ?_) λ s hI => ?_
   ·obtain ⟨z, h0, h1, h2, h3⟩ := hI
    subst h0
    have hj : j < l.length := (List.getElem?_eq_some_iff.1 hc).1
    have hin := hl c (List.mem_of_getElem? hc)
    obtain ⟨g1, g2, g3, g4⟩ := Ag7 h hp hin.1 hin.2
    have hE := Ac7 h h2 z.2 hn
    have hsucc : Fr b p n (l.take (j + 1)) (p.Ah, acts) = M_ b p n z c := by
     rw [Bk hc, h1]; unfold Fr; rw [List.foldl_append]; rfl
    unfold N7
    refine Ok.bind (P := λ y => y = p.Ar.getD c.toNat 0) (Ok.of_eq g1 rfl) λ y hy => ?_
    subst hy
    have stay : ¬ (0 < p.Ar.getD c.toNat 0 /\ 0 < Mu b (D2 p z.1) n) -> ∃ w : List Bool × List Ap, (b.An, b.Ag, b.Ac, b.Ae, b.Phase, b.Aq, z.1, p.Ac, p.Ar, p.Ao, z.2) = (b.An, b.Ag, b.Ac, b.Ae, b.Phase, b.Aq, w.1, p.Ac, p.Ar, p.Ao, w.2) /\ w = Fr b p n (l.take (j + 1)) (p.Ah, acts) /\ Aw b (D2 p w.1) /\ w.2.length <= acts.length + 24 * (j + 1) := λ hh => by
     have eS : M_ b p n z c = z := by unfold M_; rw [if_neg hh]
     exact ⟨z, rfl, by rw [hsucc, eS], h2, by omega⟩
    cases hq : decide (p.Ar.getD c.toNat 0 > 0) with
    | false =>
     simp only [decide_eq_false_iff_not] at hq
     exact Ok.next (stay λ hh => hq hh.1)
    | true =>
     simp only [decide_eq_true_eq] at hq
     refine Ok.bind (P := λ y => y = Mu b (D2 p z.1) n) (Ok.of_eq hE rfl) λ y hy => ?_
     subst hy
     cases hq2 : decide (Mu b (D2 p z.1) n > 0) with
     | false =>
      simp only [decide_eq_false_iff_not] at hq2
      exact Ok.next (stay λ hh => hq2 hh.2)
     | true =>
      simp only [decide_eq_true_eq] at hq2
      have hS := Arz h h2 (acts := z.2) (by omega) c
      refine Ok.bind (P := λ y => y = _) (Ok.of_eq hS rfl) λ y hy => Ok.next ?_
      subst hy
      have eS : M_ b p n z c = (acC b z.1 (isC c), z.2 ++ acA b z.1 (isC c)) := by unfold M_; rw [if_pos ⟨hq, hq2⟩]
      refine ⟨(acC b z.1 (isC c), z.2 ++ acA b z.1 (isC c)), rfl, by rw [hsucc, eS], Ai2 h2 (isC c), ?_⟩
      have := Ws b z.1 (isC c)
      show (z.2 ++ acA b z.1 (isC c)).length <= _
      rw [List.length_append]; omega
   ·rw [List.take_length] at hI
    exact hI
  ·obtain ⟨z, h0, h1, h2, h3⟩ := hs
   subst h0; subst h1
   exact Ok.pure ⟨rfl, h2, h3⟩
 obtain ⟨r, e, h1, h2⟩ := key
 rw [h1] at e
 exact ⟨e, h2⟩
def Hq (x : Ai) (c : Int) : Bool := x.Ae.any (c == ·)
theorem Ay6 {x : Ai} (hx : x.Ae.length <= 1000) (c : Int) : Px c x = some (!Hq x c) := by
 unfold Px
 rw [Dt _ _ (by omega)]; rfl
theorem Adc {x : Ai} (hx : x.Ae.length <= 1000) : ∀ (l : List Int) (k : Nat), foldI (Kz x) l k () = match l.findIdx? λ c => !Hq x c with
  | some j => some (.ret (cnt 0 (k + j), x))
  | none => some (.next ())
 | [], _ => rfl
 | c :: l, k => by
  simp only [foldI, Kz, Ay6 hx, Option.bind_some, List.findIdx?_cons]
  cases hq : (!Hq x c) with
  | true => rfl
  | false =>
   simp only [cond_false, Bool.false_eq_true, if_false]
   rw [Adc hx l (k + 1)]
   cases l.findIdx? λ c => !Hq x c with
   | none => rfl
   | some j =>
    have e : k + 1 + j = k + (j + 1) := by omega
    simp only [Option.map_some, e]
theorem A08 {x : Ai} (hx : x.Ae.length <= 1000) (l : List Int) (hl : l.length <= 1000) : U3 l x = some (l.filter (Hq x), x) := by
 refine Ok.eq ?_
 unfold U3 yJ
 rw [Adc hx]
 cases hf : l.findIdx? λ c => !Hq x c with
 | none =>
  rw [List.findIdx?_eq_none_iff] at hf
  refine Ok.pure ?_
  have : l.filter (Hq x) = l := by
   rw [List.filter_eq_self]
   intro c hc
   have := hf c hc
   simpa using this
  rw [this]
 | some i =>
  rw [List.findIdx?_eq_some_iff_getElem] at hf
  obtain ⟨hi, hp, hn⟩ := hf
  have e0 : cnt 0 (0 + i) = (i : Int) := by rw [Nat.zero_add]; exact Cq (by omega)
  simp only [e0, andThen, Option.bind_some]
  refine Ok.cond (λ hc => ?_) (λ _ => ?_)
  ·simp only [beq_iff_eq] at hc; omega
  have e1 : w64 ((i : Int) + 1) = (i : Int) + 1 := Bb (by omega)
  rw [e1]
  refine Ok.andThen (A := λ s => 0 <= s.1 /\ s.1 <= (l.length : Int) /\ s.2.2.length = l.length /\ s.2.2.take s.1.toNat = l.filter (Hq x)) (B := λ (_ : Unit) => False) ?_ ?_ (λ _ h => h.elim)
  ·refine Ok.whileN (λ s => (0 <= s.1 /\ s.1 < s.2.1 /\ s.2.1 <= (l.length : Int)) /\ s.2.2.length = l.length /\ s.2.2.take s.1.toNat = (l.take s.2.1.toNat).filter (Hq x) /\ s.2.2.drop s.2.1.toNat = l.drop s.2.1.toNat) (λ s => ((l.length : Int) - s.2.1).toNat) _ _ ?_ ?_ ?_
   ·refine ⟨by dsimp only; omega, rfl, ?_, rfl⟩
    dsimp only
    have e2 : ((i : Int) + 1).toNat = i + 1 := by omega
    rw [e2, Int.toNat_natCast, Bk (List.getElem?_eq_getElem hi), List.filter_append]
    have h1 : (l.take i).filter (Hq x) = l.take i := by
     rw [List.filter_eq_self]
     intro c hc
     obtain ⟨j, hj, rfl⟩ := List.getElem_of_mem hc
     simp only [List.length_take] at hj
     rw [List.getElem_take]
     have := hn j (by omega)
     simpa using this
    have h2 : Hq x l[i] = false := by simpa using hp
    rw [h1]
    simp [h2]
   ·dsimp only; omega
   ·rintro ⟨a, j, m⟩ ⟨⟨h1, h2, h3⟩, h4, h5, h6⟩
    dsimp only at h1 h2 h3 h4 h5 h6
    unfold N9 Aii
    dsimp only
    refine Ok.cond (λ hq => ?_) (λ hq => ?_)
    ·simp only [decide_eq_true_eq] at hq
     have e1 : w64 (j + 1) = j + 1 := Bb (by omega)
     have e2 : w64 (a + 1) = a + 1 := Bb (by omega)
     have e3 : (j + 1).toNat = j.toNat + 1 := by omega
     have e4 : (a + 1).toNat = a.toNat + 1 := by omega
     refine (Ok.getI (by omega) (by omega)).bind λ y hy => ?_
     have hyl : l[j.toNat]? = some y := by
      have := congrArg (·[0]?) h6
      simp only [List.getElem?_drop, Nat.add_zero] at this
      rw [← this]; exact hy
     have hdrop : ∀ (q : List Int), q.drop j.toNat = l.drop j.toNat -> q.drop (j.toNat + 1) = l.drop (j.toNat + 1) := λ q hq => by
      rw [← List.drop_drop, hq, List.drop_drop]
     rw [Ay6 hx]
     simp only [Option.bind_some, Bool.not_not]
     refine Ok.cond (λ hf => ?_) (λ hf => ?_)
     ·refine (Ok.getI (by omega) (by omega)).bind λ _ _ => (Ok.setI (by omega) (by omega)).bind λ z hz => ?_
      rw [e1, e2]
      subst hz
      refine Ok.next ⟨⟨by dsimp only; omega, by simpa using h4, ?_, ?_⟩, by dsimp only; omega⟩
      ·dsimp only
       rw [e3, e4, Bk hyl, List.filter_append, ← h5]
       rw [Bk (x := y) (by rw [List.getElem?_set_self (by omega)])]
       simp [hf, List.take_set_of_le]
      ·dsimp only
       rw [e3, List.drop_set_of_lt (by omega)]
       exact hdrop m h6
     ·rw [e1]
      refine Ok.next ⟨⟨by dsimp only; omega, h4, ?_, ?_⟩, by dsimp only; omega⟩
      ·dsimp only
       rw [e3, Bk hyl, List.filter_append, ← h5]
       simp [hf]
      ·dsimp only
       rw [e3]; exact hdrop m h6
    ·simp only [decide_eq_false_iff_not] at hq
     have e : j.toNat = l.length := by omega
     refine Ok.brk ⟨h1, by dsimp only; omega, h4, ?_⟩
     dsimp only
     rw [h5, e, List.take_length]
  ·rintro ⟨a, j, m⟩ ⟨h1, h2, h3, h4⟩
   dsimp only at h1 h2 h3 h4 ⊢
   have hc : (Ge m a.toNat ((Int.toNat (m.length : Int)) - a.toNat) (0 : Int)).length = l.length := by
    simp [Ge]; omega
   refine (Ok.bndI h1 (by omega) (by omega)).bind λ _ _ => (Ok.bndI (by omega) h1 (by rw [hc]; omega)).bind λ _ _ => Ok.pure ?_
   rw [← h4]
   unfold Ge
   rw [Nat.sub_zero, List.take_append_of_le_length (by simp; omega), List.take_take, Nat.min_self]
def Ii (b : Aa) (x : Ai) : List Int := (Mj b).filter (Hq x)
theorem O6 {b : Aa} (h : Ay b) {x : Ai} {c : Int} (hc : c ∈ Ii b x) : 0 <= c /\ c < b.Ae.length := A1w h (List.mem_filter.1 hc).1
theorem Agu {b : Aa} (h : Ay b) (x : Ai) : (Ii b x).length <= 16 := by
 have h1 := List.length_filter_le (Hq x) (Mj b)
 have h2 := Am9 h
 have h3 := h.col
 unfold Ii; omega
def Uc (x : Ai) : Nat := (x.An.headD 0).toNat
def H5 (b : Aa) (x : Ai) (z : Ab × List Ap) : List Int × List Ap := Ij b z.1 (Uc x) (Ii b x) (z.1.Ar, z.2)
def Qn (b : Aa) (x : Ai) (z : Ab × List Ap) : List Bool × List Ap := Fr b (B3 z.1 (H5 b x z).1) (Uc x) (Ii b x) (z.1.Ah, (H5 b x z).2)
def Mf (b : Aa) (z : Ab × List Ap) (x : Ai) : Ab × List Ap :=
 if 0 < x.Ac.length then (D2 (B3 z.1 (H5 b x z).1) (Qn b x z).1, (Qn b x z).2) else z
def I4 (b : Aa) (l : List Ai) (z : Ab × List Ap) : Ab × List Ap := l.foldl (Mf b) z
structure Afg (b : Aa) (x : Ai) : Prop where
 cons : x.Ae.length <= 16
 ne : x.An ≠ []
 bus : ∀ n, n ∈ x.An -> 0 <= n /\ n < b.An
theorem Ahf {b : Aa} (h : Ay b) {p : Ab} {x : Ai} (hx : x ∈ Bq b p) : Afg b x := by
 have hcl := h.col
 unfold Bq at hx
 obtain ⟨h1, h2⟩ := List.mem_filter.1 hx
 obtain ⟨f, hf, rfl⟩ := List.mem_map.1 h1
 have hc : (isl b p f).Ae.length <= b.Ae.length := De _ _
 refine ⟨by omega, λ e => ?_, λ n hn => ?_⟩
 ·unfold Il at h2
  rw [e] at h2; simp at h2
 ·obtain ⟨k, hk, rfl⟩ := List.mem_map.1 hn
  have := List.mem_range.1 (List.mem_filter.1 hk).1
  omega
theorem Y4 {b : Aa} {x : Ai} (hx : Afg b x) : getI x.An 0 = some ((Uc x : Nat) : Int) /\ Uc x < b.An.toNat := by
 unfold Uc
 cases hb : x.An with
 | nil => exact absurd hb hx.ne
 | cons n l =>
  have := hx.bus n (by rw [hb]; exact List.mem_cons_self)
  simp only [List.headD_cons]
  refine ⟨?_, by omega⟩
  have e : (n.toNat : Int) = n := by omega
  rw [e]; rfl
theorem A0d {b : Aa} (h : Ay b) {p : Ab} (hp : Aw b p) {acts : List Ap} (ha : acts.length <= 1000) :
  Pz ⟨b, p, acts⟩ = some ⟨b, (I4 b (Bq b p) (p, acts)).1, (I4 b (Bq b p) (p, acts)).2⟩ /\ Aw b (I4 b (Bq b p) (p, acts)).1 /\ (I4 b (Bq b p) (p, acts)).2.length <= 10000 := by
 have hil := Hr b p
 have hbu := h.buses
 have hcl := h.col
 have hol := Am9 h
 have key : Ok (Pz ⟨b, p, acts⟩) λ y => y = ⟨b, (I4 b (Bq b p) (p, acts)).1, (I4 b (Bq b p) (p, acts)).2⟩ /\ Aw b (I4 b (Bq b p) (p, acts)).1 /\ (I4 b (Bq b p) (p, acts)).2.length <= 10000 := by
  unfold Pz
  simp only [(Yg h).1, Option.bind_some]
  have hi : F89 b p = some (Bq b p) := Hs h hp
  refine Ok.bind (P := λ y => y = Bq b p) (Ok.of_eq hi rfl) λ y hy => ?_
  subst hy
  refine Ok.andThen (A := λ s => ∃ z : Ab × List Ap, s = (b.An, b.Ag, b.Ac, b.Ae, b.Phase, b.Aq, z.1.Ah, z.1.Ac, z.1.Ar, z.1.Ao, z.2) /\ z = I4 b (Bq b p) (p, acts) /\ Aw b z.1 /\ z.2.length <= 10000) (B := λ (_ : Unit) => False) ?_ (λ s hs => ?_) (λ _ h => h.elim)
  ·refine Ok.foldI0 (I := λ j s => ∃ z : Ab × List Ap, s = (b.An, b.Ag, b.Ac, b.Ae, b.Phase, b.Aq, z.1.Ah, z.1.Ac, z.1.Ar, z.1.Ao, z.2) /\ z = I4 b ((Bq b p).take j) (p, acts) /\ Aw b z.1 /\ z.2.length <= 1000 + 400 * j) ⟨(p, acts), rfl, rfl, hp, by simpa using ha⟩ (λ j x s hx hI => ?_) λ s hI => ?_
   ·obtain ⟨z, h0, h1, h2, h3⟩ := hI
    subst h0
    have hj : j < (Bq b p).length := (List.getElem?_eq_some_iff.1 hx).1
    have hin := Ahf h (List.mem_of_getElem? hx)
    have hsucc : I4 b ((Bq b p).take (j + 1)) (p, acts) = Mf b z x := by
     rw [Bk hx, h1]; unfold I4; rw [List.foldl_append]; rfl
    have hc := hin.cons
    have hol2 := Agu h x
    obtain ⟨e0, hb0⟩ := Y4 hin
    unfold Od
    have ecl : Z4 (Mj b) = some (Mj b) := by
     unfold Z4
     rw [Lc (by omega)]
    rw [ecl]
    simp only [Option.bind_some]
    rw [A08 (by omega) _ (by omega)]
    simp only [Option.bind_some]
    refine Ok.cond (λ hq => ?_) (λ hq => ?_)
    ·simp only [decide_eq_true_eq] at hq
     rw [e0]
     simp only [Option.bind_some]
     obtain ⟨l1, l2, l3⟩ := Ag6 h h2 (acts := z.2) (l := Ii b x) (λ c hc => O6 h hc) (by omega) hb0
     refine Ok.bind (P := λ y => y = _) (Ok.of_eq l1 rfl) λ y hy => ?_
     subst hy
     obtain ⟨t1, t2, t3⟩ := Al0 h l2 (acts := (H5 b x z).2) (l := Ii b x) (λ c hc => O6 h hc) (by unfold H5; omega) hb0
     refine Ok.bind (P := λ y => y = _) (Ok.of_eq t1 rfl) λ y hy => Ok.next ?_
     subst hy
     have eS : Mf b z x = (D2 (B3 z.1 (H5 b x z).1) (Qn b x z).1, (Qn b x z).2) := by unfold Mf; rw [if_pos (by omega)]
     refine ⟨(D2 (B3 z.1 (H5 b x z).1) (Qn b x z).1, (Qn b x z).2), rfl, by rw [hsucc, eS], t2, ?_⟩
     have t4 : (Qn b x z).2.length <= (H5 b x z).2.length + 24 * (Ii b x).length := t3
     have l4 : (H5 b x z).2.length <= z.2.length + (Ii b x).length := l3
     show (Qn b x z).2.length <= _
     omega
    ·simp only [decide_eq_false_iff_not] at hq
     have eS : Mf b z x = z := by unfold Mf; rw [if_neg (by omega)]
     exact Ok.next ⟨z, rfl, by rw [hsucc, eS], h2, by omega⟩
   ·rw [List.take_length] at hI
    obtain ⟨z, h0, h1, h2, h3⟩ := hI
    exact ⟨z, h0, h1, h2, by omega⟩
  ·obtain ⟨z, h0, h1, h2, h3⟩ := hs
   subst h0; subst h1
   exact Ok.pure ⟨rfl, h2, h3⟩
 obtain ⟨r, e, h1, h2⟩ := key
 rw [h1] at e
 exact ⟨e, h2⟩
def A1v (b : Aa) (p : Ab) : Ab × List Ap := I4 b (Bq b (T9 b p)) (T9 b p, Y0 b p)
def Ye (b : Aa) (p : Ab) : Ab := (A1v b p).1
def Ek (b : Aa) (p : Ab) : List Ap := (A1v b p).2
theorem Lh {b : Aa} (h : Ay b) {p : Ab} (hp : Aw b p) : Ak4 b p = some (Ye b p, Ek b p, 0) /\ Aw b (Ye b p) /\ (Ek b p).length <= 10000 := by
 have hbl := h.brl
 have hcl := Aif b p
 obtain ⟨s1, s2, s3⟩ := A0d h (Anl hp) (acts := Y0 b p) (by omega)
 refine ⟨?_, s2, s3⟩
 unfold Ak4 yI yH
 rw [Db h hp, Dy h hp]
 simp only [Option.bind_some, bne_self_eq_false, cond_false]
 rw [Ax4 h hp]
 simp only [Option.bind_some]
 rw [s1]
 rfl
theorem A1z (b : Aa) : Abn b ⟨7, 0, 0⟩ = some true := rfl
theorem Aiz {b : Aa} (h : Ay b) {p : A0} (hp : Aw b p.Power) (h1 : p.A5.length <= 1000) (h2 : p.A7.length <= 10000000) : F63 b p = some ⟨p, b, [], []⟩ := by
 unfold F63 Arq F84
 rw [Dy h hp, Lc (by omega), Lc (by omega)]
 rfl
theorem A0r {b : Aa} (h : Ay b) {r : A4} {p : Ab} (hp : Aw b p) (h1 : r.states.length <= 10000000) : vF r p = some ⟨r.Av, r.Al, r.events, r.states ++ [p]⟩ := by
 refine Ok.eq ?_
 unfold vF
 rw [Dy h hp]
 simp only [Option.bind_some]
 exact (Ok.appI (by simp; omega)).bind λ s hs => Ok.pure (by rw [hs])
theorem Axc {b : Aa} (h : Ay b) {r : A4} {p : Ab} (hp : Aw b r.Av.Power) (h1 : r.states.length <= 10000000) : vE r p = some ⟨r.Av, r.Al, r.events, r.states ++ [r.Av.Power]⟩ := by
 refine Ok.eq ?_
 unfold vE
 rw [Dy h hp]
 simp only [Option.bind_some]
 exact (Ok.appI (by simp; omega)).bind λ s hs => Ok.pure (by rw [hs])
theorem A1t : F13 = some true := by kernel_rfl
theorem Nx {α : Type} {f : Nat -> α -> Unit -> Option (Ctl Unit Bool)} {l m : List α} {e : α -> α -> Bool} (he : ∀ x y, e x y = true -> x = y)
  (hf : ∀ (j : Nat) x y, l[j]? = some x -> m[j]? = some y -> f j x () = bif !e x y then some (.ret false) else some (.next ())) (hl : l.length = m.length) :
  Ok (andThen (foldI f l 0 ()) some λ _ => some true) λ v => v = true -> l = m := by
 refine Ok.andThen (A := λ _ => l = m) (B := λ v => v = false) ?_ (λ _ hs => Ok.pure λ _ => hs) (λ v hv => Ok.pure λ hh => by rw [hv] at hh; cases hh)
 refine Ok.foldI0 (I := λ j _ => l.take j = m.take j) rfl (λ j x _ hx hI => ?_) λ _ hI => ?_
 ·have hj := (List.getElem?_eq_some_iff.1 hx).1
  have hy : m[j]? = some (m[j]'(by omega)) := List.getElem?_eq_getElem (by omega)
  rw [hf j x _ hx hy]
  refine Ok.cond (λ _ => Ok.ret rfl) (λ hq => Ok.next ?_)
  have := he _ _ (by simpa using hq)
  rw [Bk hx, Bk hy, hI, ← this]
 ·rw [List.take_length] at hI
  rw [hI, hl, List.take_length]
theorem A3s {l m : List Bool} (h : l.length <= 1000) : Ok (jA l m) λ v => v = true -> l = m := by
 unfold jA
 refine Ok.cond (λ _ => Ok.pure λ hh => by cases hh) (λ hq => ?_)
 have hl : l.length = m.length := by simp only [bne_eq_false_iff_eq] at hq; omega
 refine Nx (e := λ x y => x == y) (λ x y hh => by simpa using hh) (λ j x y hx hy => ?_) hl
 have hj := (List.getElem?_eq_some_iff.1 hx).1
 unfold P9
 rw [Cq (by omega), Bj hy]; rfl
theorem A3r {l m : List Int} (h : l.length <= 1000) : Ok (Z9 l m) λ v => v = true -> l = m := by
 unfold Z9
 refine Ok.cond (λ _ => Ok.pure λ hh => by cases hh) (λ hq => ?_)
 have hl : l.length = m.length := by simp only [bne_eq_false_iff_eq] at hq; omega
 refine Nx (e := λ x y => x == y) (λ x y hh => by simpa using hh) (λ j x y hx hy => ?_) hl
 have hj := (List.getElem?_eq_some_iff.1 hx).1
 unfold P7
 rw [Cq (by omega), Bj hy]; rfl
theorem A3p {l m : List Af} (h : l.length <= 1000) : Ok (Z_ l m) λ v => v = true -> l = m := by
 unfold Z_
 refine Ok.cond (λ _ => Ok.pure λ hh => by cases hh) (λ hq => ?_)
 have hl : l.length = m.length := by simp only [bne_eq_false_iff_eq] at hq; omega
 refine Nx (e := λ x y => (x.State == y.State) && ((x.Since == y.Since) && ((x.Aq == y.Aq) && ((x.Phase == y.Phase) && true)))) (λ x y hh => ?_) (λ j x y hx hy => ?_) hl
 ·simp only [Bool.and_eq_true, beq_iff_eq] at hh
  obtain ⟨h1, h2, h3, h4, _⟩ := hh
  cases x; cases y; simp_all
 ·have hj := (List.getElem?_eq_some_iff.1 hx).1
  unfold P8
  rw [Cq (by omega), Bj hy]; rfl
theorem A3q {l m : List Am} (h : l.length <= 1000) : Ok (Z8 l m) λ v => v = true -> l = m := by
 unfold Z8
 refine Ok.cond (λ _ => Ok.pure λ hh => by cases hh) (λ hq => ?_)
 have hl : l.length = m.length := by simp only [bne_eq_false_iff_eq] at hq; omega
 refine Nx (e := λ x y => (x.Kind == y.Kind) && ((x.Number == y.Number) && true)) (λ x y hh => ?_) (λ j x y hx hy => ?_) hl
 ·simp only [Bool.and_eq_true, beq_iff_eq] at hh
  obtain ⟨h1, h2, _⟩ := hh
  cases x; cases y; simp_all
 ·have hj := (List.getElem?_eq_some_iff.1 hx).1
  unfold P6
  rw [Cq (by omega), Bj hy]; rfl
def J5 (p q : Ab) : Bool := (F60 p q).getD false
theorem A0e {p : Ab} (hp : Aq7 p) (q : Ab) : F60 p q = some (J5 p q) /\ (J5 p q = true -> p = q) := by
 have h1 := hp.c
 have h2 := hp.s
 have h3 := hp.l
 have h4 := hp.k
 have key : Ok (F60 p q) λ v => v = true -> p = q := by
  unfold F60
  refine (A3s (l := p.Ah) (m := q.Ah) (by omega)).bind λ v1 e1 => ?_
  cases v1 with
  | false => exact Ok.pure λ hh => by simp at hh
  | true =>
   refine Ok.bind (P := λ v => v = true -> p.Ac = q.Ac) (A3p (by omega)) λ v2 e2 => ?_
   cases v2 with
   | false => exact Ok.pure λ hh => by simp at hh
   | true =>
    refine Ok.bind (P := λ v => v = true -> p.Ar = q.Ar) (A3r (by omega)) λ v3 e3 => ?_
    cases v3 with
    | false => exact Ok.pure λ hh => by simp at hh
    | true =>
     refine Ok.bind (P := λ v => v = true -> p.Ao = q.Ao) (A3q (by omega)) λ v4 e4 => Ok.pure λ hh => ?_
     have w1 := e1 rfl
     have w2 := e2 rfl
     have w3 := e3 rfl
     have w4 := e4 (by simpa using hh)
     cases p; cases q; simp_all
 obtain ⟨r, e, hr⟩ := key
 have : J5 p q = r := by unfold J5; rw [e]; rfl
 rw [this]
 exact ⟨e, hr⟩
def ap (p : Ab) (x : Ap) : Ab := if x.Kind = 2 then D2 p (p.Ah.set x.Unit.toNat false) else B3 p (p.Ar.set x.Unit.toNat x.Value)
def Aru (b : Aa) (x : Ap) : Prop := (x.Kind = 2 /\ 0 <= x.Unit /\ x.Unit < b.Ag.length) \/ (x.Kind = 5 /\ (0 <= x.Unit /\ x.Unit < b.Ae.length) /\ 0 <= x.Value /\ x.Value <= (b.Ae.getD x.Unit.toNat default).Load)
theorem Az0 {b : Aa} {p : Ab} (hp : Aw b p) {x : Ap} (hx : Aru b x) : Aw b (ap p x) := by
 unfold ap
 rcases hx with ⟨hk, _⟩ | ⟨hk, h1, h2⟩
 ·rw [if_pos hk]; exact Apb hp _
 ·rw [if_neg (by omega)]; exact Ab0 hp h2
def Ei (b : Aa) (p : Ab) (z : Ab × List Ap) : Prop := z.2.foldl ap p = ⟨z.1.Ah, p.Ac, z.1.Ar, p.Ao⟩ /\ ∀ x, x ∈ z.2 -> Aru b x
theorem Ai1 {p q : Ab} : ∀ (l : List Int) (C : List Bool), q = D2 p C -> (Li l).foldl ap q = D2 p (H9 C l)
 | [], C, hq => hq
 | i :: l, C, hq => by
  subst hq
  exact Ai1 l (C.set i.toNat false) rfl
theorem yO {b : Aa} {p : Ab} {z : Ab × List Ap} (hz : Ei b p z) (q : Ak -> Bool) (S : List Af) : Ei b p (⟨acC b z.1.Ah q, S, z.1.Ar, z.1.Ao⟩, z.2 ++ acA b z.1.Ah q) := by
 refine ⟨?_, λ x hx => ?_⟩
 ·dsimp only
  rw [List.foldl_append, hz.1]
  exact Ai1 (p := ⟨z.1.Ah, p.Ac, z.1.Ar, p.Ao⟩) (C8 b z.1.Ah q b.Ag.length) z.1.Ah rfl
 ·rcases List.mem_append.1 hx with hx | hx
  ·exact hz.2 x hx
  ·obtain ⟨i, hi, rfl⟩ := List.mem_map.1 hx
   obtain ⟨k, rfl, hk, _⟩ := Lm.1 hi
   exact .inl ⟨rfl, by dsimp only; omega, by dsimp only; omega⟩
theorem A7v {b : Aa} {p q r : Ab} {l : List Ap} (hz : Ei b p (q, l)) (h1 : r.Ah = q.Ah) (h2 : r.Ar = q.Ar) : Ei b p (r, l) := by
 refine ⟨?_, hz.2⟩
 have := hz.1
 dsimp only at this ⊢
 rw [this, h1, h2]
theorem Ary {b : Aa} (h : Ay b) {p q : Ab} (n : Nat) : ∀ (l : List Int) (z : List Int × List Ap), (∀ c, c ∈ l -> 0 <= c /\ c < b.Ae.length) -> Aw b (B3 q z.1) -> Ei b p (B3 q z.1, z.2) -> Ei b p (B3 q (Ij b q n l z).1, (Ij b q n l z).2)
 | [], _, _, _, hz => hz
 | c :: l, z, hl, hs, hz => by
  have hin := hl c List.mem_cons_self
  have hok := Ane (n := n) h hs hin.1 hin.2
  refine Ary h n l (Ol b q n z c) (λ d hd => hl d (List.mem_cons_of_mem _ hd)) hok ?_
  unfold Ol at hok ⊢
  split
  ·rename_i hq
   rw [if_pos hq] at hok
   obtain ⟨_, w2, w3, _⟩ := Ag7 h hok hin.1 hin.2
   have hlen : z.1.length = b.Ae.length := hs.nli
   have ev : ∀ v : Int, (z.1.set c.toNat v).getD c.toNat 0 = v := λ v => by rw [Tw, if_pos ⟨rfl, by omega⟩]
   have w2' : 0 <= (z.1.set c.toNat (z.1.getD c.toNat 0 - G3 b (B3 q z.1) n c)).getD c.toNat 0 := w2
   have w3' : (z.1.set c.toNat (z.1.getD c.toNat 0 - G3 b (B3 q z.1) n c)).getD c.toNat 0 <= (b.Ae.getD c.toNat default).Load := w3
   rw [ev] at w2' w3'
   refine ⟨?_, λ x hx => ?_⟩
   ·dsimp only
    rw [List.foldl_append, hz.1]; rfl
   ·rcases List.mem_append.1 hx with hx | hx
    ·exact hz.2 x hx
    ·simp only [List.mem_singleton] at hx
     subst hx
     exact .inr ⟨rfl, hin, w2', w3'⟩
  ·exact hz
theorem Al1 {b : Aa} {p q : Ab} (n : Nat) : ∀ (l : List Int) (z : List Bool × List Ap), Ei b p (D2 q z.1, z.2) -> Ei b p (D2 q (Fr b q n l z).1, (Fr b q n l z).2)
 | [], _, hz => hz
 | c :: l, z, hz => by
  refine Al1 n l (M_ b q n z c) ?_
  unfold M_
  split
  ·exact yO (z := (D2 q z.1, z.2)) hz (isC c) q.Ac
  ·exact hz
theorem A0g {b : Aa} (h : Ay b) {x : Ai} (hx : Afg b x) {p : Ab} {z : Ab × List Ap} (hs : Aw b z.1) (ha : z.2.length <= 10000) (hz : Ei b p z) : Aw b (Mf b z x).1 /\ Ei b p (Mf b z x) /\ (Mf b z x).2.length <= z.2.length + 400 := by
 have hol2 := Agu h x
 obtain ⟨e0, hb0⟩ := Y4 hx
 unfold Mf
 split
 ·obtain ⟨_, l2, l3⟩ := Ag6 h hs (acts := z.2) (l := Ii b x) (λ c hc => O6 h hc) (by omega) hb0
  obtain ⟨_, t2, t3⟩ := Al0 h l2 (acts := (H5 b x z).2) (l := Ii b x) (λ c hc => O6 h hc) (by unfold H5; omega) hb0
  have t4 : (Qn b x z).2.length <= (H5 b x z).2.length + 24 * (Ii b x).length := t3
  have l4 : (H5 b x z).2.length <= z.2.length + (Ii b x).length := l3
  refine ⟨t2, ?_, by dsimp only; omega⟩
  have hl : Ei b p (B3 z.1 (H5 b x z).1, (H5 b x z).2) := Ary h (Uc x) (Ii b x) (z.1.Ar, z.2) (λ c hc => O6 h hc) hs hz
  exact Al1 (Uc x) (Ii b x) (z.1.Ah, (H5 b x z).2) hl
 ·exact ⟨hs, hz, by omega⟩
theorem Am7 {b : Aa} (h : Ay b) {p : Ab} : ∀ (l : List Ai) (z : Ab × List Ap), (∀ x, x ∈ l -> Afg b x) -> Aw b z.1 -> z.2.length + 400 * l.length <= 10000 -> Ei b p z -> Ei b p (I4 b l z)
 | [], _, _, _, _, hz => hz
 | x :: l, z, hl, hs, ha, hz => by
  rw [List.length_cons] at ha
  obtain ⟨h1, h2, h3⟩ := A0g h (hl x List.mem_cons_self) hs (by omega) hz
  exact Am7 h l (Mf b z x) (λ y hy => hl y (List.mem_cons_of_mem _ hy)) h1 (by omega) h2
theorem A5h {b : Aa} (p : Ab) : Ei b p (T9 b p, Y0 b p) := by
 have h0 : Ei b p (p, []) := ⟨rfl, λ x hx => by cases hx⟩
 have h1 := yO h0 (Ds p) p.Ac
 have h2 := yO h1 (Fj b (T_ b p)) p.Ac
 exact A7v h2 rfl rfl
theorem A1u {b : Aa} (h : Ay b) {p : Ab} (hp : Aw b p) : Ei b p (Ye b p, Ek b p) := by
 have hil := Hr b (T9 b p)
 have hbu := h.buses
 have hbl := h.brl
 have hcl := Aif b p
 exact Am7 h (Bq b (T9 b p)) (T9 b p, Y0 b p) (λ x hx => Ahf h hx) (Anl hp) (by dsimp only; omega) (A5h p)
def Fg : List Ap -> Ab -> List Ab
 | [], _ => []
 | x :: l, p => ap p x :: Fg l (ap p x)
theorem Kl : ∀ (l : List Ap) (p : Ab), (Fg l p).length = l.length
 | [], _ => rfl
 | x :: l, p => by simp [Fg, Kl l]
theorem qP : ∀ (l : List Ap) (x : Ap) (p : Ab), Fg (l ++ [x]) p = Fg l p ++ [ap (l.foldl ap p) x]
 | [], _, _ => rfl
 | y :: l, x, p => by
  show ap p y :: Fg (l ++ [x]) (ap p y) = _
  rw [qP l x]; rfl
def Bz (b : Aa) (p : Ab) (t : Int) (a : Ap) : Ab × Int := (F83 b p t a).getD default
theorem Anq {b : Aa} (h : Ay b) {p : Ab} (hp : Aw b p) (t : Int) (a : Ap) : F83 b p t a = some (Bz b p t a) /\ ((Bz b p t a).2 ≠ 0 \/ Aw b (Bz b p t a).1) := by
 obtain ⟨r, e, hr⟩ := A5z h hp t a
 have : Bz b p t a = r := by unfold Bz; rw [e]; rfl
 rw [this]
 exact ⟨e, hr.imp (·.1) (·.2)⟩
def Oq (b : Aa) (p : Ab) (t : Int) (a : Ap) : Int := if a.Kind = 7 then 1 else (Bz b p t a).2
def Mk (b : Aa) (p : Ab) (t : Int) (a : Ap) : Ab := (Bz b p t a).1
def doP (b : Aa) (p : Ab) (t : Int) (a : Ap) : Ab := if Oq b p t a = 0 then Ye b (Mk b p t a) else p
def doE (b : Aa) (p : Ab) (t : Int) (a : Ap) : List Bg := ⟨t, a, Oq b p t a⟩ :: if Oq b p t a = 0 then (Ek b (Mk b p t a)).map (λ x => ⟨t, x, 0⟩) else []
def Qu (b : Aa) (p : Ab) (t : Int) (a : Ap) : Ab := (Ek b (Mk b p t a)).foldl ap (Mk b p t a)
def doS (b : Aa) (p : Ab) (t : Int) (a : Ap) : List Ab :=
 if Oq b p t a = 0 then [Mk b p t a] ++ Fg (Ek b (Mk b p t a)) (Mk b p t a) ++ (if J5 (Qu b p t a) (doP b p t a) = true then [] else [doP b p t a]) else []
theorem qZ {b : Aa} (h : Ay b) {p : Ab} (hp : Aw b p) {t : Int} {a : Ap} (he : Oq b p t a = 0) : Aw b (Mk b p t a) /\ (Bz b p t a).2 = 0 /\ a.Kind ≠ 7 := by
 unfold Oq at he
 by_cases hk : a.Kind = 7
 ·rw [if_pos hk] at he; omega
 ·rw [if_neg hk] at he
  rcases (Anq h hp t a).2 with h1 | h1
  ·exact absurd he h1
  ·exact ⟨h1, he, hk⟩
theorem Ah9 {b : Aa} (h : Ay b) {p : Ab} (hp : Aw b p) (t : Int) (a : Ap) : Aw b (doP b p t a) := by
 unfold doP
 split
 ·rename_i he
  exact (Lh h (qZ h hp he).1).2.1
 ·exact hp
theorem Qw {b : Aa} (h : Ay b) {r : A4} {p : Ab} (hp : Aw b p) (h1 : r.states.length <= 10000000) : N2 r p = some ⟨r.Av, r.Al, r.events, r.states ++ [p]⟩ := by
 refine Ok.eq ?_
 unfold N2
 rw [Dy h hp]
 simp only [Option.bind_some]
 exact (Ok.appI (by simp; omega)).bind λ s hs => Ok.pure (by rw [hs])
theorem Ana {r : A4} (h1 : r.events.length <= 10000000) (a : Ap) (e : Int) : P5 r a e = some ⟨r.Av, r.Al, r.events ++ [⟨r.Av.Time, a, e⟩], r.states⟩ := by
 refine Ok.eq ?_
 unfold P5
 exact (Ok.appI (by simp; omega)).bind λ s hs => Ok.pure (by rw [hs])
theorem yQ {b : Aa} : ∀ (l : List Ap) {p : Ab}, Aw b p -> (∀ x, x ∈ l -> Aru b x) -> Aw b (l.foldl ap p)
 | [], _, hp, _ => hp
 | x :: l, p, hp, hl => yQ l (Az0 hp (hl x List.mem_cons_self)) λ y hy => hl y (List.mem_cons_of_mem _ hy)
theorem Azd {b : Aa} (h : Ay b) {T : Int} {P : Ab} {ros : List Az} {evs ev : List Bg} {sts : List Ab} (hp : Aw b P) (h1 : ev.length <= 1000000) (h2 : sts.length <= 1000000) (a : Ap) :
  Rv ⟨⟨T, P, ros, evs⟩, b, ev, sts⟩ a = some ⟨⟨T, doP b P T a, ros, evs⟩, b, ev ++ doE b P T a, sts ++ doS b P T a⟩ := by
 obtain ⟨ha, _⟩ := Anq h hp T a
 refine Ok.eq ?_
 unfold Rv
 simp only [ha, Option.bind_some]
 refine Ok.andThen (A := λ s => s = Oq b P T a) (B := λ (_ : Unit) => False) ?_ (λ s hs => ?_) (λ _ h => h.elim)
 ·unfold Zx Oq
  refine Ok.cond (λ hq => Ok.nextE ?_) (λ hq => Ok.nextE ?_)
  ·rw [if_pos (by simpa using hq)]
  ·rw [if_neg (by simpa using hq)]
 subst hs
 rw [Ana (by dsimp only; omega)]
 simp only [Option.bind_some]
 refine Ok.cond (λ hq => Ok.pure ?_) (λ hq => ?_)
 ·have he : ¬ Oq b P T a = 0 := by simpa using hq
  unfold doP doE doS
  rw [if_neg he, if_neg he, if_neg he]; simp
 have he : Oq b P T a = 0 := by simpa using hq
 obtain ⟨hn, _, _⟩ := qZ h hp he
 have hn' : Aw b (Bz b P T a).1 := hn
 rw [Qw h hn' (by dsimp only; omega)]
 simp only [Option.bind_some]
 obtain ⟨p1, p2, p3⟩ := Lh h hn'
 rw [p1]
 simp only [Option.bind_some]
 have htr := A1u h hn'
 have eP : doP b P T a = Ye b (Bz b P T a).1 := by unfold doP Mk; rw [if_pos he]
 have eE : doE b P T a = ⟨T, a, 0⟩ :: (Ek b (Bz b P T a).1).map (λ x => ⟨T, x, 0⟩) := by unfold doE Mk; rw [if_pos he, he]
 have eL : Qu b P T a = (Ek b (Bz b P T a).1).foldl ap (Bz b P T a).1 := rfl
 refine Ok.andThen (A := λ s => ∃ q : Ab, q = Qu b P T a /\ s = (T, b.An, b.Ag, b.Ac, b.Ae, b.Phase, b.Aq, P.Ah, P.Ac, P.Ar, P.Ao, ros, evs, q.Ah, ev ++ doE b P T a, sts ++ ([(Bz b P T a).1] ++ Fg (Ek b (Bz b P T a).1) (Bz b P T a).1), q.Ar)) (B := λ (_ : Unit) => False) ?_ (λ s hs => ?_) (λ _ h => h.elim)
 ·refine Ok.foldI0 (I := λ j s => ∃ q : Ab, q = ((Ek b (Bz b P T a).1).take j).foldl ap (Bz b P T a).1 /\ (q.Ac = (Bz b P T a).1.Ac /\ q.Ao = (Bz b P T a).1.Ao) /\ s = (T, b.An, b.Ag, b.Ac, b.Ae, b.Phase, b.Aq, P.Ah, P.Ac, P.Ar, P.Ao, ros, evs, q.Ah, ev ++ (⟨T, a, 0⟩ :: ((Ek b (Bz b P T a).1).take j).map (λ x => (⟨T, x, 0⟩ : Bg))), sts ++ ([(Bz b P T a).1] ++ Fg ((Ek b (Bz b P T a).1).take j) (Bz b P T a).1), q.Ar)) ⟨(Bz b P T a).1, rfl, ⟨rfl, rfl⟩, ?_⟩ (λ j x s hx hI => ?_) λ s hI => ?_
  ·simp [Fg, he]
  ·obtain ⟨q, hq1, ⟨hq2, hq3⟩, rfl⟩ := hI
   have hj : j < (Ek b (Bz b P T a).1).length := (List.getElem?_eq_some_iff.1 hx).1
   have hin := htr.2 x (List.mem_of_getElem? hx)
   have hqok : Aw b q := by
    rw [hq1]
    exact yQ _ hn' λ y hy => htr.2 y (List.mem_of_mem_take hy)
   have hapok := Az0 hqok hin
   have hcl := hqok.ncl
   have hli := hqok.nli
   unfold Ru
   refine Ok.bind (P := λ y => y = _) (Ok.of_eq (Ana (r := ⟨⟨T, P, ros, evs⟩, b, ev ++ (⟨T, a, 0⟩ :: ((Ek b (Bz b P T a).1).take j).map (λ x => (⟨T, x, 0⟩ : Bg))), sts ++ ([(Bz b P T a).1] ++ Fg ((Ek b (Bz b P T a).1).take j) (Bz b P T a).1)⟩) (by simp; omega) x 0) rfl) λ y hy => ?_
   subst hy
   have hfold : ((Ek b (Bz b P T a).1).take (j + 1)).foldl ap (Bz b P T a).1 = ap q x := by rw [Bk hx, List.foldl_append, ← hq1]; rfl
   have hint : Fg ((Ek b (Bz b P T a).1).take (j + 1)) (Bz b P T a).1 = Fg ((Ek b (Bz b P T a).1).take j) (Bz b P T a).1 ++ [ap q x] := by rw [Bk hx, qP, ← hq1]
   refine Ok.cond (λ hk => ?_) (λ hk => ?_)
   ·have hk2 : x.Kind = 2 := by simpa using hk
    have hx1 : 0 <= x.Unit /\ x.Unit < b.Ag.length := by
     rcases hin with ⟨_, h3⟩ | ⟨h3, _⟩
     ·exact h3
     ·omega
    have eA : ap q x = ⟨q.Ah.set x.Unit.toNat false, (Bz b P T a).1.Ac, q.Ar, (Bz b P T a).1.Ao⟩ := by
     unfold ap; rw [if_pos hk2, ← hq2, ← hq3]; rfl
    refine (Ok.getI (l := q.Ah) hx1.1 (by omega)).bind λ _ _ => (Ok.setI (l := q.Ah) hx1.1 (by omega)).bind λ C hC => ?_
    subst hC
    refine Ok.bind (P := λ y => y = _) (Ok.of_eq (Qw h (r := ⟨⟨T, P, ros, evs⟩, b, (ev ++ (⟨T, a, 0⟩ :: ((Ek b (Bz b P T a).1).take j).map (λ x => (⟨T, x, 0⟩ : Bg)))) ++ [⟨T, x, 0⟩], sts ++ ([(Bz b P T a).1] ++ Fg ((Ek b (Bz b P T a).1).take j) (Bz b P T a).1)⟩) (p := ⟨q.Ah.set x.Unit.toNat false, (Bz b P T a).1.Ac, q.Ar, (Bz b P T a).1.Ao⟩) (by rw [← eA]; exact hapok) (by simp [Kl]; omega)) rfl) λ y hy => Ok.next ?_
    subst hy
    refine ⟨ap q x, hfold.symm, by rw [eA]; exact ⟨rfl, rfl⟩, ?_⟩
    rw [hint, eA, Bk hx]
    simp
   ·have hk2 : ¬ x.Kind = 2 := by simpa using hk
    have hx1 : 0 <= x.Unit /\ x.Unit < b.Ae.length := by
     rcases hin with ⟨h3, _⟩ | ⟨_, h3, _⟩
     ·omega
     ·exact h3
    have eA : ap q x = ⟨q.Ah, (Bz b P T a).1.Ac, q.Ar.set x.Unit.toNat x.Value, (Bz b P T a).1.Ao⟩ := by
     unfold ap; rw [if_neg hk2, ← hq2, ← hq3]; rfl
    refine (Ok.getI (l := q.Ar) hx1.1 (by omega)).bind λ _ _ => (Ok.setI (l := q.Ar) hx1.1 (by omega)).bind λ C hC => ?_
    subst hC
    refine Ok.bind (P := λ y => y = _) (Ok.of_eq (Qw h (r := ⟨⟨T, P, ros, evs⟩, b, (ev ++ (⟨T, a, 0⟩ :: ((Ek b (Bz b P T a).1).take j).map (λ x => (⟨T, x, 0⟩ : Bg)))) ++ [⟨T, x, 0⟩], sts ++ ([(Bz b P T a).1] ++ Fg ((Ek b (Bz b P T a).1).take j) (Bz b P T a).1)⟩) (p := ⟨q.Ah, (Bz b P T a).1.Ac, q.Ar.set x.Unit.toNat x.Value, (Bz b P T a).1.Ao⟩) (by rw [← eA]; exact hapok) (by simp [Kl]; omega)) rfl) λ y hy => Ok.next ?_
    subst hy
    refine ⟨ap q x, hfold.symm, by rw [eA]; exact ⟨rfl, rfl⟩, ?_⟩
    rw [hint, eA, Bk hx]
    simp
  ·obtain ⟨q, hq1, _, rfl⟩ := hI
   rw [List.take_length] at hq1 ⊢
   exact ⟨q, hq1, by rw [eE]⟩
 ·obtain ⟨q, hq, rfl⟩ := hs
  have hqok : Aw b q := by rw [hq, eL]; exact yQ _ hn' htr.2
  have hqS : q = ⟨q.Ah, (Bz b P T a).1.Ac, q.Ar, (Bz b P T a).1.Ao⟩ := by
   have h3 := htr.1
   rw [← eL, ← hq] at h3
   rw [h3]
  have hsm := A0e (hqok.lens h) (Ye b (Bz b P T a).1)
  have hsm1 := hsm.1
  rw [hqS] at hsm1
  have e6 : J5 ⟨q.Ah, (Bz b P T a).1.Ac, q.Ar, (Bz b P T a).1.Ao⟩ (Ye b (Bz b P T a).1) = J5 (Qu b P T a) (doP b P T a) := by rw [← hqS, hq, eP]
  refine Ok.bind (P := λ y => y = J5 (Qu b P T a) (doP b P T a)) (Ok.of_eq hsm1 e6) λ y hy => ?_
  subst hy
  have eD : doS b P T a = [(Bz b P T a).1] ++ Fg (Ek b (Bz b P T a).1) (Bz b P T a).1 ++ (if J5 (Qu b P T a) (doP b P T a) = true then [] else [doP b P T a]) := by unfold doS Mk; rw [if_pos he]
  cases hsb : J5 (Qu b P T a) (doP b P T a) with
  | false =>
   rw [hsb] at eD
   refine Ok.bind (P := λ y => y = _) (Ok.of_eq (Qw h (r := ⟨⟨T, P, ros, evs⟩, b, ev ++ doE b P T a, sts ++ ([(Bz b P T a).1] ++ Fg (Ek b (Bz b P T a).1) (Bz b P T a).1)⟩) p2 (by simp [Kl]; omega)) rfl) λ y hy => Ok.pure ?_
   subst hy
   rw [eD, eP]
   simp
  | true =>
   rw [hsb] at eD
   refine Ok.pure ?_
   rw [eD, eP]
   simp
end Go.Proofs.YthgnbpdjncbkfaaGreat
