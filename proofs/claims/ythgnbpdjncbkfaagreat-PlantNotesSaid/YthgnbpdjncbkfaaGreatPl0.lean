import Derived.Test.YthgnbpdjncbkfaaGreatMo
import Derived.Test.YthgnbpdjncbkfaaGreatHo
namespace Go.Proofs.YthgnbpdjncbkfaaGreat
open Go.SL
theorem Qd {x n : Int} (h : 0 < n) : -n < Int.tmod x n /\ Int.tmod x n < n := by
 have h1 := Int.tmod_lt_of_pos x h
 have h2 := Int.lt_tmod_of_pos x h
 exact ⟨h2, h1⟩
theorem Al2 {x n : Int} (h : 0 < n) (h0 : 0 <= x) : 0 <= Int.tmod x n /\ Int.tmod x n < n := ⟨Int.tmod_nonneg n h0, (Qd h).2⟩
structure Bw (s : Ai) : Prop where
 lo : 0 <= s.At
 hi : s.At <= s.L.length
 len : s.L.length <= 600
def InR (n r : Int) : Prop := (1 <= n -> 0 <= r /\ r < n) /\ (n < 1 -> r = 0)
theorem A5f (x n : Int) (h : n <= 4611686018427387904) : Ok (F80 x n) (InR n) := by
 unfold F80
 refine Ok.cond (λ h1 => ?_) λ h1 => ?_
 ·simp only [decide_eq_true_eq] at h1
  exact Ok.pure ⟨λ h2 => by omega, λ _ => rfl⟩
 ·simp only [decide_eq_false_iff_not] at h1
  refine (Ok.nzI (by omega)).bind λ _ _ => (Ok.nzI (by omega)).bind λ _ _ => Ok.pure ⟨λ _ => ?_, λ h2 => by omega⟩
  have h2 := Qd (x := x) (n := n) (by omega)
  rw [Bf (by omega)]
  exact Al2 (by omega) (by omega)
theorem Um {s : Ai} (hs : Bw s) (n : Int) (h : n <= 4611686018427387904) : Ok (F32 s n) λ y => Bw y.2 /\ InR n y.1 := by
 obtain ⟨h1, h2, h3⟩ := hs
 unfold F32
 refine Ok.cond (λ h4 => ?_) λ h4 => ?_
 ·exact Ok.pure ⟨⟨h1, h2, h3⟩, λ h5 => ⟨by simp, by show (0 : Int) < n; omega⟩, λ _ => rfl⟩
 ·simp only [decide_eq_false_iff_not] at h4
  have e : w64 (s.At + 1) = s.At + 1 := Bf (by omega)
  rw [e, Bf (n := s.At + 1 - 1) (by omega)]
  refine (Ok.getI (by omega) (by omega)).bind λ x _ => (A5f x n h).bind λ r hr => Ok.pure ⟨⟨?_, ?_, h3⟩, hr⟩
  ·show 0 <= s.At + 1; omega
  ·show s.At + 1 <= (s.L.length : Int); omega
theorem E_ {s : Ai} (hs : Bw s) (n : Int) (h0 : 1 <= n) (h : n <= 4611686018427387904) : Ok (F32 s n) λ y => Bw y.2 /\ 0 <= y.1 /\ y.1 < n :=
 (Um hs n h).mono λ _ h => ⟨h.1, h.2.1 h0⟩
theorem Hp {s : Ai} (hs : Bw s) (lo hi : Int) (h : lo <= hi) (h0 : -1000000000000 <= lo) (h1 : hi <= 1000000000000) : Ok (F78 s lo hi) λ y => Bw y.2 /\ lo <= y.1 /\ y.1 <= hi := by
 unfold F78
 have e : w64 (w64 (hi - lo) + 1) = hi - lo + 1 := by rw [Bf (n := hi - lo) (by omega), Bf (by omega)]
 rw [e]
 refine (E_ hs _ (by omega) (by omega)).bind λ y hy => Ok.pure ⟨hy.1, ?_⟩
 have := hy.2
 show lo <= w64 (lo + y.1) /\ w64 (lo + y.1) <= hi
 rw [Bf (by omega)]
 omega
theorem D0 {s : Ai} (hs : Bw s) (l : List Int) (h : 1 <= l.length) (h1 : l.length <= 1000) : Ok (F40 s l) λ y => Bw y.2 /\ y.1 ∈ l := by
 unfold F40
 refine (E_ hs _ (by omega) (by omega)).bind λ y hy => ?_
 have := hy.2
 refine (Ok.getI (by omega) (by omega)).bind λ x hx => Ok.pure ⟨hy.1, List.mem_of_getElem? hx⟩
theorem A5e (l : List Int) : Ok (F8 l) Bw := by
 unfold F8
 refine (Ok.cutI (by omega) (by omega) (by omega)).bind λ y hy => Ok.pure ⟨by simp, by simp, ?_⟩
 subst hy
 simp only [List.length_drop, List.length_take]
 omega
def R6 (nb : Int) (ns nc : Nat) (x : Ak) : Prop :=
 (0 <= x.A /\ x.A < nb) /\ ((x.Kind = 1 /\ x.A < x.B /\ x.B < nb) \/ (x.Kind = 2 /\ 0 <= x.B /\ x.B < ns) \/ (x.Kind = 3 /\ 0 <= x.B /\ x.B < nc))
def brs (l : List Ak) (k : Int) (i : Nat) : List Ak := l.filter λ x => x.Kind == k && x.B == (i : Int)
def Aqt (x : Bg) : Prop := (1 <= x.Rating /\ x.Rating <= 50000) /\ (0 <= x.Least /\ x.Least <= x.Rating) /\ 0 <= x.Start /\ x.Start <= 600
def Arw (i : Nat) (x : A1) : Prop :=
 (0 <= x.Load /\ x.Load <= 50000) /\ (0 <= x.Least /\ x.Least <= x.Load) /\ (0 <= x.Bp /\ x.Bp <= 15) /\ (-1 <= x.Thruster /\ x.Thruster <= 7) /\ x.Needs.length <= 4 /\
 (∀ n, n ∈ x.Needs -> 0 <= n /\ n < (i : Int)) /\ ∀ (j : Nat) a b, x.Needs[j]? = some a -> x.Needs[j + 1]? = some b -> a < b
structure Ax (b : Aa) : Prop where
 buses : 1 <= b.Am /\ b.Am <= 6
 brl : b.Af.length <= 24
 sol : b.Ac.length <= 8
 col : b.Ae.length <= 16
 phase : 0 <= b.Phase /\ b.Phase <= 1800
 freq : 0 <= b.Ap /\ b.Ap <= 6000
 br : ∀ x, x ∈ b.Af -> R6 b.Am b.Ac.length b.Ae.length x
 one : ∀ i, i < b.Ac.length -> (brs b.Af 2 i).length = 1
 any : ∀ i, i < b.Ae.length -> brs b.Af 3 i ≠ []
 nodup : ∀ i, ((brs b.Af 3 i).map (·.A)).Nodup
 so : ∀ x, x ∈ b.Ac -> Aqt x
 co : ∀ (i : Nat) x, b.Ae[i]? = some x -> Arw i x
theorem Gl (l m : List Ak) (k : Int) (i : Nat) : brs (l ++ m) k i = brs l k i ++ brs m k i := by unfold brs; rw [List.filter_append]
theorem Anr (x : Ak) (k : Int) (i : Nat) : brs [x] k i = if x.Kind = k /\ x.B = (i : Int) then [x] else [] := by
 unfold brs
 simp only [List.filter_cons, List.filter_nil, Bool.and_eq_true, beq_iff_eq]
theorem J1 {l : List Ak} {k : Int} {i : Nat} (h : ∀ x, x ∈ l -> x.Kind = k -> x.B ≠ (i : Int)) : brs l k i = [] := by
 unfold brs
 rw [List.filter_eq_nil_iff]
 intro x hx
 simp only [Bool.and_eq_true, beq_iff_eq, not_and]
 exact h x hx
def Mw (nb : Int) (l : List Ak) : Prop := ∀ x, x ∈ l -> x.Kind = 1 /\ 0 <= x.A /\ x.A < x.B /\ x.B < nb
structure Rv (nb : Int) (l : List Ak) (so : List Bg) : Prop where
 len : l.length <= 4 + so.length
 br : ∀ x, x ∈ l -> (0 <= x.A /\ x.A < nb) /\ ((x.Kind = 1 /\ x.A < x.B /\ x.B < nb) \/ (x.Kind = 2 /\ 0 <= x.B /\ x.B < so.length))
 one : ∀ i, i < so.length -> (brs l 2 i).length = 1
 so : ∀ x, x ∈ so -> Aqt x
structure Z_ (nb : Int) (l : List Ak) (ns : Nat) (co : List A1) : Prop where
 len : l.length <= 4 + ns + 2 * co.length
 br : ∀ x, x ∈ l -> R6 nb ns co.length x
 one : ∀ i, i < ns -> (brs l 2 i).length = 1
 any : ∀ i, i < co.length -> brs l 3 i ≠ []
 nodup : ∀ i, ((brs l 3 i).map (·.A)).Nodup
 co : ∀ (i : Nat) x, co[i]? = some x -> Arw i x /\ x.Thruster <= 2
theorem Rv.cons {nb : Int} {l : List Ak} {so : List Bg} (h : Rv nb l so) : Z_ nb l so.length [] where
 len := by have := h.len; simp; omega
 br x hx := by
  obtain ⟨h1, h2⟩ := h.br x hx
  exact ⟨h1, h2.imp id .inl⟩
 one := h.one
 any i hi := by simp at hi
 nodup i := by
  rw [J1]
  ·simp
  ·intro x hx h3
   obtain ⟨_, h2⟩ := h.br x hx
   omega
 co i x hx := by simp at hx
theorem Rv.add {nb : Int} {l : List Ak} {so : List Bg} (h : Rv nb l so) {x : Ak} {y : Bg} (hx : x.Kind = 2 /\ x.B = so.length /\ 0 <= x.A /\ x.A < nb) (hy : Aqt y) : Rv nb (l ++ [x]) (so ++ [y]) where
 len := by have := h.len; simp; omega
 br z hz := by
  rcases List.mem_append.1 hz with hz | hz
  ·obtain ⟨h1, h2⟩ := h.br z hz
   refine ⟨h1, ?_⟩
   rw [List.length_append]
   simp only [List.length_cons, List.length_nil]
   omega
  ·simp at hz; subst hz
   refine ⟨hx.2.2, .inr ⟨hx.1, ?_⟩⟩
   rw [List.length_append]
   simp only [List.length_cons, List.length_nil]
   omega
 one i hi := by
  rw [List.length_append] at hi
  simp only [List.length_cons, List.length_nil] at hi
  rw [Gl, Anr, List.length_append]
  by_cases e : i = so.length
  ·rw [J1, if_pos ⟨hx.1, by omega⟩]
   ·rfl
   ·intro z hz h2
    obtain ⟨_, h3⟩ := h.br z hz
    omega
  ·rw [h.one i (by omega), if_neg (by omega)]; rfl
 so z hz := by
  rcases List.mem_append.1 hz with hz | hz
  ·exact h.so z hz
  ·simp at hz; subst hz; exact hy
theorem Z_.add {nb : Int} {l m : List Ak} {ns : Nat} {co : List A1} (h : Z_ nb l ns co) {y : A1} (hm : ∀ x, x ∈ m -> x.Kind = 3 /\ x.B = co.length /\ 0 <= x.A /\ x.A < nb) (h1 : m ≠ []) (h2 : m.length <= 2) (h3 : (m.map (·.A)).Nodup)
  (hy : Arw co.length y /\ y.Thruster <= 2) : Z_ nb (l ++ m) ns (co ++ [y]) := by
 have e1 : brs m 3 co.length = m := by
  unfold brs
  rw [List.filter_eq_self]
  intro x hx
  obtain ⟨g1, g2, _⟩ := hm x hx
  simp [g1, g2]
 have e2 : ∀ i, i ≠ co.length -> brs m 3 i = [] := λ i hi => J1 λ x hx _ e => by
  have := (hm x hx).2.1
  omega
 have e3 : brs l 3 co.length = [] := J1 λ x hx h3 e => by
  obtain ⟨_, g⟩ := h.br x hx
  omega
 have hlen : (co ++ [y]).length = co.length + 1 := by simp
 refine ⟨?_, λ z hz => ?_, λ i hi => ?_, λ i hi => ?_, λ i => ?_, λ i x hx => ?_⟩
 ·have := h.len
  rw [List.length_append, hlen]; omega
 ·rw [hlen]
  rcases List.mem_append.1 hz with hz | hz
  ·obtain ⟨g1, g2⟩ := h.br z hz
   exact ⟨g1, by omega⟩
  ·obtain ⟨g1, g2, g3⟩ := hm z hz
   exact ⟨g3, by omega⟩
 ·have : brs m 2 i = [] := J1 λ x hx h2 => by have := (hm x hx).1; omega
  rw [Gl, this, List.append_nil]
  exact h.one i hi
 ·rw [Gl]
  rw [hlen] at hi
  by_cases e : i = co.length
  ·subst e; rw [e1]; simp [h1]
  ·have := h.any i (by omega)
   simp [this]
 ·rw [Gl]
  by_cases e : i = co.length
  ·subst e; rw [e1, e3]; simpa using h3
  ·rw [e2 i e, List.append_nil]; exact h.nodup i
 ·rw [List.getElem?_append] at hx
  split at hx
  ·exact h.co i x hx
  ·rename_i hi
   have : i = co.length := by
    have := (List.getElem?_eq_some_iff.1 hx).1
    simp at this; omega
   subst this
   simp at hx; subst hx; exact hy
theorem Mw.nil (nb : Int) : Mw nb [] := λ x hx => by cases hx
theorem Mw.add {nb : Int} {l : List Ak} (h : Mw nb l) {x : Ak} (hx : x.Kind = 1 /\ 0 <= x.A /\ x.A < x.B /\ x.B < nb) : Mw nb (l ++ [x]) := λ z hz => by
 rcases List.mem_append.1 hz with hz | hz
 ·exact h z hz
 ·simp at hz; subst hz; exact hx
theorem Mw.gens {nb : Int} {l : List Ak} (h : Mw nb l) (hl : l.length <= 4) : Rv nb l [] where
 len := by simpa using hl
 br x hx := by have := h x hx; exact ⟨by omega, .inl (by omega)⟩
 one i hi := by simp at hi
 so x hx := by cases hx
theorem Ax0 {y : Int × Ai} (hy : 1 <= y.1 /\ y.1 <= 4) {s0 : Ai} (hs0 : Bw s0) :
  Ok (whileN (Ut y) 1152921504606846976 (1, s0.L, s0.At, ([] : List Ak))) (Dq (λ s => Bw ⟨s.2.1, s.2.2.1⟩ /\ Mw y.1 s.2.2.2 /\ s.2.2.2.length <= 3) (λ (_ : Unit) => False)) := by
 refine Ok.whileN (λ s => (1 <= s.1 /\ s.1 <= 4 /\ s.1 <= y.1) /\ Bw ⟨s.2.1, s.2.2.1⟩ /\ Mw y.1 s.2.2.2 /\ (s.2.2.2.length : Int) + 1 <= s.1) (λ s => (y.1 - s.1).toNat) _ _ ?_ ?_ ?_
 ·exact ⟨by dsimp only; omega, hs0, Mw.nil _, by simp⟩
 ·dsimp only; omega
 ·rintro ⟨i, L, a, l⟩ ⟨⟨h1, h2, h3⟩, h4, h5, h6⟩
  dsimp only at h1 h2 h3 h4 h5 h6
  unfold Ut
  refine Ok.cond (λ h => ?_) (λ h => ?_)
  ·simp only [decide_eq_true_eq] at h
   have e : w64 (i + 1) = i + 1 := Bf (by omega)
   dsimp only
   rw [e]
   refine (E_ h4 6 (by omega) (by omega)).bind λ u hu => Ok.cond (λ _ => ?_) (λ _ => ?_)
   ·refine (E_ hu.1 i h1 (by omega)).bind λ v hv => (Ok.appI (by simp; omega)).bind λ m hm => Ok.next ?_
    subst hm
    have := hv.2
    refine ⟨⟨by dsimp only; omega, hv.1, h5.add ⟨rfl, by dsimp only; omega, by dsimp only; omega, by dsimp only; omega⟩, by simp; omega⟩, by dsimp only; omega⟩
   ·refine Ok.next ⟨⟨by dsimp only; omega, hu.1, h5, by dsimp only; omega⟩, by dsimp only; omega⟩
  ·exact Ok.brk ⟨h4, h5, by dsimp only; omega⟩
theorem Axz {y : Int × Ai} (hy : 1 <= y.1 /\ y.1 <= 4) {s0 : Ai} (hs0 : Bw s0) {k : Int} (hk : 0 <= k /\ k < 5) {l0 : List Ak} (hl0 : Rv y.1 l0 []) :
  Ok (whileN (Us y) 1152921504606846976 (k, s0.L, s0.At, l0, ([] : List Bg))) (Dq (λ s => Bw ⟨s.2.1, s.2.2.1⟩ /\ Rv y.1 s.2.2.2.1 s.2.2.2.2 /\ s.2.2.2.2.length <= 4) (λ (_ : Unit) => False)) := by
 refine Ok.whileN (λ s => (0 <= s.1 /\ s.1 + (s.2.2.2.2.length : Int) <= 4) /\ Bw ⟨s.2.1, s.2.2.1⟩ /\ Rv y.1 s.2.2.2.1 s.2.2.2.2) (λ s => s.1.toNat) _ _ ?_ ?_ ?_
 ·exact ⟨by simp; omega, hs0, hl0⟩
 ·dsimp only; omega
 ·rintro ⟨i, L, a, l, so⟩ ⟨⟨h1, h2⟩, h4, h5⟩
  dsimp only at h1 h2 h4 h5
  unfold Us
  refine Ok.cond (λ h => ?_) (λ h => ?_)
  ·simp only [decide_eq_true_eq] at h
   have e : w64 (i - 1) = i - 1 := Bf (by omega)
   have hl := h5.len
   dsimp only
   rw [e]
   refine (E_ h4 y.1 hy.1 (by omega)).bind λ u hu => (Ok.appI (by simp; omega)).bind λ m hm => ?_
   refine (D0 hu.1 _ (by simp) (by simp)).bind λ v hv => (D0 hv.1 _ (by simp) (by simp)).bind λ p hp => (D0 hp.1 _ (by simp) (by simp)).bind λ q hq => (Ok.appI (by simp; omega)).bind λ o ho => Ok.next ?_
   subst hm; subst ho
   have g1 := hu.2
   have g2 : v.1 = 10 \/ v.1 = 50 \/ v.1 = 100 := by simpa using hv.2
   have g3 : p.1 = 0 \/ p.1 = 5 \/ p.1 = v.1 := by simpa using hp.2
   have g4 : q.1 = 0 \/ q.1 = 1 \/ q.1 = 3 := by simpa using hq.2
   refine ⟨⟨by simp; omega, hq.1, h5.add ⟨rfl, rfl, g1⟩ ⟨by dsimp only; omega, by dsimp only; omega, by dsimp only; omega⟩⟩, by dsimp only; omega⟩
  ·exact Ok.brk ⟨h4, h5, by dsimp only; omega⟩
theorem A0a {x : Int} (h : 0 <= x) (h2 : x <= 50000) : 0 <= w64 (Int.tdiv x 2) /\ w64 (Int.tdiv x 2) <= x := by
 have : Int.tdiv x 2 = x / 2 := Int.tdiv_eq_ediv_of_nonneg h
 rw [this, Bf (by omega)]
 omega
theorem Av9 {x : Int} (h : 0 <= x) (h2 : x <= 50000) : 0 <= w64 (Int.tdiv x 3) /\ w64 (Int.tdiv x 3) <= x := by
 have : Int.tdiv x 3 = x / 3 := Int.tdiv_eq_ediv_of_nonneg h
 rw [this, Bf (by omega)]
 omega
theorem Axy {y : Int × Ai} (hy : 1 <= y.1 /\ y.1 <= 4) {s0 : Ai} (hs0 : Bw s0) {k : Int} (hk : 0 <= k /\ k < 6) {ns : Nat} (hns : ns <= 4) {l0 : List Ak} (hl0 : Z_ y.1 l0 ns []) :
  Ok (whileN (Ur y) 1152921504606846976 (k, s0.L, s0.At, l0, ([] : List A1))) (Dq (λ s => Bw ⟨s.2.1, s.2.2.1⟩ /\ Z_ y.1 s.2.2.2.1 ns s.2.2.2.2 /\ s.2.2.2.2.length <= 5) (λ (_ : Unit) => False)) := by
 refine Ok.whileN (λ s => (0 <= s.1 /\ s.1 + (s.2.2.2.2.length : Int) <= 5) /\ Bw ⟨s.2.1, s.2.2.1⟩ /\ Z_ y.1 s.2.2.2.1 ns s.2.2.2.2) (λ s => s.1.toNat) _ _ ?_ ?_ ?_
 ·exact ⟨by simp; omega, hs0, hl0⟩
 ·dsimp only; omega
 ·rintro ⟨i, L, a, l, co⟩ ⟨⟨h1, h2⟩, h4, h5⟩
  dsimp only at h1 h2 h4 h5
  unfold Ur
  refine Ok.cond (λ h => ?_) (λ h => ?_)
  ·simp only [decide_eq_true_eq] at h
   have e : w64 (i - 1) = i - 1 := Bf (by omega)
   have hl := h5.len
   dsimp only
   rw [e]
   refine (E_ h4 y.1 hy.1 (by omega)).bind λ u hu => (Ok.appI (by simp; omega)).bind λ m hm => ?_
   subst hm
   have g1 := hu.2
   refine Ok.bind (P := λ v => Bw v.2) (Ok.guard (λ _ => (E_ hu.1 4 (by omega) (by omega)).mono λ _ h => h.1) λ _ => hu.1) λ v hv => ?_
   refine Ok.inner (A := λ (r : List Ak) => ∃ m, r = l ++ m /\ (∀ x, x ∈ m -> x.Kind = 3 /\ x.B = co.length /\ 0 <= x.A /\ x.A < y.1) /\ m ≠ [] /\ m.length <= 2 /\ (m.map (·.A)).Nodup) (B := λ (_ : Unit) => False) ?_ (λ r hr => ?_) (λ _ h => h.elim)
   ·unfold Akc
    refine Ok.cond (λ hc => ?_) (λ hc => ?_)
    ·simp only [Bool.and_eq_true, decide_eq_true_eq] at hc
     have e2 : w64 (u.1 + 1) = u.1 + 1 := Bf (by omega)
     rw [e2]
     refine (Ok.nzI (by omega)).bind λ _ _ => (Ok.appI (by simp; omega)).bind λ m hm => Ok.nextE ?_
     subst hm
     have g2 := Al2 (x := u.1 + 1) (n := y.1) (by omega) (by omega)
     have g3 : Int.tmod (u.1 + 1) y.1 ≠ u.1 := by
      rw [Int.tmod_eq_emod_of_nonneg (by omega)]
      intro e3
      by_cases g4 : u.1 + 1 = y.1
      ·rw [g4, Int.emod_self] at e3; omega
      ·rw [Int.emod_eq_of_lt (by omega) (by omega)] at e3; omega
     refine ⟨_, List.append_assoc _ _ _, ?_, by simp, by simp, ?_⟩
     ·intro x hx
      simp at hx
      rcases hx with rfl | rfl
      ·exact ⟨rfl, rfl, g1⟩
      ·exact ⟨rfl, rfl, g2⟩
     ·simp
      exact λ h => g3 h.symm
    ·exact Ok.nextE ⟨_, rfl, λ x hx => by simp at hx; subst hx; exact ⟨rfl, rfl, g1⟩, by simp, by simp, by simp⟩
   ·obtain ⟨m, rfl, hm, hm1, hm2, hm3⟩ := hr
    refine (D0 hv _ (by simp) (by simp)).bind λ p hp => (D0 hp.1 _ (by simp) (by simp)).bind λ q hq => (E_ hq.1 3 (by omega) (by omega)).bind λ pr hpr => (Hp hpr.1 (-1) 2 (by omega) (by omega) (by omega)).bind λ th hth => ?_
    have k1 : p.1 = 0 \/ p.1 = 5 \/ p.1 = 20 \/ p.1 = 40 := by simpa using hp.2
    have k2 : q.1 = 0 \/ q.1 = w64 (Int.tdiv p.1 2) \/ q.1 = p.1 := by simpa using hq.2
    have k3 := A0a (x := p.1) (by omega) (by omega)
    have k4 := hpr.2
    have k5 := hth.2
    refine Ok.bind (P := λ v => Bw v.2) (Ok.guard (λ _ => (E_ hth.1 4 (by omega) (by omega)).mono λ _ h => h.1) λ _ => hth.1) λ w hw => Ok.cond (λ hc => ?_) (λ hc => ?_)
    ·simp only [Aqn, Bool.and_eq_true, decide_eq_true_eq] at hc
     refine (E_ hw _ (by omega) (by omega)).bind λ n hn => (Ok.appI (by simp; omega)).bind λ o ho => Ok.next ?_
     subst ho
     have k6 := hn.2
     refine ⟨⟨by simp; omega, hn.1, h5.add hm hm1 hm2 hm3 ⟨⟨by dsimp only; omega, by dsimp only; omega, by dsimp only; omega, by dsimp only; omega, by simp, ?_, ?_⟩, by dsimp only; omega⟩⟩, by dsimp only; omega⟩
     ·intro z hz; simp at hz; subst hz; exact k6
     ·intro j a b ha hb
      simp at hb
    ·refine (Ok.appI (by simp; omega)).bind λ o ho => Ok.next ?_
     subst ho
     refine ⟨⟨by simp; omega, hw, h5.add hm hm1 hm2 hm3 ⟨⟨by dsimp only; omega, by dsimp only; omega, by dsimp only; omega, by dsimp only; omega, by simp, ?_, ?_⟩, by dsimp only; omega⟩⟩, by dsimp only; omega⟩
     ·intro z hz; simp at hz
     ·intro j a b ha hb; simp at ha
  ·exact Ok.brk ⟨h4, h5, by dsimp only; omega⟩
structure A5g (b : Aa) : Prop where
 ok : Ax b
 buses : b.Am <= 4
 brl : b.Af.length <= 18
 sol : b.Ac.length <= 4
 col : b.Ae.length <= 5
 thr : ∀ x, x ∈ b.Ae -> x.Thruster <= 2
theorem Ayo {s : Ai} (hs : Bw s) : Ok (F29 s) λ y => A5g y.1 /\ Bw y.2 := by
 unfold F29
 refine (Hp hs 1 4 (by omega) (by omega) (by omega)).bind λ y1 h1 => (D0 h1.1 _ (by simp) (by simp)).bind λ y3 h3 => (D0 h3.1 _ (by simp) (by simp)).bind λ y5 h5 => ?_
 refine (Ax0 h1.2 h5.1).andThen (λ s0 hs0 => ?_) (λ _ h => h.elim)
 refine Ok.bind (P := λ v => Bw v.2) (Ok.guard (λ _ => (E_ hs0.1 2 (by omega) (by omega)).mono λ _ h => h.1) λ _ => hs0.1) λ y15 h15 => ?_
 have hb := h1.2
 refine Ok.andThen (A := λ (l : List Ak) => Mw y1.1 l /\ l.length <= 4) (B := λ (_ : Unit) => False) ?_ (λ l hl => ?_) (λ _ h => h.elim)
 ·unfold Akd
  refine Ok.cond (λ hc => ?_) (λ hc => Ok.nextE ⟨hs0.2.1, by omega⟩)
  simp only [Bool.and_eq_true, decide_eq_true_eq] at hc
  have e : w64 (y1.1 - 1) = y1.1 - 1 := Bf (by omega)
  rw [e]
  have := hs0.2.2
  refine (Ok.appI (by simp; omega)).bind λ m hm => Ok.nextE ?_
  subst hm
  exact ⟨hs0.2.1.add ⟨rfl, by simp, by dsimp only; omega, by dsimp only; omega⟩, by simp; omega⟩
 ·refine (E_ h15 5 (by omega) (by omega)).bind λ y20 h20 => ?_
  refine (Axz h1.2 h20.1 h20.2 (hl.1.gens hl.2)).andThen (λ s2 hs2 => ?_) (λ _ h => h.elim)
  refine (E_ hs2.1 6 (by omega) (by omega)).bind λ y35 h35 => ?_
  refine (Axy h1.2 h35.1 h35.2 hs2.2.2 hs2.2.1.cons).andThen (λ s3 hs3 => Ok.pure ⟨?_, hs3.1⟩) (λ _ h => h.elim)
  obtain ⟨_, hc, hl5⟩ := hs3
  have hl4 := hs2.2.2
  have hlen := hc.len
  have p3 : y3.1 = 0 \/ y3.1 = 50 \/ y3.1 = 200 \/ y3.1 = 1800 := by simpa using h3.2
  have p5 : y5.1 = 0 \/ y5.1 = 10 \/ y5.1 = 50 := by simpa using h5.2
  refine ⟨⟨by dsimp only; omega, by dsimp only; omega, by dsimp only; omega, by dsimp only; omega, by dsimp only; omega, by dsimp only; omega, hc.br, hc.one, hc.any, hc.nodup, hs2.2.1.so, λ i x hx => (hc.co i x hx).1⟩, by dsimp only; omega, by dsimp only; omega, hl4, hl5, λ x hx => ?_⟩
  obtain ⟨i, hi⟩ := List.getElem?_of_mem hx
  exact (hc.co i x hi).2
theorem Hn (x lo hi : Int) : F99 x lo hi = true ↔ lo <= x /\ x <= hi := by
 simp [F99]
theorem Aai {x lo hi : Int} (h : lo <= x /\ x <= hi) : F99 x lo hi = true := (Hn x lo hi).2 h
theorem Dv (l : List Int) (x : Int) (h : l.length <= 9223372036854775807) : M3 l x = some (l.any (x == ·)) := by
 unfold M3 Arl
 rw [Ki (λ y => x == y) (λ i y => rfl) l h]
 simp only [Option.bind_some, Q2]
theorem Alq (l : List (List Int)) (h : l.length <= 9223372036854775807) : Vd l = some (l.any λ x => (x.length : Int) == 0) := by
 unfold Vd vX
 rw [Ki (λ y => (y.length : Int) == 0) (λ i y => rfl) l h]
 simp only [Option.bind_some, Q2]
theorem Als {b : Aa} (h : Ax b) : Ok (Akz b) (· = true) := by
 unfold Akz
 have hs := h.sol
 have hc := h.col
 have hb := h.buses
 refine (Ok.mkI (by omega) (by omega)).bind λ ys hys => (Ok.mkI (by omega) (by omega)).bind λ zs hzs => ?_
 rw [Int.toNat_natCast] at hys hzs
 refine Ok.andThen (A := λ s => s.1 = (List.range b.Ac.length).map (λ i => ((brs b.Af 2 i).length : Int)) /\ s.2 = (List.range b.Ae.length).map (λ i => (brs b.Af 3 i).map (·.A))) (B := λ _ => False) ?_ ?_ (λ _ h => h.elim)
 ·refine Ok.foldI0 (I := λ j s => s.1 = (List.range b.Ac.length).map (λ i => ((brs (b.Af.take j) 2 i).length : Int)) /\ s.2 = (List.range b.Ae.length).map (λ i => (brs (b.Af.take j) 3 i).map (·.A))) ?_ ?_ ?_
  ·exact ⟨by rw [hys, Nm]; rfl, by rw [hzs, Nm]; rfl⟩
  ·rintro j x ⟨us, vs⟩ hx ⟨hu, hv⟩
   dsimp only at hu hv
   subst hu; subst hv
   have hmem := List.mem_of_getElem? hx
   obtain ⟨⟨a0, a1⟩, hk⟩ := h.br x hmem
   have htk : ∀ k i, brs (b.Af.take (j + 1)) k i = brs (b.Af.take j) k i ++ if x.Kind = k /\ x.B = (i : Int) then [x] else [] := λ k i => by rw [Bk hx, Gl, Anr]
   have hall : ∀ k i, brs b.Af k i = brs (b.Af.take (j + 1)) k i ++ brs (b.Af.drop (j + 1)) k i := λ k i => by rw [← Gl, List.take_append_drop]
   unfold Xe
   have e1 : w64 (b.Am - 1) = b.Am - 1 := Bf (by omega)
   have e2 : w64 (x.A + 1) = x.A + 1 := Bf (by omega)
   refine Ok.cond (λ hq => ?_) (λ _ => ?_)
   ·rw [e1, Aai (by omega)] at hq; simp at hq
   refine Ok.cond (λ hq => ?_) (λ hq => ?_)
   ·simp only [uK, Bool.and_eq_true, beq_iff_eq, Hn] at hq
    refine Ok.next ⟨List.map_congr_left λ i _ => ?_, List.map_congr_left λ i _ => ?_⟩
    ·rw [htk, if_neg (by omega), List.append_nil]
    ·rw [htk, if_neg (by omega), List.append_nil]
   have hq := ff hq
   simp only [uK, Bool.and_eq_true, beq_iff_eq, Hn, e1, e2] at hq
   rcases hk with hk | hk | hk
   ·exact absurd ⟨hk.1, by omega⟩ hq
   ·have hBn : x.B = (x.B.toNat : Int) := by omega
    have hone := h.one x.B.toNat (by omega)
    have hz : (brs (b.Af.take j) 2 x.B.toNat).length = 0 := by
     rw [hall, htk, if_pos ⟨hk.1, hBn⟩] at hone
     simp at hone; omega
    have hg : ((x.Kind == 2) && (F99 x.B 0 (w64 ((((List.range b.Ac.length).map (λ i => ((brs (b.Af.take j) 2 i).length : Int))).length : Int) - 1)))) = true := by
     rw [Bool.and_eq_true, beq_iff_eq, Hn, List.length_map, List.length_range, Bf (by omega)]
     omega
    dsimp only
    refine Ok.bind (P := λ y => y = 0) (Ok.guard (λ _ => (Ok.getR (by omega) (by omega)).mono λ y hy => by rw [hy, hz]; rfl) λ hn => (V4 hg hn).elim) λ y hy => ?_
    refine Ok.cond (λ hq2 => ?_) (λ hq2 => ?_)
    ·refine (Ok.getR (by omega) (by omega)).bind λ y2 hy2 => (Ok.setR (by omega) (by omega)).bind λ y3 hy3 => Ok.next ⟨?_, List.map_congr_left λ i _ => ?_⟩
     ·rw [hy3]
      refine List.map_congr_left λ i hi => ?_
      by_cases e : i = x.B.toNat
      ·subst e
       rw [if_pos rfl, hy2, htk, if_pos ⟨hk.1, hBn⟩, hz, List.length_append, hz]
       rfl
      ·rw [if_neg e, htk, if_neg (by omega), List.append_nil]
     ·rw [htk, if_neg (by omega), List.append_nil]
    ·have hq2 := ff hq2
     simp only [uJ, Bool.and_eq_true, hy] at hq2
     rw [Bool.and_eq_true] at hg
     exact absurd ⟨hg, by simp⟩ hq2
   ·have hBn : x.B = (x.B.toNat : Int) := by omega
    have hnod := h.nodup x.B.toNat
    have hnot : x.A ∉ (brs (b.Af.take j) 3 x.B.toNat).map (·.A) := by
     rw [hall, htk, if_pos ⟨hk.1, hBn⟩] at hnod
     simp only [List.map_append, List.map_cons, List.map_nil] at hnod
     rw [List.nodup_append] at hnod
     have := hnod.1
     rw [List.nodup_append] at this
     intro hm
     exact this.2.2 _ hm _ (by simp) rfl
    have hg0 : ((x.Kind == 2) && (F99 x.B 0 (w64 ((((List.range b.Ac.length).map (λ i => ((brs (b.Af.take j) 2 i).length : Int))).length : Int) - 1)))) = false := by
     have : (x.Kind == 2) = false := by rw [beq_eq_false_iff_ne]; omega
     rw [this]; rfl
    have hg : ((x.Kind == 3) && (F99 x.B 0 (w64 ((((List.range b.Ae.length).map (λ i => (brs (b.Af.take j) 3 i).map (·.A))).length : Int) - 1)))) = true := by
     rw [Bool.and_eq_true, beq_iff_eq, Hn, List.length_map, List.length_range, Bf (by omega)]
     omega
    dsimp only
    refine Ok.bind (P := λ _ => True) (Ok.guard (λ hn => absurd hn.1 (by rw [hg0]; simp)) λ _ => trivial) λ y _ => ?_
    refine Ok.cond (λ hq2 => ?_) (λ _ => ?_)
    ·simp only [uJ, Bool.and_eq_true, beq_iff_eq] at hq2
     omega
    refine Ok.bind (P := λ y => y = (brs (b.Af.take j) 3 x.B.toNat).map (·.A)) (Ok.guard (λ _ => Ok.getR (by omega) (by omega)) λ hn => (V4 hg hn).elim) λ y14 hy14 => ?_
    have hyl : y14.length <= 24 := by
     rw [hy14, List.length_map]
     have := List.length_filter_le (λ x => x.Kind == 3 && x.B == ((x.B.toNat : Nat) : Int)) (b.Af.take j)
     have h1 : (brs (b.Af.take j) 3 x.B.toNat).length <= (b.Af.take j).length := List.length_filter_le _ _
     have h2 := h.brl
     rw [List.length_take] at h1
     omega
    refine Ok.bind (P := λ y => y = false) (Ok.guard (λ _ => ?_) λ hn => (V4 hg hn).elim) λ y16 hy16 => ?_
    ·rw [Dv _ _ (by omega)]
     refine Ok.pure ?_
     rw [List.any_eq_false]
     intro z hz
     rw [hy14] at hz
     simp only [beq_iff_eq]
     rintro rfl
     exact hnot hz
    refine Ok.cond (λ hq2 => ?_) (λ hq2 => ?_)
    ·refine (Ok.getR (by omega) (by omega)).bind λ y19 hy19 => ?_
     rw [hy19, ← hy14]
     refine (Ok.appI (by simp; omega)).bind λ y21 hy21 => (Ok.setR (by omega) (by omega)).bind λ y23 hy23 => Ok.next ⟨List.map_congr_left λ i _ => ?_, ?_⟩
     ·rw [htk, if_neg (by omega), List.append_nil]
     ·rw [hy23]
      refine List.map_congr_left λ i hi => ?_
      by_cases e : i = x.B.toNat
      ·subst e
       rw [if_pos rfl, hy21, hy14, htk, if_pos ⟨hk.1, hBn⟩, List.map_append]
       rfl
      ·rw [if_neg e, htk, if_neg (by omega), List.append_nil]
    ·have hq2 := ff hq2
     simp only [Air, Bool.and_eq_true, hy16] at hq2
     rw [Bool.and_eq_true] at hg
     exact absurd ⟨hg, by simp⟩ hq2
  ·rintro ⟨us, vs⟩ ⟨hu, hv⟩
   rw [List.take_length] at hu hv
   exact ⟨hu, hv⟩
 ·rintro ⟨us, vs⟩ ⟨hu, hv⟩
  dsimp only at hu hv ⊢
  rw [Dv _ _ (by rw [hu]; simp; omega)]
  have h0 : us.any (λ y => 0 == y) = false := by
   rw [List.any_eq_false, hu]
   intro z hz
   obtain ⟨i, hi, rfl⟩ := List.mem_map.1 hz
   rw [h.one i (by simpa using hi)]
   simp
  have h1 : vs.any (λ x => (x.length : Int) == 0) = false := by
   rw [List.any_eq_false, hv]
   intro z hz
   obtain ⟨i, hi, rfl⟩ := List.mem_map.1 hz
   have := h.any i (by simpa using hi)
   simp only [List.length_map, beq_iff_eq]
   intro e
   exact this (List.eq_nil_of_length_eq_zero (by omega))
  simp only [h0, Option.bind_some]
  refine Ok.bind (P := λ y => y = false) (Ok.guard (λ _ => ?_) λ hn => (V4 rfl hn).elim) λ y hy => Ok.pure (by rw [hy]; rfl)
  rw [Alq _ (by rw [hv]; simp; omega)]
  exact Ok.pure h1
theorem Ar8 {x : Bg} (h : Aqt x) : Z5 x = true := by
 obtain ⟨h1, h2, h3⟩ := h
 simp only [Z5, Bool.and_eq_true, Hn]
 omega
theorem Alr {x : A1} {i : Nat} (h : Arw i x) (hi : i <= 1000) : Abd x (i : Int) = some true := by
 obtain ⟨h1, h2, h3, h4, h5, h6, h7⟩ := h
 unfold Abd
 have hf : foldI (P6 x (i : Int)) x.Needs 0 () = some (.next ()) := by
  refine Da _ _ λ j n hj => ?_
  rw [Nat.zero_add]
  have hn := h6 n (List.mem_of_getElem? hj)
  have hjl := (List.getElem?_eq_some_iff.1 hj).1
  have hcnt : cnt 0 j = (j : Int) := C4 (by omega)
  have hin : F99 n 0 (w64 ((i : Int) - 1)) = true := by rw [Hn, Bf (by omega)]; omega
  unfold P6 Aiq
  rw [hcnt, hin]
  cases j with
  | zero => simp [A3, De]
  | succ j =>
   obtain ⟨p, hp⟩ : ∃ p, x.Needs[j]? = some p := ⟨_, List.getElem?_eq_getElem (by omega)⟩
   have hlt := h7 j p n hp hj
   have e : w64 ((((j + 1 : Nat) : Int)) - 1) = (j : Int) := by rw [Bf (by omega)]; omega
   have hg : getI x.Needs (j : Int) = some p := by
    unfold getI
    simp [hp]
   have hd : decide (((j + 1 : Nat) : Int) > 0) = true := decide_eq_true (by omega)
   have hd2 : decide (p >= n) = false := by simp; omega
   rw [e, hg, hd]
   simp [A3, De, hd2]
 rw [hf]
 have : (((((F99 x.Load 0 50000) && (F99 x.Least 0 x.Load)) && (F99 x.Bp 0 15)) && (F99 x.Thruster (-1) 7)) && (decide ((x.Needs.length : Int) <= 4))) = true := by
  simp only [Bool.and_eq_true, Hn, decide_eq_true_eq]
  omega
 simp [andThen, this]
theorem Aia {b : Aa} (h : Ax b) : F85 b = some 0 := by
 refine Ok.eq ?_
 unfold F85
 have h1 := h.buses
 have h2 := h.brl
 have h3 := h.sol
 have h4 := h.col
 have h5 := h.phase
 have h6 := h.freq
 refine Ok.cond (λ hc => ?_) (λ _ => ?_)
 ·have : F99 b.Am 1 6 = true := Aai (by omega)
  simp only [Aqf, this, Bool.or_eq_true, decide_eq_true_eq, Bool.not_true, Bool.false_eq_true, false_or] at hc
  omega
 refine (Als h).bind λ y hy => ?_
 subst hy
 rw [Aai (x := b.Phase) (by omega), Aai (x := b.Ap) (by omega)]
 refine Ok.andThen (A := λ s => s = true) (B := λ (_ : Unit) => False) ?_ ?_ (λ _ h => h.elim)
 ·refine Ok.foldI0 (I := λ _ s => s = true) rfl (λ j x s hx hs => ?_) λ _ h => h
  subst hs
  refine Ok.next ?_
  rw [Ar8 (h.so x (List.mem_of_getElem? hx))]; rfl
 ·rintro s rfl
  refine Ok.andThen (A := λ s => s = true) (B := λ (_ : Unit) => False) ?_ ?_ (λ _ h => h.elim)
  ·refine Ok.foldI0 (I := λ _ s => s = true) rfl (λ j x s hx hs => ?_) λ _ h => h
   subst hs
   have hj := (List.getElem?_eq_some_iff.1 hx).1
   unfold vC
   have : A3 [(true, true)] (Abd x (cnt 0 j)) default = some true := by
    rw [C4 (by omega), Alr (h.co j x hx) (by omega)]; rfl
   rw [this]
   exact Ok.next rfl
  ·rintro s rfl
   exact Ok.pure rfl
def Db (x : Ag) : Prop := (0 <= x.State /\ x.State <= 3) /\ (0 <= x.Since /\ x.Since <= 2147483648) /\ (0 <= x.Ap /\ x.Ap <= 6000) /\ 0 <= x.Phase /\ x.Phase <= 3599
def B_ (b : Aa) (x : An) : Prop :=
 0 <= x.Number /\ ((x.Kind = 1 /\ x.Number < b.Ac.length) \/ (x.Kind = 2 /\ x.Number < b.Af.length) \/ (x.Kind = 3 /\ x.Number < b.Am) \/ (x.Kind = 4 /\ x.Number < b.Ae.length))
def Pr (x y : An) : Prop := x.Kind < y.Kind \/ x.Kind = y.Kind /\ x.Number < y.Number
structure D1 (b : Aa) (l : List An) : Prop where
 len : l.length <= 32
 mem : ∀ x, x ∈ l -> B_ b x
 asc : ∀ (j : Nat) x y, l[j]? = some x -> l[j + 1]? = some y -> Pr x y
def Cf (l : List Ak) (c : List Bool) (i : Nat) : List (Ak × Bool) := (l.zip c).filter λ z => (z.1.Kind == 3 && z.1.B == (i : Int)) && z.2
structure Aw (b : Aa) (p : Ab) : Prop where
 ncl : p.Ah.length = b.Af.length
 nso : p.Ac.length = b.Ac.length
 nli : p.As.length = b.Ae.length
 run : ∀ x, x ∈ p.Ac -> Db x
 lim : ∀ (i : Nat) n c, p.As[i]? = some n -> b.Ae[i]? = some c -> 0 <= n /\ n <= c.Load
 one : ∀ i, i < b.Ae.length -> (Cf b.Af p.Ah i).length <= 1
 brk : D1 b p.Aq
theorem Ao2 {x : Ag} (h : Db x) : F98 x = true := by
 obtain ⟨h1, h2, h3, h4⟩ := h
 simp only [F98, Bool.and_eq_true, Hn]
 omega
theorem Apd (l : List Ag) (h : l.length <= 9223372036854775807) : Wv l = some (l.any λ x => !F98 x) := by
 unfold Wv yD
 rw [Ki (λ y => !F98 y) (λ i y => rfl) l h]
 simp only [Option.bind_some, Q2]
theorem Ah8 (x y : Int) : J4 x y = if x < y then -1 else if x > y then 1 else 0 := by
 have h : ∀ z : Int, Zy z = false := λ z => by simp [Zy]
 unfold J4
 rw [h x, h y]
 by_cases h1 : x < y
 ·simp [h1]
 ·by_cases h2 : y < x <;> simp [h1, h2]
theorem A5m (x y : Int) : Aa9 [x, y] = some (if x = 0 then y else x) := by
 unfold Aa9
 by_cases h : x = 0
 ·subst h
  by_cases h2 : y = 0
  ·subst h2; rfl
  ·have : (y != 0) = true := by simpa using h2
   simp [foldI, P3, andThen, this]
 ·have : (x != 0) = true := by simpa using h
  simp [foldI, P3, andThen, this, h]
theorem Azo {b : Aa} (h : Ax b) {x : An} (hx : B_ b x) : F99 x.Number 0 (w64 ((Le b x.Kind) - 1)) = true := by
 have h1 := h.buses
 have h2 := h.brl
 have h3 := h.sol
 have h4 := h.col
 obtain ⟨hn, hk⟩ := hx
 have hsz : ∃ n, Le b x.Kind = n /\ x.Number < n /\ n <= 100 := by
  unfold Le
  rcases hk with ⟨k, hk⟩ | ⟨k, hk⟩ | ⟨k, hk⟩ | ⟨k, hk⟩ <;> rw [k] <;> exact ⟨_, rfl, by simpa using hk, by simp; omega⟩
 obtain ⟨n, e, g1, g2⟩ := hsz
 rw [e, Hn, Bf (by omega)]
 omega
theorem Au2 {b : Aa} (h : Ax b) {l : List An} (hl : D1 b l) : F95 b l = some true := by
 have hlen := hl.len
 unfold F95
 have hf : foldI (Un b l) l 0 () = some (.next ()) := by
  refine Da _ _ λ j x hj => ?_
  rw [Nat.zero_add]
  have hjl := (List.getElem?_eq_some_iff.1 hj).1
  have hcnt : cnt 0 j = (j : Int) := C4 (by omega)
  have hin := Azo h (hl.mem x (List.mem_of_getElem? hj))
  unfold Un Aqe
  rw [hcnt, hin]
  cases j with
  | zero => simp [A3, De]
  | succ j =>
   obtain ⟨p, hp⟩ : ∃ p, l[j]? = some p := ⟨_, List.getElem?_eq_getElem (by omega)⟩
   have hlt := hl.asc j p x hp hj
   have e : w64 ((((j + 1 : Nat) : Int)) - 1) = (j : Int) := by rw [Bf (by omega)]; omega
   have hg : getI l (j : Int) = some p := by unfold getI; simp [hp]
   have hd : decide (((j + 1 : Nat) : Int) > 0) = true := decide_eq_true (by omega)
   have ho : Aa9 [J4 p.Kind x.Kind, J4 p.Number x.Number] = some (-1) := by
    rw [A5m, Ah8, Ah8]
    rcases hlt with h1 | ⟨h1, h2⟩
    ·simp [h1]
    ·simp [h1, h2]
   rw [e, hg, hd]
   simp [A3, De, ho]
 rw [hf]
 have : decide ((l.length : Int) <= 32) = true := by simp; omega
 simp [andThen, this]
theorem Lk {l : List Ak} {c : List Bool} {j : Nat} {x : Ak} {v : Bool} (hx : l[j]? = some x) (hv : c[j]? = some v) (i : Nat) :
  Cf (l.take (j + 1)) (c.take (j + 1)) i = Cf (l.take j) (c.take j) i ++ if ((x.Kind == 3 && x.B == (i : Int)) && v) = true then [(x, v)] else [] := by
 unfold Cf
 rw [Bk hx, Bk hv, List.zip_append (by
  have h1 := (List.getElem?_eq_some_iff.1 hx).1
  have h2 := (List.getElem?_eq_some_iff.1 hv).1
  simp; omega), List.filter_append]
 congr 1
 simp only [List.zip_cons_cons, List.zip_nil_right, List.filter_cons, List.filter_nil]
theorem Aun {b : Aa} (h : Ax b) {p : Ab} (hc : p.Ah.length = b.Af.length) (i : Nat) : Ak7 b p (i : Int) = some (((Cf b.Af p.Ah i).length : Nat) : Int) := by
 refine Ok.eq ?_
 unfold Ak7
 have hb := h.brl
 refine Ok.andThen (A := λ s => s = (((Cf b.Af p.Ah i).length : Nat) : Int)) (B := λ (_ : Unit) => False) ?_ (λ s hs => Ok.pure hs) (λ _ h => h.elim)
 refine Ok.foldI0 (I := λ j s => s = (((Cf (b.Af.take j) (p.Ah.take j) i).length : Nat) : Int)) ?_ (λ j x s hx hs => ?_) λ s hs => ?_
 ·simp [Cf]
 ·have hj := (List.getElem?_eq_some_iff.1 hx).1
  obtain ⟨v, hv⟩ : ∃ v, p.Ah[j]? = some v := ⟨_, List.getElem?_eq_getElem (by omega)⟩
  have hcnt : cnt 0 j = (j : Int) := C4 (by omega)
  have hg : getI p.Ah (j : Int) = some v := by unfold getI; simp [hv]
  have hle : (Cf (b.Af.take j) (p.Ah.take j) i).length <= 24 := by
   have h1 : (Cf (b.Af.take j) (p.Ah.take j) i).length <= ((b.Af.take j).zip (p.Ah.take j)).length := List.length_filter_le _ _
   simp at h1; omega
  subst hs
  unfold Xk Auz
  rw [hcnt, hg, Lk hx hv]
  cases hk : (x.Kind == 3 && x.B == (i : Int)) with
  | false =>
   simp only [A3, De, Bool.false_and]
   exact Ok.next (by simp)
  | true =>
   simp only [A3, De, Bool.true_and]
   cases v with
   | false => exact Ok.next (by simp)
   | true =>
    refine Ok.next ?_
    show w64 _ = _
    rw [Bf (by omega)]
    simp
 ·rw [List.take_length, ← hc, List.take_length] at hs
  exact hs
theorem C7 {b : Aa} (h : Ax b) {p : Ab} (hp : Aw b p) : F43 b p = some 0 := by
 refine Ok.eq ?_
 unfold F43
 have h1 := hp.ncl
 have h2 := hp.nso
 have h3 := hp.nli
 have h4 := h.col
 have h5 := h.sol
 rw [Aia h]
 simp only [Option.bind_some]
 have c0 : Aew b p = false := by
  simp [Aew, h1, h2, h3]
 have c1 : ((0 : Int) != 0) = false := rfl
 rw [c1, c0, Au2 h hp.brk]
 simp only [cond_false, Option.bind_some]
 have hr : (p.Ac.any λ x => !F98 x) = false := by
  rw [List.any_eq_false]
  intro x hx
  rw [Ao2 (hp.run x hx)]; simp
 have : A3 [(true, true)] (Wv p.Ac) default = some false := by
  rw [Apd _ (by omega), hr]; rfl
 rw [this]
 simp only [Option.bind_some]
 refine Ok.andThen (A := λ s => s = true) (B := λ (_ : Unit) => False) ?_ ?_ (λ _ h => h.elim)
 ·refine Ok.foldI0 (I := λ _ s => s = true) rfl (λ j x s hx hs => ?_) λ _ h => h
  subst hs
  have hj := (List.getElem?_eq_some_iff.1 hx).1
  obtain ⟨c, hc⟩ : ∃ c, b.Ae[j]? = some c := ⟨_, List.getElem?_eq_getElem (by omega)⟩
  have hcnt : cnt 0 j = (j : Int) := C4 (by omega)
  have hg : getI b.Ae (j : Int) = some c := by unfold getI; simp [hc]
  have hl := hp.lim j x c hx hc
  have hone := hp.one j (by omega)
  unfold vR
  rw [hcnt, hg]
  have e1 : A3 [(true, true)] (some c) default = some c := rfl
  rw [e1]
  simp only [Option.bind_some]
  have e2 : (true && F99 x 0 c.Load) = true := by rw [Aai hl]; rfl
  rw [e2, Aun h h1]
  have e3 : A3 [(true, true)] (some (((Cf b.Af p.Ah j).length : Nat) : Int)) default = some (((Cf b.Af p.Ah j).length : Nat) : Int) := rfl
  rw [e3]
  simp only [Option.bind_some]
  refine Ok.next ?_
  simp; omega
 ·rintro s rfl
  exact Ok.pure rfl
theorem Iz (x lo hi : Int) : B5 x lo hi = true ↔ lo <= x /\ x <= hi := by
 simp [B5]
theorem qQ {b : Aa} (h : Ax b) (x : An) : F71 b x = true ↔ B_ b x := by
 have h1 := h.buses
 have h2 := h.brl
 have h3 := h.sol
 have h4 := h.col
 unfold F71 B_
 rw [Bf (n := (b.Ac.length : Int) - 1) (by omega), Bf (n := (b.Af.length : Int) - 1) (by omega), Bf (n := b.Am - 1) (by omega), Bf (n := (b.Ae.length : Int) - 1) (by omega)]
 by_cases k1 : x.Kind = 1
 ·rw [beq_iff_eq.2 k1, cond_true, Iz]; omega
 rw [beq_eq_false_iff_ne.2 k1, cond_false]
 by_cases k2 : x.Kind = 2
 ·rw [beq_iff_eq.2 k2, cond_true, Iz]; omega
 rw [beq_eq_false_iff_ne.2 k2, cond_false]
 by_cases k3 : x.Kind = 3
 ·rw [beq_iff_eq.2 k3, cond_true, Iz]; omega
 rw [beq_eq_false_iff_ne.2 k3, cond_false]
 by_cases k4 : x.Kind = 4
 ·rw [beq_iff_eq.2 k4, cond_true, Iz]; omega
 ·rw [beq_eq_false_iff_ne.2 k4]
  simp only [cond_false, Bool.false_eq_true, false_iff]
  omega
theorem Ahm {l : List Ak} : ∀ {c d : List Bool}, c.length = d.length -> (∀ k : Nat, c[k]? = some true -> d[k]? = some true) -> ∀ i, (Cf l c i).length <= (Cf l d i).length := by
 induction l with
 | nil => intro c d _ _ i; simp [Cf]
 | cons x l ih =>
  intro c d hl h i
  cases c with
  | nil => simp [Cf]
  | cons v c => cases d with
   | nil => simp at hl
   | cons u d =>
    have := ih (c := c) (d := d) (by simpa using hl) (λ k hk => by have := h (k + 1) (by simpa using hk); simpa using this) i
    have h0 : v = true -> u = true := λ e => by have := h 0 (by simp [e]); simpa using this
    unfold Cf at this ⊢
    simp only [List.zip_cons_cons, List.filter_cons]
    cases hk : (x.Kind == 3 && x.B == (i : Int)) with
    | false => simpa using this
    | true =>
     cases v with
     | false => cases u <;> simp <;> omega
     | true => rw [h0 rfl]; simp; omega
theorem Awr {b : Aa} (h : Ax b) {s0 : Ai} (hs0 : Bw s0) :
  Ok (whileN (K6 b) 1152921504606846976 (0, s0.L, s0.At, ([] : List Bool))) (Dq (λ s => Bw ⟨s.2.1, s.2.2.1⟩ /\ s.2.2.2.length = b.Af.length) (λ (_ : Unit) => False)) := by
 have hb := h.brl
 refine Ok.whileN (λ s => (0 <= s.1 /\ s.1 <= (b.Af.length : Int)) /\ Bw ⟨s.2.1, s.2.2.1⟩ /\ (s.2.2.2.length : Int) = s.1) (λ s => ((b.Af.length : Int) - s.1).toNat) _ _ ?_ ?_ ?_
 ·exact ⟨by dsimp only; omega, hs0, by simp⟩
 ·dsimp only; omega
 ·rintro ⟨i, L, a, l⟩ ⟨⟨h1, h2⟩, h4, h5⟩
  dsimp only at h1 h2 h4 h5
  unfold K6 Aiv
  refine Ok.cond (λ h => ?_) (λ h => ?_)
  ·simp only [decide_eq_true_eq] at h
   have e : w64 (i + 1) = i + 1 := Bf (by omega)
   dsimp only
   rw [e]
   refine (E_ h4 2 (by omega) (by omega)).bind λ u hu => (Ok.appI (by simp; omega)).bind λ m hm => Ok.next ?_
   subst hm
   exact ⟨⟨by dsimp only; omega, hu.1, by simp; omega⟩, by dsimp only; omega⟩
  ·simp only [decide_eq_false_iff_not] at h
   exact Ok.brk ⟨h4, by dsimp only; omega⟩
theorem Bm {α : Type} {l : List α} {j : Nat} {x : α} (h : l[j]? = some x) : getI l (j : Int) = some x := by unfold getI; simp [h]
theorem X8 {α : Type} {l : List α} {j : Nat} {x : α} (h : j < l.length) : setI l (j : Int) x = some (l.set j x) := by
 unfold setI
 have h1 : decide ((0 : Int) <= (j : Int)) = true := by simp
 have h2 : decide ((j : Int) < (l.length : Int)) = true := by simp; omega
 rw [h1, h2]; simp
theorem Awp {b : Aa} (h : Ax b) {n : Int} {i : Nat} (hn : n = (i : Int)) {c : List Bool} (hc : c.length = b.Af.length) (w : Int × List Bool) (hw : w.1 = n) :
  Ok (foldI (K4 w) b.Af 0 (true, c)) (Dq (λ s => s.2.length = b.Af.length /\ (∀ k : Nat, s.2[k]? = some true -> c[k]? = some true) /\ (Cf b.Af s.2 i).length <= 1) (λ (_ : Unit) => False)) := by
 have hb := h.brl
 refine Ok.foldI0 (I := λ j s => s.2.length = b.Af.length /\ (∀ k : Nat, s.2[k]? = some true -> c[k]? = some true) /\ (s.1 = true -> Cf (b.Af.take j) (s.2.take j) i = []) /\ (Cf (b.Af.take j) (s.2.take j) i).length <= 1) ?_ (λ j x s hx hs => ?_) λ s hs => ?_
 ·exact ⟨hc, λ _ h => h, λ _ => by simp [Cf], by simp [Cf]⟩
 ·obtain ⟨f, d⟩ := s
  obtain ⟨h1, h2, h3, h4⟩ := hs
  dsimp only at h1 h2 h3 h4
  have hj := (List.getElem?_eq_some_iff.1 hx).1
  obtain ⟨v, hv⟩ : ∃ v, d[j]? = some v := ⟨_, List.getElem?_eq_getElem (by omega)⟩
  have hcnt : cnt 0 j = (j : Int) := C4 (by omega)
  unfold K4 Uc
  dsimp only
  rw [hcnt, Bm hv, X8 (by omega), hw, hn]
  cases hk : (x.Kind == 3 && x.B == (i : Int)) with
  | false =>
   simp only [A3, De, Bool.false_and]
   refine Ok.next ⟨h1, h2, λ e => ?_, ?_⟩ <;> dsimp only <;> rw [Lk hx hv, hk]
   ·simpa using h3 e
   ·simpa using h4
  | true =>
   simp only [A3, De, Bool.true_and]
   cases v with
   | false =>
    refine Ok.next ⟨h1, h2, λ e => ?_, ?_⟩ <;> dsimp only <;> rw [Lk hx hv, hk]
    ·simpa using h3 e
    ·simpa using h4
   | true =>
    have hset : (d.set j f)[j]? = some f := by rw [List.getElem?_set_self (by omega)]
    have htake : (d.set j f).take j = d.take j := by rw [List.take_set_of_le (Nat.le_refl j)]
    refine Ok.next ⟨by simpa using h1, λ k hk2 => ?_, λ e => ?_, ?_⟩
    ·dsimp only at hk2
     rw [List.getElem?_set] at hk2
     split at hk2
     ·rename_i e; subst e; exact h2 _ hv
     ·exact h2 _ hk2
    ·cases e
    ·dsimp only
     rw [Lk hx hset, hk, htake]
     cases f with
     | false => simpa using h4
     | true => simp [h3 rfl]
 ·rw [List.take_length] at hs
  obtain ⟨h1, h2, h3, h4⟩ := hs
  have : s.2.take b.Af.length = s.2 := List.take_of_length_le (by omega)
  rw [this] at h4
  exact ⟨h1, h2, h4⟩
theorem Awq {b : Aa} (h : Ax b) {c : List Bool} (hc : c.length = b.Af.length) :
  Ok (whileN (K5 b) 1152921504606846976 (0, c)) (Dq (λ s => s.2.length = b.Af.length /\ ∀ i, i < b.Ae.length -> (Cf b.Af s.2 i).length <= 1) (λ (_ : Unit) => False)) := by
 have hco := h.col
 refine Ok.whileN (λ s => (0 <= s.1 /\ s.1 <= (b.Ae.length : Int)) /\ s.2.length = b.Af.length /\ ∀ i : Nat, (i : Int) < s.1 -> (Cf b.Af s.2 i).length <= 1) (λ s => ((b.Ae.length : Int) - s.1).toNat) _ _ ?_ ?_ ?_
 ·exact ⟨by dsimp only; omega, hc, λ i hi => by dsimp only at hi; omega⟩
 ·dsimp only; omega
 ·rintro ⟨n, d⟩ ⟨⟨h1, h2⟩, h3, h4⟩
  dsimp only at h1 h2 h3 h4
  unfold K5 Aiu
  refine Ok.cond (λ hq => ?_) (λ hq => ?_)
  ·simp only [decide_eq_true_eq] at hq
   have e : w64 (n + 1) = n + 1 := Bf (by omega)
   dsimp only
   refine (Awp h (n := n) (i := n.toNat) (by omega) h3 (n, d) rfl).inner (λ s hs => ?_) (λ _ h => h.elim)
   rw [e]
   obtain ⟨g1, g2, g3⟩ := hs
   refine Ok.next ⟨⟨by dsimp only; omega, g1, λ i hi => ?_⟩, by dsimp only; omega⟩
   dsimp only at hi ⊢
   by_cases e : (i : Int) = n
   ·have : i = n.toNat := by omega
    subst this; exact g3
   ·exact Nat.le_trans (Ahm (by omega) g2 i) (h4 i (by omega))
  ·simp only [decide_eq_false_iff_not] at hq
   exact Ok.brk ⟨h3, λ i hi => h4 i (by omega)⟩
theorem Awo {b : Aa} (h : Ax b) {s0 : Ai} (hs0 : Bw s0) :
  Ok (whileN (K3 b) 1152921504606846976 (0, s0.L, s0.At, ([] : List Ag))) (Dq (λ s => Bw ⟨s.2.1, s.2.2.1⟩ /\ s.2.2.2.length = b.Ac.length /\ ∀ x, x ∈ s.2.2.2 -> Db x) (λ (_ : Unit) => False)) := by
 have hb := h.sol
 refine Ok.whileN (λ s => (0 <= s.1 /\ s.1 <= (b.Ac.length : Int)) /\ Bw ⟨s.2.1, s.2.2.1⟩ /\ (s.2.2.2.length : Int) = s.1 /\ ∀ x, x ∈ s.2.2.2 -> Db x) (λ s => ((b.Ac.length : Int) - s.1).toNat) _ _ ?_ ?_ ?_
 ·exact ⟨by dsimp only; omega, hs0, by simp, λ x hx => by simp at hx⟩
 ·dsimp only; omega
 ·rintro ⟨i, L, a, l⟩ ⟨⟨h1, h2⟩, h4, h5, h6⟩
  dsimp only at h1 h2 h4 h5 h6
  unfold K3 Adb
  refine Ok.cond (λ h => ?_) (λ h => ?_)
  ·simp only [decide_eq_true_eq] at h
   have e : w64 (i + 1) = i + 1 := Bf (by omega)
   dsimp only
   rw [e]
   refine (D0 h4 _ (by simp) (by simp)).bind λ u hu => (E_ hu.1 5 (by omega) (by omega)).bind λ v hv => (D0 hv.1 _ (by simp) (by simp)).bind λ p hp => (D0 hp.1 _ (by simp) (by simp)).bind λ q hq => (Ok.appI (by simp; omega)).bind λ m hm => Ok.next ?_
   subst hm
   have g1 : u.1 = 0 \/ u.1 = 1 \/ u.1 = 2 \/ u.1 = 2 \/ u.1 = 2 \/ u.1 = 3 := by simpa using hu.2
   have g2 := hv.2
   have g3 : p.1 = 5000 \/ p.1 = 5000 \/ p.1 = 5005 \/ p.1 = 4950 := by simpa using hp.2
   have g4 : q.1 = 0 \/ q.1 = 0 \/ q.1 = 40 \/ q.1 = 1800 \/ q.1 = 3590 := by simpa using hq.2
   refine ⟨⟨by dsimp only; omega, hq.1, by simp; omega, λ x hx => ?_⟩, by dsimp only; omega⟩
   rcases List.mem_append.1 hx with hx | hx
   ·exact h6 x hx
   ·simp at hx; subst hx
    exact ⟨by dsimp only; omega, by dsimp only; omega, by dsimp only; omega, by dsimp only; omega⟩
  ·simp only [decide_eq_false_iff_not] at h
   exact Ok.brk ⟨h4, by dsimp only; omega, h6⟩
theorem Awn {b : Aa} (h : Ax b) {s0 : Ai} (hs0 : Bw s0) :
  Ok (foldI K2 b.Ae 0 (s0.L, s0.At, ([] : List Int))) (Dq (λ s => Bw ⟨s.1, s.2.1⟩ /\ s.2.2.length = b.Ae.length /\ ∀ (i : Nat) n c, s.2.2[i]? = some n -> b.Ae[i]? = some c -> 0 <= n /\ n <= c.Load) (λ (_ : Unit) => False)) := by
 have hb := h.col
 refine Ok.foldI0 (I := λ j s => Bw ⟨s.1, s.2.1⟩ /\ s.2.2.length = j /\ ∀ (i : Nat) n c, s.2.2[i]? = some n -> b.Ae[i]? = some c -> 0 <= n /\ n <= c.Load) ?_ (λ j x s hx hs => ?_) λ s hs => hs
 ·exact ⟨hs0, rfl, λ i n c hn => by simp at hn⟩
 ·obtain ⟨L, a, l⟩ := s
  obtain ⟨h1, h2, h3⟩ := hs
  dsimp only at h1 h2 h3
  have hj := (List.getElem?_eq_some_iff.1 hx).1
  unfold K2
  dsimp only
  refine (D0 h1 _ (by simp) (by simp)).bind λ u hu => (Ok.appI (by simp; omega)).bind λ m hm => Ok.next ⟨hu.1, ?_, λ i n c hn hc => ?_⟩
  ·subst hm; simp [h2]
  ·dsimp only at hn
   subst hm
   rw [List.getElem?_append] at hn
   split at hn
   ·exact h3 i n c hn hc
   ·rename_i hi
    have hlt := (List.getElem?_eq_some_iff.1 hn).1
    simp at hlt
    have : i = j := by omega
    subst this
    rw [hx] at hc; cases hc
    rw [h2] at hn
    simp at hn; subst hn
    obtain ⟨g1, g2, _⟩ := h.co _ x hx
    have g3 := Av9 (x := x.Load) (by omega) (by omega)
    have g4 : u.1 = x.Load \/ u.1 = x.Load \/ u.1 = x.Least \/ u.1 = w64 (Int.tdiv x.Load 3) := by simpa using hu.2
    omega
theorem Awm {b : Aa} (h : Ax b) {s0 : Ai} (hs0 : Bw s0) :
  Ok (whileN (K1 b) 7 (1, s0.L, s0.At, ([] : List An))) (Dq (λ s => Bw ⟨s.2.1, s.2.2.1⟩ /\ D1 b s.2.2.2 /\ s.2.2.2.length <= 4) (λ (_ : Unit) => False)) := by
 refine Ok.whileN (λ s => (1 <= s.1 /\ s.1 <= 5) /\ Bw ⟨s.2.1, s.2.2.1⟩ /\ ((s.2.2.2.length : Int) < s.1) /\ (∀ x, x ∈ s.2.2.2 -> B_ b x /\ x.Kind < s.1) /\ ∀ (j : Nat) x y, s.2.2.2[j]? = some x -> s.2.2.2[j + 1]? = some y -> Pr x y) (λ s => (5 - s.1).toNat) _ _ ?_ ?_ ?_
 ·exact ⟨by dsimp only; omega, hs0, by simp, λ x hx => by simp at hx, λ j x y hx => by simp at hx⟩
 ·dsimp only; omega
 ·rintro ⟨i, L, a, l⟩ ⟨⟨h1, h2⟩, h4, h5, h6, h7⟩
  dsimp only at h1 h2 h4 h5 h6 h7
  unfold K1
  refine Ok.cond (λ hq => ?_) (λ hq => ?_)
  ·simp only [decide_eq_true_eq] at hq
   have e : w64 (i + 1) = i + 1 := Bf (by omega)
   dsimp only
   rw [e]
   have skip : ∀ {u : Ai}, Bw u -> Ok (some (.next (i + 1, u.L, u.At, l)) : Option (Ctl (Int × List Int × Int × List An) Unit)) (G2 (λ s => ((1 <= s.1 /\ s.1 <= 5) /\ Bw ⟨s.2.1, s.2.2.1⟩ /\ ((s.2.2.2.length : Int) < s.1) /\ (∀ x, x ∈ s.2.2.2 -> B_ b x /\ x.Kind < s.1) /\ ∀ (j : Nat) x y, s.2.2.2[j]? = some x -> s.2.2.2[j + 1]? = some y -> Pr x y) /\ (5 - s.1).toNat < (5 - i).toNat) (λ s => Bw ⟨s.2.1, s.2.2.1⟩ /\ D1 b s.2.2.2 /\ s.2.2.2.length <= 4) (λ _ => False)) := λ hu =>
    Ok.next ⟨⟨by dsimp only; omega, hu, by dsimp only; omega, λ x hx => ⟨(h6 x hx).1, by have := (h6 x hx).2; dsimp only; omega⟩, h7⟩, by dsimp only; omega⟩
   refine (E_ h4 5 (by omega) (by omega)).bind λ u hu => Ok.cond (λ _ => ?_) (λ _ => skip hu.1)
   refine (E_ hu.1 4 (by omega) (by omega)).bind λ v hv => Ok.cond (λ he => ?_) (λ _ => skip hv.1)
   rw [qQ h] at he
   refine (Ok.appI (by simp; omega)).bind λ m hm => Ok.next ?_
   subst hm
   refine ⟨⟨by dsimp only; omega, hv.1, by simp; omega, λ x hx => ?_, λ j x y hx hy => ?_⟩, by dsimp only; omega⟩
   ·rcases List.mem_append.1 hx with hx | hx
    ·exact ⟨(h6 x hx).1, by have := (h6 x hx).2; dsimp only; omega⟩
    ·simp at hx; subst hx; exact ⟨he, by dsimp only; omega⟩
   ·dsimp only at hx hy
    have hyl := (List.getElem?_eq_some_iff.1 hy).1
    simp at hyl
    rw [List.getElem?_append_left (by omega)] at hx
    rw [List.getElem?_append] at hy
    split at hy
    ·exact h7 j x y hx hy
    ·rename_i hn
     have e0 : j + 1 - l.length = 0 := by omega
     rw [e0] at hy
     simp at hy; subst hy
     exact .inl (h6 x (List.mem_of_getElem? hx)).2
  ·simp only [decide_eq_false_iff_not] at hq
   exact Ok.brk ⟨h4, ⟨by dsimp only; omega, λ x hx => (h6 x hx).1, h7⟩, by dsimp only; omega⟩
theorem Ax9 {b : Aa} (h : Ax b) {s : Ai} (hs : Bw s) : Ok (Vp s b) λ y => (Aw b y.1 /\ y.1.Aq.length <= 4) /\ Bw y.2 := by
 unfold Vp
 refine (Awr h hs).andThen (λ s0 h0 => ?_) (λ _ h => h.elim)
 refine (Awq h h0.2).andThen (λ s1 h1 => ?_) (λ _ h => h.elim)
 refine (Awo h h0.1).andThen (λ s3 h3 => ?_) (λ _ h => h.elim)
 refine (Awn h h3.1).andThen (λ s4 h4 => ?_) (λ _ h => h.elim)
 refine (Awm h h4.1).andThen (λ s5 h5 => ?_) (λ _ h => h.elim)
 exact Ok.pure ⟨⟨⟨h1.1, h3.2.1, h4.2.1, h3.2.2, h4.2.2, h1.2, h5.2.1⟩, h5.2.2⟩, h5.1⟩
def Eu (b : Aa) (p : Ab) (k i : Int) : Option Int := ((b.Af.zip p.Ah).find? λ z => (z.1.Kind == k && z.1.B == i) && z.2).map (·.1.A)
def F5 (o : Option Int) : Int × Bool := match o with
 | some a => (a, true)
 | none => (0, false)
theorem Ag4 {p : Ab} {k i : Int} : ∀ (l : List Ak) (c : List Bool) (n : Nat), n + l.length <= 9223372036854775807 -> l.length = c.length -> p.Ah.drop n = c ->
  foldI (P0 p k i) l n () = match ((l.zip c).find? λ z => (z.1.Kind == k && z.1.B == i) && z.2) with
   | some z => some (.ret (z.1.A, true))
   | none => some (.next ())
 | [], c, n, _, _, _ => by simp [foldI]
 | x :: l, [], n, _, h, _ => by simp at h
 | x :: l, v :: c, n, hn, h, hd => by
  simp only [List.length_cons] at hn h
  have hv : p.Ah[n]? = some v := by
   have := congrArg (·[0]?) hd
   simpa [List.getElem?_drop] using this
  have hd' : p.Ah.drop (n + 1) = c := by rw [← List.drop_drop, hd]; rfl
  have ih := Ag4 (p := p) (k := k) (i := i) l c (n + 1) (by omega) (by omega) hd'
  have hcnt : cnt 0 n = (n : Int) := C4 (by omega)
  simp only [foldI, P0, Aut, hcnt, Bm hv, List.zip_cons_cons, List.find?_cons]
  cases hk : (x.Kind == k && x.B == i) with
  | false => simpa [A3, De] using ih
  | true =>
   cases v with
   | false => simpa [A3, De] using ih
   | true => simp [A3, De]
theorem Atf {b : Aa} (h : Ax b) {p : Ab} (hc : p.Ah.length = b.Af.length) (k i : Int) : Aa8 b p k i = some (F5 (Eu b p k i)) := by
 have hb := h.brl
 unfold Aa8
 rw [Ag4 b.Af p.Ah 0 (by omega) (by omega) rfl]
 unfold Eu
 cases (b.Af.zip p.Ah).find? λ z => (z.1.Kind == k && z.1.B == i) && z.2 with
 | none => rfl
 | some z => rfl
theorem Aty {b : Aa} (h : Ax b) {p : Ab} (hc : p.Ah.length = b.Af.length) (i : Int) : Z3 b p i = some (F5 (Eu b p 3 i)) := by
 unfold Z3
 rw [Atf h hc]; rfl
def F_ (b : Aa) (p : Ab) (i : Int) : Option Int :=
 if 0 <= i /\ i < p.Ac.length /\ (p.Ac.getD i.toNat default).State = 2 then Eu b p 2 i else none
theorem Ms {b : Aa} (h : Ax b) {p : Ab} (hp : Aw b p) (i : Int) : Z4 b p i = some (F5 (F_ b p i)) := by
 have hs := h.sol
 have hn := hp.nso
 refine Ok.eq ?_
 unfold Z4
 have e1 : w64 ((p.Ac.length : Int) - 1) = (p.Ac.length : Int) - 1 := Bf (by omega)
 by_cases hi : 0 <= i /\ i < p.Ac.length
 ·have hin : F99 i 0 (w64 ((p.Ac.length : Int) - 1)) = true := by rw [e1]; exact Aai (by omega)
  obtain ⟨x, hx⟩ : ∃ x, p.Ac[i.toNat]? = some x := ⟨_, List.getElem?_eq_getElem (by omega)⟩
  have hg : getI p.Ac i = some x := by have := Bm hx; rwa [Int.toNat_of_nonneg hi.1] at this
  have hd : p.Ac.getD i.toNat default = x := by simp [List.getD, hx]
  rw [hin, hg]
  refine Ok.bind (P := λ y => y = x) (Ok.guard (λ _ => Ok.pure rfl) λ hn => (hn ⟨rfl, trivial⟩).elim) λ y hy => ?_
  subst hy
  unfold F_
  refine Ok.cond (λ hc => ?_) (λ hc => ?_)
  ·simp only [Ub, hin, Bool.or_eq_true, Bool.not_true, Bool.false_eq_true, false_or, bne_iff_ne, ne_eq] at hc
   rw [hd, if_neg (λ hh => hc hh.2.2)]
   exact Ok.pure rfl
  ·have hc := ff hc
   simp only [Ub, hin, Bool.or_eq_true, Bool.not_true, Bool.false_eq_true, false_or, bne_iff_ne, ne_eq, Decidable.not_not] at hc
   rw [hd, if_pos ⟨hi.1, hi.2, hc⟩, Atf h hp.ncl]
   exact Ok.pure rfl
 ·have hin : F99 i 0 (w64 ((p.Ac.length : Int) - 1)) = false := by
   cases hq : F99 i 0 (w64 ((p.Ac.length : Int) - 1)) with
   | false => rfl
   | true => rw [Hn, e1] at hq; omega
  rw [hin]
  unfold F_
  rw [if_neg (λ hh => hi ⟨hh.1, hh.2.1⟩)]
  refine Ok.bind (P := λ _ => True) (Ok.guard (λ hg => absurd hg.1 (by simp)) λ _ => trivial) λ y _ => ?_
  refine Ok.cond (λ _ => Ok.pure rfl) (λ hc => ?_)
  simp [Ub, hin] at hc
theorem Yk {b : Aa} (h : Ax b) {p : Ab} {k i a : Int} (e : Eu b p k i = some a) : 0 <= a /\ a < b.Am := by
 unfold Eu at e
 rw [Option.map_eq_some_iff] at e
 obtain ⟨z, hz, rfl⟩ := e
 exact (h.br z.1 (List.of_mem_zip (List.mem_of_find?_eq_some hz)).1).1
theorem Ah7 {b : Aa} (h : Ax b) {p : Ab} {i a : Int} (e : F_ b p i = some a) : 0 <= a /\ a < b.Am := by
 unfold F_ at e
 split at e
 ·exact Yk h e
 ·cases e
def Ew (s : List Int) (z : Ak × Bool) : List Int :=
 if z.1.Kind = 1 /\ z.2 = true then (s.set z.1.A.toNat (min (s.getD z.1.A.toNat 0) (s.getD z.1.B.toNat 0))).set z.1.B.toNat (min (s.getD z.1.A.toNat 0) (s.getD z.1.B.toNat 0)) else s
def Dd (l : List (Ak × Bool)) (s : List Int) : List Int := l.foldl Ew s
def Cm (n : Nat) : List Int := (List.range n).map λ (i : Nat) => (i : Int)
def Bd (b : Aa) (p : Ab) : List Int := (List.range b.Am.toNat).foldl (λ s _ => Dd (b.Af.zip p.Ah) s) (Cm b.Am.toNat)
theorem D8 (s : List Int) (z : Ak × Bool) : (Ew s z).length = s.length := by
 unfold Ew; split <;> simp
theorem Ff (l : List (Ak × Bool)) : ∀ s : List Int, (Dd l s).length = s.length := by
 induction l with
 | nil => intro s; rfl
 | cons z l ih => intro s; show (Dd l (Ew s z)).length = _; rw [ih, D8]
theorem Oo {b : Aa} {p : Ab} {n : Nat} : ∀ (xs : List Nat) (s : List Int), s.length = n -> (xs.foldl (λ s _ => Dd (b.Af.zip p.Ah) s) s).length = n
 | [], s, h => h
 | _ :: xs, s, h => Oo xs _ (by rw [Ff]; exact h)
theorem Ic (b : Aa) (p : Ab) : (Bd b p).length = b.Am.toNat := Oo _ _ (by simp [Cm])
theorem Axg {b : Aa} (h : Ax b) {p : Ab} (hc : p.Ah.length = b.Af.length) {s : List Int} (hs : s.length = b.Am.toNat) :
  Ok (foldI (P5 p) b.Af 0 s) (Dq (λ r => r = Dd (b.Af.zip p.Ah) s) (λ (_ : Unit) => False)) := by
 have hb := h.brl
 have hbu := h.buses
 refine Ok.foldI0 (I := λ j r => r = Dd ((b.Af.take j).zip (p.Ah.take j)) s) (by simp [Dd]) (λ j x r hx hr => ?_) λ r hr => ?_
 ·have hj := (List.getElem?_eq_some_iff.1 hx).1
  obtain ⟨v, hv⟩ : ∃ v, p.Ah[j]? = some v := ⟨_, List.getElem?_eq_getElem (by omega)⟩
  have hcnt : cnt 0 j = (j : Int) := C4 (by omega)
  have hl : r.length = b.Am.toNat := by rw [hr, Ff, hs]
  have hnext : Dd ((b.Af.take (j + 1)).zip (p.Ah.take (j + 1))) s = Ew r (x, v) := by
   rw [Bk hx, Bk hv, List.zip_append (by simp; omega)]
   unfold Dd at hr ⊢
   rw [List.foldl_append, ← hr]; rfl
  rw [hnext]
  unfold P5
  rw [hcnt, Bm hv]
  obtain ⟨⟨a0, a1⟩, hk⟩ := h.br x (List.mem_of_getElem? hx)
  by_cases k1 : x.Kind = 1
  ·rw [beq_iff_eq.2 k1]
   refine Ok.bind (P := λ y => y = v) (Ok.guard (λ _ => Ok.pure rfl) λ hn => (hn ⟨rfl, trivial⟩).elim) λ y hy => ?_
   subst hy
   have hB : x.A < x.B /\ x.B < b.Am := by omega
   cases y with
   | false =>
    refine Ok.cond (λ hq => by simp at hq) (λ _ => Ok.next ?_)
    simp [Ew]
   | true =>
    refine Ok.cond (λ _ => ?_) (λ hq => by simp at hq)
    refine (Ok.getI a0 (by omega)).bind λ u hu => (Ok.getI (by omega) (by omega)).bind λ w hw => (Ok.setI a0 (by omega)).bind λ t ht => ?_
    subst ht
    refine (Ok.getI (by omega) (by simp; omega)).bind λ _ _ => (Ok.setI (by omega) (by simp; omega)).bind λ t ht => Ok.next ?_
    subst ht
    simp [Ew, k1, List.getD, hu, hw]
  ·rw [beq_eq_false_iff_ne.2 k1]
   refine Ok.bind (P := λ _ => True) (Ok.guard (λ hg => absurd hg.1 (by simp)) λ _ => trivial) λ y _ => ?_
   refine Ok.cond (λ hq => by simp at hq) (λ _ => Ok.next ?_)
   simp [Ew, k1]
 ·rw [List.take_length, ← hc, List.take_length] at hr
  exact hr
theorem Atv {b : Aa} (h : Ax b) {p : Ab} (hc : p.Ah.length = b.Af.length) : Abb b p = some (Bd b p) := by
 have hbu := h.buses
 refine Ok.eq ?_
 unfold Abb
 refine (Ok.mkI (by omega) (by omega)).bind λ y hy => ?_
 refine Ok.andThen (A := λ s => s = Cm b.Am.toNat) (B := λ (_ : Unit) => False) ?_ ?_ (λ _ h => h.elim)
 ·refine Ok.foldI0 (I := λ j s => s = (List.range b.Am.toNat).map λ i => if i < j then (i : Int) else 0) ?_ (λ j x s hx hs => ?_) λ s hs => ?_
  ·rw [hy, Nm]
   exact List.map_congr_left λ i _ => by simp
  ·have hj := (List.getElem?_eq_some_iff.1 hx).1
   have hjl : j < b.Am.toNat := by rw [hy] at hj; simpa using hj
   have hcnt : cnt 0 j = (j : Int) := C4 (by omega)
   subst hs
   unfold Xd
   rw [hcnt]
   refine (Ok.getR (by omega) (by omega)).bind λ _ _ => (Ok.setR (by omega) (by omega)).bind λ z hz => Ok.next ?_
   rw [hz]
   refine List.map_congr_left λ i _ => ?_
   by_cases e : i = j
   ·subst e; simp
   ·have : ((j : Int)).toNat = j := by omega
    rw [this, if_neg e]
    by_cases e2 : i < j
    ·rw [if_pos e2, if_pos (by omega)]
    ·rw [if_neg e2, if_neg (by omega)]
  ·rw [hs]
   unfold Cm
   refine List.map_congr_left λ i hi => ?_
   rw [hy]
   simp at hi
   simp [hi]
 ·rintro s rfl
  refine Ok.andThen (A := λ s => s = Bd b p) (B := λ (_ : Unit) => False) ?_ (λ s hs => Ok.pure hs) (λ _ h => h.elim)
  refine Ok.foldI0 (I := λ j s => s = (List.range j).foldl (λ s _ => Dd (b.Af.zip p.Ah) s) (Cm b.Am.toNat)) rfl (λ j x s hx hs => ?_) λ s hs => ?_
  ·unfold Xc
   have hl : s.length = b.Am.toNat := by rw [hs]; exact Oo _ _ (by simp [Cm])
   refine (Axg h hc hl).inner (λ r hr => Ok.next ?_) (λ _ h => h.elim)
   rw [hr, List.range_succ, List.foldl_append, ← hs]; rfl
  ·rw [hs]
   unfold Bd
   congr 2
   simp [Cm]
theorem Axf {s : List Int} (h : ∀ (i : Nat) v, s[i]? = some v -> 0 <= v /\ v <= i) {z : Ak × Bool} (hz : z.1.Kind = 1 -> 0 <= z.1.A /\ z.1.A < z.1.B /\ z.1.B < s.length) : ∀ (i : Nat) v, (Ew s z)[i]? = some v -> 0 <= v /\ v <= i := by
 unfold Ew
 split
 ·rename_i hk
  obtain ⟨h1, h2, h3⟩ := hz hk.1
  have ga : s[z.1.A.toNat]? = some (s.getD z.1.A.toNat 0) := by rw [List.getElem?_eq_getElem (by omega)]; simp [List.getD, List.getElem?_eq_getElem (show z.1.A.toNat < s.length by omega)]
  have gb : s[z.1.B.toNat]? = some (s.getD z.1.B.toNat 0) := by rw [List.getElem?_eq_getElem (by omega)]; simp [List.getD, List.getElem?_eq_getElem (show z.1.B.toNat < s.length by omega)]
  have ha := h _ _ ga
  have hb := h _ _ gb
  intro i v hv
  rw [List.getElem?_set] at hv
  split at hv
  ·rename_i e; subst e
   split at hv
   ·cases hv; omega
   ·cases hv
  ·rw [List.getElem?_set] at hv
   split at hv
   ·rename_i e; subst e
    split at hv
    ·cases hv; omega
    ·cases hv
   ·exact h i v hv
 ·exact h
theorem Acz {n : Nat} : ∀ (l : List (Ak × Bool)) (s : List Int), s.length = n -> (∀ z, z ∈ l -> z.1.Kind = 1 -> 0 <= z.1.A /\ z.1.A < z.1.B /\ z.1.B < n) -> (∀ (i : Nat) v, s[i]? = some v -> 0 <= v /\ v <= i) -> ∀ (i : Nat) v, (Dd l s)[i]? = some v -> 0 <= v /\ v <= i
 | [], s, _, _, h => h
 | z :: l, s, hs, hz, h => Acz l (Ew s z) (by rw [D8]; exact hs) (λ y hy => hz y (List.mem_cons_of_mem _ hy)) (Axf h (by rw [hs]; exact hz z List.mem_cons_self))
theorem Tw {b : Aa} (h : Ax b) (p : Ab) : ∀ (i : Nat) v, (Bd b p)[i]? = some v -> 0 <= v /\ v <= i := by
 have hbu := h.buses
 have hz : ∀ z, z ∈ b.Af.zip p.Ah -> z.1.Kind = 1 -> 0 <= z.1.A /\ z.1.A < z.1.B /\ z.1.B < (b.Am.toNat : Int) := by
  intro z hz hk
  have := h.br z.1 (List.of_mem_zip hz).1
  unfold R6 at this
  omega
 have key : ∀ (xs : List Nat) (s : List Int), s.length = b.Am.toNat -> (∀ (i : Nat) v, s[i]? = some v -> 0 <= v /\ v <= i) -> ∀ (i : Nat) v, (xs.foldl (λ s _ => Dd (b.Af.zip p.Ah) s) s)[i]? = some v -> 0 <= v /\ v <= i := by
  intro xs
  induction xs with
  | nil => intro s _ h; exact h
  | cons x xs ih => intro s hl h; exact ih _ (by rw [Ff]; exact hl) (Acz _ s hl hz h)
 refine key _ _ (by simp [Cm]) ?_
 intro i v hv
 simp only [Cm, List.getElem?_map] at hv
 cases hr : (List.range b.Am.toNat)[i]? with
 | none => rw [hr] at hv; cases hv
 | some k =>
  rw [hr] at hv
  have := List.getElem?_eq_some_iff.1 hr
  simp at this
  obtain ⟨_, rfl⟩ := this
  cases hv; dsimp only; omega
def Ii (x : Aj) : Bool := !((x.Am.length : Int) == 0)
theorem Axs (l : List Aj) (h : l.length <= 9223372036854775807) : Vm l = some (On (λ x => (x.Am.length : Int) == 0) l) := by
 unfold Vm
 exact Ki (λ x : Aj => (x.Am.length : Int) == 0) (λ i y => rfl) l h
theorem A0j (l : List Aj) (hl : l.length <= 1000) : P4 l = some (l.filter Ii) := by
 refine Ok.eq ?_
 unfold P4
 rw [Axs l (by omega)]
 simp only [Option.bind_some]
 unfold On
 cases hf : l.findIdx? λ x => (x.Am.length : Int) == 0 with
 | none =>
  rw [List.findIdx?_eq_none_iff] at hf
  refine Ok.cond (λ _ => Ok.pure ?_) (λ hc => by simp at hc)
  rw [eq_comm, List.filter_eq_self]
  intro x hx
  simp only [Ii, hf x hx]; rfl
 | some i =>
  rw [List.findIdx?_eq_some_iff_getElem] at hf
  obtain ⟨hi, hp, hn⟩ := hf
  refine Ok.cond (λ hc => ?_) (λ _ => ?_)
  ·simp only [beq_iff_eq] at hc; omega
  have e1 : w64 ((i : Int) + 1) = (i : Int) + 1 := Bf (by omega)
  simp only [e1]
  refine Ok.andThen (A := λ s => 0 <= s.1 /\ s.1 <= (l.length : Int) /\ s.2.2.length = l.length /\ s.2.2.take s.1.toNat = l.filter Ii) (B := λ (_ : Unit) => False) ?_ ?_ (λ _ h => h.elim)
  ·refine Ok.whileN (λ s => (0 <= s.1 /\ s.1 < s.2.1 /\ s.2.1 <= (l.length : Int)) /\ s.2.2.length = l.length /\ s.2.2.take s.1.toNat = (l.take s.2.1.toNat).filter Ii /\ s.2.2.drop s.2.1.toNat = l.drop s.2.1.toNat) (λ s => ((l.length : Int) - s.2.1).toNat) _ _ ?_ ?_ ?_
   ·refine ⟨by dsimp only; omega, rfl, ?_, rfl⟩
    dsimp only
    have e2 : ((i : Int) + 1).toNat = i + 1 := by omega
    rw [e2, Int.toNat_natCast, Bk (List.getElem?_eq_getElem hi), List.filter_append]
    have h1 : (l.take i).filter Ii = l.take i := by
     rw [List.filter_eq_self]
     intro x hx
     obtain ⟨j, hj, rfl⟩ := List.getElem_of_mem hx
     simp only [List.length_take] at hj
     rw [List.getElem_take]
     have := hn j (by omega)
     simp only [Ii]
     simpa using this
    have h2 : Ii l[i] = false := by simp only [Ii, hp]; rfl
    rw [h1]
    simp [h2]
   ·dsimp only; omega
   ·rintro ⟨a, j, m⟩ ⟨⟨h1, h2, h3⟩, h4, h5, h6⟩
    dsimp only at h1 h2 h3 h4 h5 h6
    unfold Of Aip
    dsimp only
    refine Ok.cond (λ hq => ?_) (λ hq => ?_)
    ·simp only [decide_eq_true_eq] at hq
     have e1 : w64 (j + 1) = j + 1 := Bf (by omega)
     have e2 : w64 (a + 1) = a + 1 := Bf (by omega)
     have e3 : (j + 1).toNat = j.toNat + 1 := by omega
     have e4 : (a + 1).toNat = a.toNat + 1 := by omega
     refine (Ok.getI (by omega) (by omega)).bind λ y hy => ?_
     have hyl : l[j.toNat]? = some y := by
      have := congrArg (·[0]?) h6
      simp only [List.getElem?_drop, Nat.add_zero] at this
      rw [← this]; exact hy
     have hdrop : ∀ (q : List Aj), q.drop j.toNat = l.drop j.toNat -> q.drop (j.toNat + 1) = l.drop (j.toNat + 1) := λ q hq => by
      rw [← List.drop_drop, hq, List.drop_drop]
     refine Ok.cond (λ hf => ?_) (λ hf => ?_)
     ·refine (Ok.getI (by omega) (by omega)).bind λ _ _ => (Ok.setI (by omega) (by omega)).bind λ z hz => ?_
      rw [e1, e2]
      subst hz
      refine Ok.next ⟨⟨by dsimp only; omega, by simpa using h4, ?_, ?_⟩, by dsimp only; omega⟩
      ·dsimp only
       rw [e3, e4, Bk hyl, List.filter_append, ← h5]
       have hfl : Ii y = true := hf
       rw [Bk (x := y) (by rw [List.getElem?_set_self (by omega)])]
       simp [hfl, List.take_set_of_le]
      ·dsimp only
       rw [e3, List.drop_set_of_lt (by omega)]
       exact hdrop m h6
     ·rw [e1]
      refine Ok.next ⟨⟨by dsimp only; omega, h4, ?_, ?_⟩, by dsimp only; omega⟩
      ·dsimp only
       have hfl : Ii y = false := hf
       rw [e3, Bk hyl, List.filter_append, ← h5]
       simp [hfl]
      ·dsimp only
       rw [e3]; exact hdrop m h6
    ·simp only [decide_eq_false_iff_not] at hq
     have e : j.toNat = l.length := by omega
     refine Ok.brk ⟨h1, by dsimp only; omega, h4, ?_⟩
     dsimp only
     rw [h5, e, List.take_length]
  ·rintro ⟨a, j, m⟩ ⟨h1, h2, h3, h4⟩
   dsimp only at h1 h2 h3 h4 ⊢
   have hc : (Gj m a.toNat ((Int.toNat (m.length : Int)) - a.toNat) (⟨([] : List Int), ([] : List Int), ([] : List Int)⟩ : Aj)).length = l.length := by
    simp [Gj]; omega
   refine (Ok.bndI h1 (by omega) (by omega)).bind λ _ _ => (Ok.bndI (by omega) h1 (by rw [hc]; omega)).bind λ _ _ => Ok.pure ?_
   rw [← h4]
   unfold Gj
   rw [Nat.sub_zero, List.take_append_of_le_length (by simp; omega), List.take_take, Nat.min_self]
def Fs (b : Aa) (p : Ab) (o : Option Int) : Option Int := o.map λ a => (Bd b p).getD a.toNat 0
def Dz (b : Aa) (p : Ab) (n f : Nat) : List Int := ((List.range n).filter λ (i : Nat) => (Bd b p).getD i 0 == (f : Int)).map λ (i : Nat) => (i : Int)
def Fg (b : Aa) (p : Ab) (n f : Nat) : List Int := ((List.range n).filter λ (i : Nat) => Fs b p (F_ b p (i : Int)) == some (f : Int)).map λ (i : Nat) => (i : Int)
def Gs (b : Aa) (p : Ab) (n f : Nat) : List Int := ((List.range n).filter λ (i : Nat) => Fs b p (Eu b p 3 (i : Int)) == some (f : Int)).map λ (i : Nat) => (i : Int)
def isl (b : Aa) (p : Ab) (f : Nat) : Aj := ⟨Dz b p b.Am.toNat f, Fg b p b.Ac.length f, Gs b p b.Ae.length f⟩
def Bj (b : Aa) (p : Ab) : List Aj := ((List.range b.Am.toNat).map (isl b p)).filter Ii
theorem Fi (q : Nat -> Bool) (n : Nat) : ((List.range (n + 1)).filter q).map (λ (i : Nat) => (i : Int)) = ((List.range n).filter q).map (λ (i : Nat) => (i : Int)) ++ if q n = true then [(n : Int)] else [] := by
 rw [List.range_succ, List.filter_append, List.map_append]
 congr 1
 cases h : q n <;> simp [h]
theorem Dj (q : Nat -> Bool) (n : Nat) : (((List.range n).filter q).map (λ (i : Nat) => (i : Int))).length <= n := by
 have := List.length_filter_le q (List.range n)
 simpa using this
theorem H0 {b : Aa} (h : Ax b) {p : Ab} (hp : Aw b p) : F89 b p = some (Bj b p) := by
 have hbu := h.buses
 have hso := h.sol
 have hco := h.col
 have hgl := Ic b p
 have hglo := Tw h p
 refine Ok.eq ?_
 unfold F89
 rw [C7 h hp]
 simp only [Option.bind_some]
 refine Ok.cond (λ hc => by simp at hc) (λ _ => ?_)
 rw [Atv h hp.ncl]
 simp only [Option.bind_some]
 refine (Ok.mkI (by omega) (by omega)).bind λ y hy => ?_
 have hget : ∀ (i : Nat), i < b.Am.toNat -> (Bd b p)[i]? = some ((Bd b p).getD i 0) := λ i hi => by
  have : i < (Bd b p).length := by omega
  simp [List.getD, List.getElem?_eq_getElem this]
 refine Ok.andThen (A := λ s => s = (List.range b.Am.toNat).map λ f => (⟨Dz b p b.Am.toNat f, [], []⟩ : Aj)) (B := λ (_ : Unit) => False) ?_ ?_ (λ _ h => h.elim)
 ·refine Ok.foldI0 (I := λ j s => s = (List.range b.Am.toNat).map λ f => (⟨Dz b p j f, [], []⟩ : Aj)) ?_ (λ j x s hx hs => ?_) λ s hs => ?_
  ·rw [hy, Nm]; rfl
  ·subst hs
   have hj : j < b.Am.toNat := by have := (List.getElem?_eq_some_iff.1 hx).1; omega
   have hlo := hglo j x hx
   have hxe : (Bd b p).getD j 0 = x := by simp [List.getD, hx]
   have hcnt : cnt 0 j = (j : Int) := C4 (by omega)
   unfold vB
   rw [hcnt]
   refine (Ok.getR (by omega) (by omega)).bind λ u hu => ?_
   subst hu
   have hl : (Dz b p j x.toNat).length <= j := Dj _ _
   refine (Ok.appI (by simp; omega)).bind λ v hv => (Ok.setR (by omega) (by omega)).bind λ w hw => Ok.next ?_
   rw [hw]
   refine List.map_congr_left λ f _ => ?_
   unfold Dz
   rw [Fi, hxe]
   by_cases e : f = x.toNat
   ·subst e
    rw [if_pos rfl, if_pos (by simp; omega), hv]
    rfl
   ·rw [if_neg e, if_neg (by simp; omega), List.append_nil]
  ·rw [hgl] at hs; exact hs
 ·rintro s rfl
  refine Ok.andThen (A := λ s => s.2 = (List.range b.Am.toNat).map λ f => (⟨Dz b p b.Am.toNat f, Fg b p b.Ac.length f, []⟩ : Aj)) (B := λ (_ : Unit) => False) ?_ ?_ (λ _ h => h.elim)
  ·refine Ok.whileN (λ s => (0 <= s.1 /\ s.1 <= (b.Ac.length : Int)) /\ s.2 = (List.range b.Am.toNat).map λ f => (⟨Dz b p b.Am.toNat f, Fg b p s.1.toNat f, []⟩ : Aj)) (λ s => ((b.Ac.length : Int) - s.1).toNat) _ _ ?_ ?_ ?_
   ·exact ⟨by dsimp only; omega, rfl⟩
   ·dsimp only; omega
   ·rintro ⟨i, s⟩ ⟨⟨h1, h2⟩, h3⟩
    dsimp only at h1 h2 h3
    subst h3
    unfold vA Ay7
    dsimp only
    refine Ok.cond (λ hq => ?_) (λ hq => ?_)
    ·simp only [decide_eq_true_eq] at hq
     have e1 : w64 (i + 1) = i + 1 := Bf (by omega)
     have e2 : (i + 1).toNat = i.toNat + 1 := by omega
     have e3 : ((i.toNat : Nat) : Int) = i := by omega
     rw [Ms h hp]
     simp only [Option.bind_some]
     cases hcn : F_ b p i with
     | none =>
      refine Ok.cond (λ hc => by simp [F5] at hc) (λ _ => ?_)
      rw [e1]
      refine Ok.next ⟨⟨by dsimp only; omega, ?_⟩, by dsimp only; omega⟩
      dsimp only
      rw [e2]
      refine List.map_congr_left λ f _ => ?_
      unfold Fg
      rw [Fi, e3, hcn, if_neg (by simp [Fs]), List.append_nil]
     | some a =>
      have hab := Ah7 h hcn
      have hga := hget a.toNat (by omega)
      have hgla := hglo _ _ hga
      refine Ok.cond (λ _ => ?_) (λ hc => by simp [F5] at hc)
      have hg2 : getI (Bd b p) a = some ((Bd b p).getD a.toNat 0) := by have := Bm hga; rwa [Int.toNat_of_nonneg hab.1] at this
      simp only [F5, hg2, Option.bind_some]
      generalize hge : (Bd b p).getD a.toNat 0 = ga at hgla
      refine (Ok.getR (by omega) (by omega)).bind λ u hu => ?_
      subst hu
      have hl : (Fg b p i.toNat ga.toNat).length <= i.toNat := Dj _ _
      refine (Ok.appI (by simp; omega)).bind λ v hv => (Ok.setR (by omega) (by omega)).bind λ w hw => ?_
      rw [e1]
      refine Ok.next ⟨⟨by dsimp only; omega, ?_⟩, by dsimp only; omega⟩
      dsimp only
      rw [hw, e2]
      refine List.map_congr_left λ f _ => ?_
      unfold Fg
      rw [Fi, e3, hcn]
      simp only [Fs, Option.map_some, hge]
      by_cases e : f = ga.toNat
      ·subst e
       rw [if_pos rfl, if_pos (by simp; omega), hv]
       rfl
      ·rw [if_neg e, if_neg (by simp; omega), List.append_nil]
    ·simp only [decide_eq_false_iff_not] at hq
     have e : i.toNat = b.Ac.length := by omega
     rw [e]
     exact Ok.brk rfl
  ·rintro ⟨i0, s⟩ hs
   dsimp only at hs
   subst hs
   dsimp only
   refine Ok.andThen (A := λ s => s.2 = (List.range b.Am.toNat).map (isl b p)) (B := λ (_ : Unit) => False) ?_ ?_ (λ _ h => h.elim)
   ·refine Ok.whileN (λ s => (0 <= s.1 /\ s.1 <= (b.Ae.length : Int)) /\ s.2 = (List.range b.Am.toNat).map λ f => (⟨Dz b p b.Am.toNat f, Fg b p b.Ac.length f, Gs b p s.1.toNat f⟩ : Aj)) (λ s => ((b.Ae.length : Int) - s.1).toNat) _ _ ?_ ?_ ?_
    ·exact ⟨by dsimp only; omega, rfl⟩
    ·dsimp only; omega
    ·rintro ⟨i, s⟩ ⟨⟨h1, h2⟩, h3⟩
     dsimp only at h1 h2 h3
     subst h3
     unfold uZ Ay6
     dsimp only
     refine Ok.cond (λ hq => ?_) (λ hq => ?_)
     ·simp only [decide_eq_true_eq] at hq
      have e1 : w64 (i + 1) = i + 1 := Bf (by omega)
      have e2 : (i + 1).toNat = i.toNat + 1 := by omega
      have e3 : ((i.toNat : Nat) : Int) = i := by omega
      rw [Aty h hp.ncl]
      simp only [Option.bind_some]
      cases hcn : Eu b p 3 i with
      | none =>
       refine Ok.cond (λ hc => by simp [F5] at hc) (λ _ => ?_)
       rw [e1]
       refine Ok.next ⟨⟨by dsimp only; omega, ?_⟩, by dsimp only; omega⟩
       dsimp only
       rw [e2]
       refine List.map_congr_left λ f _ => ?_
       unfold Gs
       rw [Fi, e3, hcn, if_neg (by simp [Fs]), List.append_nil]
      | some a =>
       have hab := Yk h hcn
       have hga := hget a.toNat (by omega)
       have hgla := hglo _ _ hga
       refine Ok.cond (λ _ => ?_) (λ hc => by simp [F5] at hc)
       have hg2 : getI (Bd b p) a = some ((Bd b p).getD a.toNat 0) := by have := Bm hga; rwa [Int.toNat_of_nonneg hab.1] at this
       simp only [F5, hg2, Option.bind_some]
       generalize hge : (Bd b p).getD a.toNat 0 = ga at hgla
       refine (Ok.getR (by omega) (by omega)).bind λ u hu => ?_
       subst hu
       have hl : (Gs b p i.toNat ga.toNat).length <= i.toNat := Dj _ _
       refine (Ok.appI (by simp; omega)).bind λ v hv => (Ok.setR (by omega) (by omega)).bind λ w hw => ?_
       rw [e1]
       refine Ok.next ⟨⟨by dsimp only; omega, ?_⟩, by dsimp only; omega⟩
       dsimp only
       rw [hw, e2]
       refine List.map_congr_left λ f _ => ?_
       unfold Gs
       rw [Fi, e3, hcn]
       simp only [Fs, Option.map_some, hge]
       by_cases e : f = ga.toNat
       ·subst e
        rw [if_pos rfl, if_pos (by simp; omega), hv]
        rfl
       ·rw [if_neg e, if_neg (by simp; omega), List.append_nil]
     ·simp only [decide_eq_false_iff_not] at hq
      have e : i.toNat = b.Ae.length := by omega
      rw [e]
      exact Ok.brk rfl
   ·rintro ⟨i1, s⟩ hs
    dsimp only at hs
    subst hs
    dsimp only
    rw [A0j _ (by simp; omega)]
    exact Ok.pure rfl
theorem Lc {α : Type} {B : Nat} {l : List α} (h : l.length * B <= 140737488355328) : appI B [] l = some l := by
 unfold appI
 have : decide ((([] : List α).length + l.length) * B <= 140737488355328) = true := by simpa using h
 rw [this]; rfl
theorem C_ {b : Aa} (h : Ax b) {p : Ab} (hp : Aw b p) : Il p = some p := by
 have h1 := hp.ncl
 have h2 := hp.nso
 have h3 := hp.nli
 have h4 := hp.brk.len
 have h5 := h.brl
 have h6 := h.sol
 have h7 := h.col
 unfold Il Arr Arq Z2 Arp
 rw [Lc (by omega), Lc (by omega), Lc (by omega), Lc (by omega)]
 rfl
theorem eqB (l : List Bool) (h : l.length <= 9223372036854775807) : Z9 l l = some true := by
 unfold Z9
 rw [Da l 0 λ j x hj => ?_]
 ·simp [andThen]
 ·have hjl := (List.getElem?_eq_some_iff.1 hj).1
  unfold Qa
  rw [Nat.zero_add, C4 (by omega), Bm hj]
  simp
theorem eqI (l : List Int) (h : l.length <= 9223372036854775807) : Z7 l l = some true := by
 unfold Z7
 rw [Da l 0 λ j x hj => ?_]
 ·simp [andThen]
 ·have hjl := (List.getElem?_eq_some_iff.1 hj).1
  unfold P9
  rw [Nat.zero_add, C4 (by omega), Bm hj]
  simp
theorem eqR (l : List Ag) (h : l.length <= 9223372036854775807) : Z8 l l = some true := by
 unfold Z8
 rw [Da l 0 λ j x hj => ?_]
 ·simp [andThen]
 ·have hjl := (List.getElem?_eq_some_iff.1 hj).1
  unfold P_ Auy
  rw [Nat.zero_add, C4 (by omega), Bm hj]
  simp
theorem eqP (l : List An) (h : l.length <= 9223372036854775807) : Z6 l l = some true := by
 unfold Z6
 rw [Da l 0 λ j x hj => ?_]
 ·simp [andThen]
 ·have hjl := (List.getElem?_eq_some_iff.1 hj).1
  unfold P8 Aux
  rw [Nat.zero_add, C4 (by omega), Bm hj]
  simp
structure Ayb (p : Ab) : Prop where
 c : p.Ah.length <= 1000
 s : p.Ac.length <= 1000
 l : p.As.length <= 1000
 k : p.Aq.length <= 1000
theorem Aw.lens {b : Aa} (h : Ax b) {p : Ab} (hp : Aw b p) : Ayb p := by
 have h1 := hp.ncl
 have h2 := hp.nso
 have h3 := hp.nli
 have h4 := hp.brk.len
 have h5 := h.brl
 have h6 := h.sol
 have h7 := h.col
 exact ⟨by omega, by omega, by omega, by omega⟩
theorem Asa {p : Ab} (h : Ayb p) : F60 p p = some true := by
 have h1 := h.c
 have h2 := h.s
 have h3 := h.l
 have h4 := h.k
 unfold F60
 rw [eqB _ (by omega), eqI _ (by omega), eqR _ (by omega), eqP _ (by omega)]
 rfl
def X2 (like x : Ag) : Ag := ⟨x.State, x.Since, like.Ap, like.Phase⟩
def Eh (like : Ag) (idx : List Int) (ss : List Ag) : List Ag := idx.foldl (λ s i => s.set i.toNat (X2 like (s.getD i.toNat default))) ss
theorem Gx (like : Ag) : ∀ (idx : List Int) (ss : List Ag), (Eh like idx ss).length = ss.length
 | [], _ => rfl
 | i :: idx, ss => by
  show (Eh like idx _).length = _
  rw [Gx like idx, List.length_set]
theorem Abu {like : Ag} {idx : List Int} {j : Nat} {i : Int} (h : idx[j]? = some i) (ss : List Ag) : Eh like (idx.take (j + 1)) ss = (Eh like (idx.take j) ss).set i.toNat (X2 like ((Eh like (idx.take j) ss).getD i.toNat default)) := by
 unfold Eh
 rw [Bk h, List.foldl_append]; rfl
theorem Af2 {p : Ab} {idx : List Int} {like : Ag} (h : ∀ i, i ∈ idx -> 0 <= i /\ i < p.Ac.length) : M7 p idx like = some (Eh like idx p.Ac) := by
 refine Ok.eq ?_
 unfold M7
 refine Ok.andThen (A := λ s => s = Eh like idx p.Ac) (B := λ (_ : Unit) => False) ?_ (λ s hs => Ok.pure hs) (λ _ h => h.elim)
 refine Ok.foldI0 (I := λ j s => s = Eh like (idx.take j) p.Ac) rfl (λ j x s hx hs => ?_) λ s hs => ?_
 ·have hi := h x (List.mem_of_getElem? hx)
  have hl : s.length = p.Ac.length := by rw [hs, Gx]
  unfold Oh
  refine (Ok.getI hi.1 (by omega)).bind λ u hu => (Ok.setI hi.1 (by omega)).bind λ v hv => ?_
  have hvg : v[x.toNat]? = some (⟨u.State, u.Since, like.Ap, u.Phase⟩ : Ag) := by rw [hv, List.getElem?_set_self (by omega)]
  refine Ok.bind (P := λ w => w = (⟨u.State, u.Since, like.Ap, u.Phase⟩ : Ag)) ((Ok.getI hi.1 (by rw [hv]; simpa using by omega)).mono λ w hw => by rw [hvg] at hw; cases hw; rfl) λ w hw => ?_
  refine (Ok.setI hi.1 (by rw [hv]; simpa using by omega)).bind λ z hz => Ok.next ?_
  rw [Abu hx, ← hs, hz, hv, hw, List.set_set]
  have : s.getD x.toNat default = u := by simp [List.getD, hu]
  rw [this]; rfl
 ·rw [List.take_length] at hs; exact hs
def Ed (b : Aa) (p : Ab) : List Ag := (Bj b p).foldl (λ s x => match x.Ac with | [] => s | i :: _ => Eh (p.Ac.getD i.toNat default) x.Ac s) p.Ac
theorem Pe {b : Aa} {p : Ab} {x : Aj} (h : x ∈ Bj b p) : ∀ i, i ∈ x.Ac -> 0 <= i /\ i < b.Ac.length := by
 unfold Bj at h
 obtain ⟨f, _, rfl⟩ := List.mem_map.1 (List.mem_filter.1 h).1
 intro i hi
 obtain ⟨k, hk, rfl⟩ := List.mem_map.1 hi
 have := List.mem_range.1 (List.mem_filter.1 hk).1
 omega
theorem Hz (b : Aa) (p : Ab) : (Bj b p).length <= b.Am.toNat := by
 have := List.length_filter_le Ii ((List.range b.Am.toNat).map (isl b p))
 simpa [Bj] using this
def Ct (p : Ab) (s : List Ag) (x : Aj) : List Ag := match x.Ac with
 | [] => s
 | i :: _ => Eh (p.Ac.getD i.toNat default) x.Ac s
theorem Mn (p : Ab) (s : List Ag) (x : Aj) : (Ct p s x).length = s.length := by
 unfold Ct; split
 ·rfl
 ·rw [Gx]
theorem Kd (p : Ab) : ∀ (l : List Aj) (s : List Ag), (l.foldl (Ct p) s).length = s.length
 | [], _ => rfl
 | x :: l, s => by show (l.foldl (Ct p) _).length = _; rw [Kd p l, Mn]
theorem H2 (b : Aa) (p : Ab) : (Ed b p).length = p.Ac.length := Kd p _ _
theorem Nv {b : Aa} (h : Ax b) {p : Ab} (hp : Aw b p) : F57 b p = some (⟨p.Ah, Ed b p, p.As, p.Aq⟩, 0) := by
 refine Ok.eq ?_
 unfold F57
 rw [C7 h hp, C_ h hp, H0 h hp]
 simp only [Option.bind_some]
 refine Ok.cond (λ hc => by simp at hc) (λ _ => ?_)
 refine Ok.andThen (A := λ s => s = Ed b p) (B := λ (_ : Unit) => False) ?_ (λ s hs => Ok.pure (by rw [hs])) (λ _ h => h.elim)
 refine Ok.foldI0 (I := λ j s => s = ((Bj b p).take j).foldl (Ct p) p.Ac) rfl (λ j x s hx hs => ?_) λ s hs => ?_
 ·have hi := Pe (List.mem_of_getElem? hx)
  have hl : s.length = p.Ac.length := by rw [hs, Kd]
  have hn := hp.nso
  have hnext : ((Bj b p).take (j + 1)).foldl (Ct p) p.Ac = Ct p s x := by rw [Bk hx, List.foldl_append, ← hs]; rfl
  unfold vJ Aqh
  cases hsrc : x.Ac with
  | nil =>
   refine Ok.cond (λ hc => by simp at hc) (λ _ => Ok.next ?_)
   rw [hnext]; simp [Ct, hsrc]
  | cons i l =>
   have hi0 := hi i (by rw [hsrc]; exact List.mem_cons_self)
   refine Ok.cond (λ _ => ?_) (λ hc => by simp at hc)
   have hg : getI (i :: l) 0 = some i := rfl
   obtain ⟨u, hu⟩ : ∃ u, p.Ac[i.toNat]? = some u := ⟨_, List.getElem?_eq_getElem (by omega)⟩
   have hg2 : getI p.Ac i = some u := by have := Bm hu; rwa [Int.toNat_of_nonneg hi0.1] at this
   rw [hg]
   simp only [Option.bind_some]
   rw [hg2]
   simp only [Option.bind_some]
   rw [Af2 (by
    intro k hk
    have := hi k (by rw [hsrc]; exact hk)
    dsimp only
    omega)]
   refine Ok.next ?_
   rw [hnext]
   have : p.Ac.getD i.toNat default = u := by simp [List.getD, hu]
   simp only [Ct, hsrc, this]
 ·rw [List.take_length] at hs; exact hs
structure Iw (y : Bh) : Prop where
 stop : 1 <= y.Stop /\ y.Stop <= 99
 start : y.Stop < y.Start /\ y.Start <= 100
 delay : 0 <= y.Delay /\ y.Delay <= 600
theorem Xq {y : Bh} (h : Iw y) : F59 y = true := by
 have h1 := h.stop
 have h2 := h.start
 have h3 := h.delay
 simp only [F59, Bool.and_eq_true, decide_eq_true_eq]
 omega
theorem Ax8 {s : Ai} (hs : Bw s) : Ok (F30 s) λ y => Iw y.1 /\ Bw y.2 := by
 unfold F30
 refine (D0 hs _ (by simp) (by simp)).bind λ u hu => (D0 hu.1 _ (by simp) (by simp)).bind λ v hv => (D0 hv.1 _ (by simp) (by simp)).bind λ w hw => Ok.pure ⟨?_, hw.1⟩
 have g1 : u.1 = 60 \/ u.1 = 80 \/ u.1 = 100 := by simpa using hu.2
 have g2 : v.1 = 1 \/ v.1 = 30 \/ v.1 = 50 := by simpa using hv.2
 have g3 : w.1 = 0 \/ w.1 = 1 \/ w.1 = 3 := by simpa using hw.2
 exact ⟨by dsimp only; omega, by dsimp only; omega, by dsimp only; omega⟩
def Jc : Az := ⟨-1, -1⟩
theorem A58 : F86 1 = some (List.replicate 1 Jc) := by kernel_rfl
theorem A57 : F86 2 = some (List.replicate 2 Jc) := by kernel_rfl
theorem A56 : F86 3 = some (List.replicate 3 Jc) := by kernel_rfl
theorem A55 : F86 4 = some (List.replicate 4 Jc) := by kernel_rfl
theorem A54 : F86 5 = some (List.replicate 5 Jc) := by kernel_rfl
theorem A53 : F86 6 = some (List.replicate 6 Jc) := by kernel_rfl
theorem Az8 {n : Int} (h : 1 <= n /\ n <= 6) : F86 n = some (List.replicate n.toNat Jc) := by
 have : n = 1 \/ n = 2 \/ n = 3 \/ n = 4 \/ n = 5 \/ n = 6 := by omega
 rcases this with rfl | rfl | rfl | rfl | rfl | rfl
 ·exact A58
 ·exact A57
 ·exact A56
 ·exact A55
 ·exact A54
 ·exact A53
def Fu (t : Int) (x : Az) : Prop := (-1 <= x.High /\ x.High <= t) /\ -1 <= x.Low /\ x.Low <= t
theorem Ao5 {p : A0} {l : List Az} (h : ∀ x, x ∈ l -> Fu p.Time x) : vI l p = some (false, p) := by
 refine Ok.eq ?_
 unfold vI yF
 refine Ok.bind (P := λ y => y = (-1, p)) ?_ (λ y hy => Ok.pure (by rw [hy]; rfl))
 refine Ok.andThen (A := λ s => s = (p.Time, p.Power.Ah, p.Power.Ac, p.Power.As, p.Power.Aq, p.A5, p.A4)) (B := λ _ => False) ?_ (λ s hs => Ok.pure (by rw [hs])) (λ _ h => h.elim)
 refine Ok.foldI0 (I := λ _ s => s = (p.Time, p.Power.Ah, p.Power.Ac, p.Power.As, p.Power.Aq, p.A5, p.A4)) rfl (λ j x s hx hs => ?_) λ s hs => hs
 have hr := h x (List.mem_of_getElem? hx)
 unfold Fu at hr
 subst hs
 unfold Og
 refine Ok.cond (λ hc => ?_) (λ _ => Ok.next rfl)
 simp only [Yz, Cv, Ry, Bool.or_eq_true, Bool.not_eq_true', Bool.and_eq_false_iff, decide_eq_false_iff_not] at hc
 omega
structure Pq (b : Aa) (y : Bh) (p : A0) : Prop where
 st : Aw b p.Power
 fol : Ed b p.Power = p.Power.Ac
 time : 0 <= p.Time /\ p.Time <= 2147483648
 nro : p.A5.length = b.Am.toNat
 ros : ∀ x, x ∈ p.A5 -> Fu p.Time x
theorem Aeg {b : Aa} (h : Ax b) {y : Bh} (hy : Iw y) {p : A0} (hp : Pq b y p) : F21 b y p = some 0 := by
 have h1 := h.buses
 have h2 := hp.time
 have h3 := hp.nro
 refine Ok.eq ?_
 unfold F21
 rw [Nv h hp.st]
 simp only [Option.bind_some, hp.fol]
 refine Ok.cond (λ hc => by simp at hc) (λ _ => Ok.cond (λ hc => ?_) (λ _ => Ok.cond (λ hc => ?_) (λ _ => ?_)))
 ·simp only [Azc, Xq hy, Bool.not_true, Bool.false_or, Bool.or_eq_true, decide_eq_true_eq] at hc
  omega
 ·simp only [bne_iff_ne, ne_eq] at hc
  omega
 ·have e : (⟨p.Power.Ah, p.Power.Ac, p.Power.As, p.Power.Aq⟩ : Ab) = p.Power := rfl
  rw [e, Asa (hp.st.lens h)]
  simp only [Option.bind_some]
  rw [Ao5 hp.ros]
  have e2 : A3 [((!true), false)] (some (false, p)) (default, p) = some (false, p) := rfl
  rw [e2]
  exact Ok.pure rfl
def brk (l : List An) (k n : Int) : Bool := l.any λ x => k == x.Kind && n == x.Number
theorem Ea {p : Ab} (h : p.Aq.length <= 1000) (k n : Int) : Hr p k n = some (brk p.Aq k n) := by
 unfold Hr Ars Arm
 rw [Ki (λ x : An => (k == x.Kind) && ((n == x.Number) && true)) (λ i y => rfl) p.Aq (by omega)]
 simp only [Option.bind_some, Q2, brk, Bool.and_true]
def N0 (b : Aa) (i : Int) : Int := On (λ x : Ak => x.Kind == 2 && x.B == i) b.Af
theorem Aqp {b : Aa} (h : Ax b) (i : Int) : Akf b i = some (N0 b i) := by
 have hb := h.brl
 unfold Akf vZ
 refine Ok.eq ?_
 refine Ok.bind (P := λ y => y = (N0 b i, i)) ?_ (λ y hy => Ok.pure (by rw [hy]))
 have key := J6 (f := λ n (a : Ak) (z : Unit) => (bif (a.Kind == 2 && a.B == i) then some (.ret (cnt 0 n)) else some (.next ()) : Option (Ctl Unit Int))) (p := λ x : Ak => x.Kind == 2 && x.B == i) (λ _ _ => rfl) b.Af 0 (by omega)
 have : ∀ (xs : List Ak) (k : Nat), foldI (Kw i) xs k () = match foldI (λ n (a : Ak) (z : Unit) => (bif (a.Kind == 2 && a.B == i) then some (.ret (cnt 0 n)) else some (.next ()) : Option (Ctl Unit Int))) xs k () with
   | some (.ret r) => some (.ret (r, i))
   | some (.next _) => some (.next ())
   | some (.brk _) => some (.brk ())
   | none => none := by
  intro xs
  induction xs with
  | nil => intro k; rfl
  | cons x xs ih =>
   intro k
   simp only [foldI, Kw, Uv]
   cases hq : (x.Kind == 2 && x.B == i) with
   | true => rfl
   | false => simp only [cond_false]; exact ih (k + 1)
 rw [this, key]
 unfold N0 On
 cases b.Af.findIdx? (λ x : Ak => x.Kind == 2 && x.B == i) with
 | none => exact Ok.pure rfl
 | some j => exact Ok.pure rfl
theorem uO {b : Aa} (h : Ax b) {i : Int} (h0 : 0 <= i) (h1 : i < b.Ac.length) : ∃ (j : Nat) (x : Ak), N0 b i = (j : Int) /\ b.Af[j]? = some x /\ x.Kind = 2 /\ x.B = i /\ j < 24 := by
 have hone := h.one i.toNat (by omega)
 have hb := h.brl
 unfold N0 On
 cases hf : b.Af.findIdx? (λ x : Ak => x.Kind == 2 && x.B == i) with
 | none =>
  exfalso
  rw [List.findIdx?_eq_none_iff] at hf
  have : brs b.Af 2 i.toNat = [] := J1 λ x hx hk e => by
   have := hf x hx
   simp [hk] at this
   omega
  rw [this] at hone; simp at hone
 | some j =>
  rw [List.findIdx?_eq_some_iff_getElem] at hf
  obtain ⟨hj, hp, _⟩ := hf
  simp only [Bool.and_eq_true, beq_iff_eq] at hp
  exact ⟨j, b.Af[j], rfl, List.getElem?_eq_getElem hj, hp.1, hp.2, by omega⟩
def ks (x : An) : Int := x.Kind * 1000 + x.Number
def Ci (x : An) : Prop := (1 <= x.Kind /\ x.Kind <= 4) /\ 0 <= x.Number /\ x.Number <= 100
theorem B_.small {b : Aa} (h : Ax b) {x : An} (hx : B_ b x) : Ci x := by
 have h1 := h.buses
 have h2 := h.brl
 have h3 := h.sol
 have h4 := h.col
 unfold B_ at hx
 unfold Ci
 omega
theorem Aes {x y : An} (hx : Ci x) (hy : Ci y) : Pr x y ↔ ks x < ks y := by
 unfold Pr ks
 unfold Ci at hx hy
 omega
theorem Ay1 {x y : An} (hx : Ci x) (hy : Ci y) (h : ks x = ks y) : x = y := by
 unfold ks at h
 unfold Ci at hx hy
 cases x; cases y
 simp only [An.mk.injEq]
 dsimp only at *
 omega
theorem Adc {x y : An} (hx : Ci x) (hy : Ci y) : (decide (Ox x y < 0) = decide (ks x < ks y)) /\ ((Ox x y == 0) = (ks x == ks y)) := by
 unfold Ci at hx hy
 unfold Ox ks
 by_cases hk : x.Kind = y.Kind
 ·have : (x.Kind != y.Kind) = false := by simp [hk]
  rw [this, cond_false, Bf (by omega)]
  constructor
  ·exact decide_eq_decide.2 (by omega)
  ·rw [Bool.eq_iff_iff, beq_iff_eq, beq_iff_eq]; omega
 ·have : (x.Kind != y.Kind) = true := by simp [hk]
  rw [this, cond_true, Bf (by omega)]
  constructor
  ·exact decide_eq_decide.2 (by omega)
  ·rw [Bool.eq_iff_iff, beq_iff_eq, beq_iff_eq]; omega
def Gt (l : List An) : Prop := ∀ (j k : Nat) x y, j < k -> l[j]? = some x -> l[k]? = some y -> ks x < ks y
theorem Hd {b : Aa} (h : Ax b) {l : List An} (hl : D1 b l) : Gt l := by
 have hs : ∀ x, x ∈ l -> Ci x := λ x hx => (hl.mem x hx).small h
 intro j k
 induction k with
 | zero => intro x y hj; omega
 | succ k ih =>
  intro x y hj hx hy
  have hk := (List.getElem?_eq_some_iff.1 hy).1
  obtain ⟨z, hz⟩ : ∃ z, l[k]? = some z := ⟨_, List.getElem?_eq_getElem (by omega)⟩
  have h1 := (Aes (hs z (List.mem_of_getElem? hz)) (hs y (List.mem_of_getElem? hy))).1 (hl.asc k z y hz hy)
  by_cases e : j = k
  ·subst e
   rw [hx] at hz; cases hz; exact h1
  ·have := ih x z (by omega) hx hz
   omega
theorem A0b {n : Int} (h0 : 0 <= n) (h1 : n <= 1000000) : w64 (Fw .u64 (IntKind.wrap .u64 (w64 n)) 1) = n / 2 := by
 have e1 : w64 n = n := Bf (by omega)
 have e2 : IntKind.wrap .u64 n = n := by
  simp [IntKind.wrap, IntKind.signed, IntKind.bits]
  omega
 have e3 : Fw .u64 n 1 = n / 2 := by
  unfold Fw
  have : (2 : Int) ^ min 1 (IntKind.u64).bits = 2 := by decide
  rw [this]
  exact Int.fdiv_eq_ediv_of_nonneg _ (by omega)
 rw [e1, e2, e3, Bf (by omega)]
structure At (l : List An) (x : An) (n : Nat) : Prop where
 le : n <= l.length
 lo : ∀ (j : Nat) y, j < n -> l[j]? = some y -> ks y < ks x
 hi : ∀ (j : Nat) y, n <= j -> l[j]? = some y -> ks x <= ks y
theorem Nk {l : List An} (hs : Gt l) (hsm : ∀ x, x ∈ l -> Ci x) {x : An} (hx : Ci x) (hl : l.length <= 1000) :
  Ok (Uz l x) λ y => ∃ n : Nat, y.1 = (n : Int) /\ At l x n /\ (y.2 = true ↔ l[n]? = some x) := by
 unfold Uz
 refine Ok.andThen (A := λ s => ∃ n : Nat, s.1 = (n : Int) /\ At l x n) (B := λ (_ : Unit) => False) ?_ ?_ (λ _ h => h.elim)
 ·refine Ok.whileN (λ s => (0 <= s.1 /\ s.1 <= s.2 /\ s.2 <= (l.length : Int)) /\ (∀ (j : Nat) y, (j : Int) < s.1 -> l[j]? = some y -> ks y < ks x) /\ ∀ (j : Nat) y, s.2 <= (j : Int) -> l[j]? = some y -> ks x <= ks y) (λ s => (s.2 - s.1).toNat) _ _ ?_ ?_ ?_
  ·refine ⟨by dsimp only; omega, λ j y hj => by dsimp only at hj; omega, λ j y hj hy => ?_⟩
   have := (List.getElem?_eq_some_iff.1 hy).1
   dsimp only at hj; omega
  ·dsimp only; omega
  ·rintro ⟨i, j⟩ ⟨⟨h1, h2, h3⟩, h4, h5⟩
   dsimp only at h1 h2 h3 h4 h5
   unfold N6
   dsimp only
   refine Ok.cond (λ hq => ?_) (λ hq => ?_)
   ·simp only [decide_eq_true_eq] at hq
    rw [A0b (by omega) (by omega)]
    refine (Ok.getI (by omega) (by omega)).bind λ y hy => ?_
    have hym := hsm y (List.mem_of_getElem? hy)
    rw [(Adc hym hx).1]
    refine Ok.cond (λ hc => ?_) (λ hc => ?_)
    ·simp only [decide_eq_true_eq] at hc
     rw [Bf (by omega)]
     refine Ok.next ⟨⟨by dsimp only; omega, λ k z hk hz => ?_, h5⟩, by dsimp only; omega⟩
     dsimp only at hk
     by_cases e : k = ((i + j) / 2).toNat
     ·subst e; rw [hy] at hz; cases hz; exact hc
     ·have := hs k _ z y (by omega) hz hy
      omega
    ·simp only [decide_eq_false_iff_not] at hc
     refine Ok.next ⟨⟨by dsimp only; omega, h4, λ k z hk hz => ?_⟩, by dsimp only; omega⟩
     dsimp only at hk
     by_cases e : k = ((i + j) / 2).toNat
     ·subst e; rw [hy] at hz; cases hz; omega
     ·have := hs _ k y z (by omega) hy hz
      omega
   ·simp only [decide_eq_false_iff_not] at hq
    refine Ok.brk ⟨i.toNat, by dsimp only; omega, by omega, λ k y hk hy => h4 k y (by omega) hy, λ k y hk hy => h5 k y (by omega) hy⟩
 ·rintro ⟨i, j⟩ ⟨n, hn, hat⟩
  dsimp only at hn
  subst hn
  dsimp only
  by_cases hlt : n < l.length
  ·obtain ⟨y, hy⟩ : ∃ y, l[n]? = some y := ⟨_, List.getElem?_eq_getElem hlt⟩
   have hd : decide ((n : Int) < (l.length : Int)) = true := by simp; omega
   rw [hd, Bm hy]
   refine Ok.bind (P := λ z => z = y) (Ok.guard (λ _ => Ok.pure rfl) λ hn => (hn ⟨rfl, trivial⟩).elim) λ z hz => Ok.pure ⟨n, rfl, hat, ?_⟩
   subst hz
   have hym := hsm z (List.mem_of_getElem? hy)
   show (true && (Ox z x == 0)) = true ↔ _
   rw [Bool.true_and, (Adc hym hx).2, beq_iff_eq, hy]
   constructor
   ·intro e; rw [Ay1 hym hx e]
   ·intro e; cases e; rfl
  ·have hd : decide ((n : Int) < (l.length : Int)) = false := by simp; omega
   rw [hd]
   refine Ok.bind (P := λ _ => True) (Ok.guard (λ hg => absurd hg.1 (by simp)) λ _ => trivial) λ z _ => Ok.pure ⟨n, rfl, hat, ?_⟩
   rw [List.getElem?_eq_none (by omega)]
   simp
theorem At.uniq {l : List An} {x : An} {n m : Nat} (h : At l x n) (k : At l x m) : n = m := by
 rcases Nat.lt_trichotomy n m with e | e | e
 ·obtain ⟨y, hy⟩ : ∃ y, l[n]? = some y := ⟨_, List.getElem?_eq_getElem (by have := k.le; omega)⟩
  have := h.hi n y (Nat.le_refl _) hy
  have := k.lo n y e hy
  omega
 ·exact e
 ·obtain ⟨y, hy⟩ : ∃ y, l[m]? = some y := ⟨_, List.getElem?_eq_getElem (by have := h.le; omega)⟩
  have := k.hi m y (Nat.le_refl _) hy
  have := h.lo m y e hy
  omega
def Dy (l : List An) (n : Nat) (x : An) : List An := l.take n ++ (x :: l.drop n)
theorem Atq {l : List An} {n : Nat} (hn : n <= l.length) (hl : l.length <= 1000) (x : An) : Pv l (n : Int) [x] = some (Dy l n x) := by
 refine Ok.eq ?_
 unfold Pv
 refine (Ok.bndI (by omega) (by omega) (by omega)).bind λ _ _ => ?_
 refine Ok.cond (λ hc => by simp at hc) (λ _ => Ok.cond (λ hc => ?_) (λ _ => ?_))
 ·simp only [beq_iff_eq] at hc
  have e : n = l.length := by omega
  refine (Ok.appI (by simp; omega)).bind λ y hy => Ok.pure ?_
  rw [hy, Dy, e]; simp
 ·refine (Ok.insI (by simp; omega)).mono λ y hy => ?_
  rw [hy, Int.toNat_natCast]; rfl
theorem Auk {l : List An} {n : Nat} (hn : n <= l.length) (x : An) : Uy (Dy l n x) (n : Int) ((n : Int) + 1) = some l := by
 have hlen : (Dy l n x).length = l.length + 1 := by simp [Dy]; omega
 refine Ok.eq ?_
 unfold Uy
 have e1 : ((n : Int) + 1).toNat = n + 1 := by omega
 have hdrop : (Dy l n x).drop (n + 1) = l.drop n := by
  unfold Dy
  rw [List.drop_append, List.drop_of_length_le (by simp; omega)]
  have : n + 1 - (l.take n).length = 1 := by simp; omega
  rw [this]; simp
 have htake : (Dy l n x).take n = l.take n := by
  unfold Dy
  rw [List.take_append_of_le_length (by simp; omega), List.take_take, Nat.min_self]
 refine (Ok.bnd3I (by omega) (by omega) (by omega) (by omega)).bind λ _ _ => Ok.cond (λ hc => ?_) (λ _ => ?_)
 ·simp only [beq_iff_eq] at hc; omega
 refine (Ok.bndI (by omega) (by omega) (by omega)).bind λ _ _ => (Ok.bndI (by omega) (by omega) (by omega)).bind λ _ _ => ?_
 simp only [Int.toNat_natCast, e1, hdrop, Nat.sub_zero]
 have hpl : ((l.drop n).take ((Dy l n x).length - (n + 1))).length = l.length - n := by simp [hlen]
 have hpe : (l.drop n).take ((Dy l n x).length - (n + 1)) = l.drop n := List.take_of_length_le (by simp [hlen])
 rw [hpe]
 have hdl : (l.drop n).length = l.length - n := by simp
 refine (Ok.appPI (by rw [hlen, hdl]; omega)).bind λ y hy => ?_
 have hyl : y.length = l.length + 1 := by rw [hy]; simp [hlen]; omega
 refine (Ok.bndI (by omega) (by rw [hlen, hdl]; omega) (by rw [hlen, hyl]; omega)).bind λ _ _ => Ok.pure ?_
 have e2 : n + (l.drop n).length = l.length := by rw [hdl]; omega
 rw [e2]
 unfold Gj
 simp only [Nat.zero_add]
 rw [List.take_append_of_le_length (by simp; omega), List.take_take, Nat.min_self, hy, htake, ← List.append_assoc, List.take_append_of_le_length (by simp), List.take_append_drop, List.take_length]
theorem Q0 {l : List An} {n : Nat} (hn : n <= l.length) {x : An} {j : Nat} {y : An} (h : (Dy l n x)[j]? = some y) : (j < n /\ l[j]? = some y) \/ (j = n /\ y = x) \/ (n < j /\ l[j - 1]? = some y) := by
 unfold Dy at h
 have ht : (l.take n).length = n := by simp; omega
 rw [List.getElem?_append] at h
 split at h
 ·rename_i h1
  rw [ht] at h1
  rw [List.getElem?_take, if_pos h1] at h
  exact .inl ⟨h1, h⟩
 ·rename_i h1
  rw [ht] at h1 h
  by_cases e : j = n
  ·subst e
   simp at h
   exact .inr (.inl ⟨rfl, h.symm⟩)
  ·obtain ⟨k, hk⟩ : ∃ k, j - n = k + 1 := ⟨j - n - 1, by omega⟩
   rw [hk, List.getElem?_cons_succ, List.getElem?_drop] at h
   refine .inr (.inr ⟨by omega, ?_⟩)
   rw [← h]; congr 1; omega
theorem Axc {l : List An} {n : Nat} {x y : An} (h : y ∈ Dy l n x) : y = x \/ y ∈ l := by
 unfold Dy at h
 rcases List.mem_append.1 h with h | h
 ·exact .inr (List.mem_of_mem_take h)
 ·rcases List.mem_cons.1 h with h | h
  ·exact .inl h
  ·exact .inr (List.mem_of_mem_drop h)
theorem Anh {b : Aa} (h : Ax b) {l : List An} (hl : D1 b l) {x : An} (hx : B_ b x) {n : Nat} (hat : At l x n) (hnot : l[n]? ≠ some x) (hlen : l.length < 32) : D1 b (Dy l n x) := by
 have hs := Hd h hl
 have hsm : ∀ y, y ∈ l -> Ci y := λ y hy => (hl.mem y hy).small h
 have hxs := hx.small h
 refine ⟨by simp [Dy]; omega, λ y hy => ?_, λ j y z hy hz => ?_⟩
 ·rcases Axc hy with rfl | hy
  ·exact hx
  ·exact hl.mem y hy
 ·rcases Q0 hat.le hy with ⟨a1, a2⟩ | ⟨a1, a2⟩ | ⟨a1, a2⟩ <;> rcases Q0 hat.le hz with ⟨b1, b2⟩ | ⟨b1, b2⟩ | ⟨b1, b2⟩
  ·exact hl.asc j y z a2 b2
  ·subst b2
   exact (Aes (hsm y (List.mem_of_getElem? a2)) hxs).2 (hat.lo j y a1 a2)
  ·omega
  ·omega
  ·omega
  ·subst a2
   have e : j + 1 - 1 = n := by omega
   rw [e] at b2
   have hzm := hsm z (List.mem_of_getElem? b2)
   refine (Aes hxs hzm).2 ?_
   have h1 := hat.hi n z (Nat.le_refl _) b2
   rcases Int.lt_or_eq_of_le h1 with h1 | h1
   ·exact h1
   ·exact absurd (by rw [b2, Ay1 hxs hzm h1]) hnot
  ·omega
  ·omega
  ·have e : j + 1 - 1 = j - 1 + 1 := by omega
   rw [e] at b2
   exact hl.asc (j - 1) y z a2 b2
theorem At.ins {l : List An} {x : An} {n : Nat} (hat : At l x n) : At (Dy l n x) x n := by
 refine ⟨by have := hat.le; simp [Dy]; omega, λ j y hj hy => ?_, λ j y hj hy => ?_⟩
 ·rcases Q0 hat.le hy with ⟨_, a2⟩ | ⟨a1, _⟩ | ⟨a1, _⟩
  ·exact hat.lo j y hj a2
  ·omega
  ·omega
 ·rcases Q0 hat.le hy with ⟨a1, _⟩ | ⟨_, a2⟩ | ⟨a1, a2⟩
  ·omega
  ·subst a2; exact Int.le_refl _
  ·exact hat.hi (j - 1) y (by omega) a2
theorem Az7 {l : List An} {n : Nat} (hn : n <= l.length) (x : An) : (Dy l n x)[n]? = some x := by
 unfold Dy
 rw [List.getElem?_append_right (by simp; omega)]
 have : n - (l.take n).length = 0 := by simp; omega
 rw [this]; rfl
def Kf (ss : List Ag) (x : An) (st : Int) : List Ag := if x.Kind = 1 then ss.set x.Number.toNat ⟨st, (ss.getD x.Number.toNat default).Since, (ss.getD x.Number.toNat default).Ap, (ss.getD x.Number.toNat default).Phase⟩ else ss
theorem T2 (ss : List Ag) (x : An) (st : Int) : (Kf ss x st).length = ss.length := by unfold Kf; split <;> simp
theorem Ahn {ss : List Ag} (h : ∀ x, x ∈ ss -> Db x) {x : An} (hx : x.Kind = 1 -> 0 <= x.Number /\ x.Number < ss.length) {st : Int} (hst : 0 <= st /\ st <= 3) : ∀ y, y ∈ Kf ss x st -> Db y := by
 unfold Kf
 split
 ·rename_i hk
  have hn := hx hk
  obtain ⟨u, hu⟩ : ∃ u, ss[x.Number.toNat]? = some u := ⟨_, List.getElem?_eq_getElem (by omega)⟩
  have hd : ss.getD x.Number.toNat default = u := by simp [List.getD, hu]
  intro y hy
  rcases List.mem_or_eq_of_mem_set hy with hy | hy
  ·exact h y hy
  ·subst hy
   rw [hd]
   have := h u (List.mem_of_getElem? hu)
   exact ⟨hst, this.2⟩
 ·exact h
theorem A0e {b : Aa} (h : Ax b) {p : Ab} (hp : Aw b p) {x : An} (hx : B_ b x) (t : Int) {n : Nat} (hat : At p.Aq x n) (hnot : p.Aq[n]? ≠ some x) (hlen : p.Aq.length < 32) :
  Gb ⟨b, p, t⟩ x true = some (0, ⟨b, ⟨p.Ah, Kf p.Ac x 3, p.As, Dy p.Aq n x⟩, t⟩) := by
 have hs := Hd h hp.brk
 have hsm : ∀ y, y ∈ p.Aq -> Ci y := λ y hy => (hp.brk.mem y hy).small h
 refine Ok.eq ?_
 unfold Gb
 refine (Nk hs hsm (hx.small h) (by omega)).bind λ y hy => ?_
 obtain ⟨m, e1, hat2, hf⟩ := hy
 have e2 := hat.uniq hat2
 subst e2
 have hf2 : y.2 = false := by
  cases hb : y.2 with
  | false => rfl
  | true => exact absurd (hf.1 hb) hnot
 refine Ok.cond (λ hc => by rw [hf2] at hc; simp at hc) (λ _ => Ok.cond (λ hc => ?_) (λ _ => ?_))
 ·simp [Mu] at hc; omega
 refine Ok.andThen (A := λ z => z = Dy p.Aq n x) (B := λ (_ : Unit) => False) ?_ ?_ (λ _ h => h.elim)
 ·unfold Oc
  rw [e1, Atq hat.le (by omega)]
  exact Ok.nextE rfl
 ·rintro z rfl
  unfold Kf
  refine Ok.cond (λ hk => ?_) (λ hk => ?_)
  ·simp only [beq_iff_eq] at hk
   have hn : 0 <= x.Number /\ x.Number < p.Ac.length := by
    have := hp.nso
    unfold B_ at hx
    omega
   rw [if_pos hk]
   refine (Ok.getI hn.1 hn.2).bind λ u hu => (Ok.setI hn.1 hn.2).bind λ v hv => ?_
   have hd : p.Ac.getD x.Number.toNat default = u := by simp [List.getD, hu]
   have hvg : v[x.Number.toNat]? = some (⟨0, u.Since, u.Ap, u.Phase⟩ : Ag) := by rw [hv, List.getElem?_set_self (by omega)]
   simp only [cond_true]
   refine Ok.bind (P := λ w => w = (⟨0, u.Since, u.Ap, u.Phase⟩ : Ag)) ((Ok.getI hn.1 (by rw [hv]; simpa using hn.2)).mono λ w hw => by rw [hvg] at hw; cases hw; rfl) λ w hw => ?_
   subst hw
   refine (Ok.setI hn.1 (by rw [hv]; simpa using hn.2)).bind λ z hz => Ok.pure ?_
   rw [hz, hv, List.set_set, hd]
  ·simp only [beq_eq_false_iff_ne, ne_eq] at hk
   rw [if_neg hk]
   exact Ok.pure rfl
theorem Az0 {b : Aa} (h : Ax b) {p : Ab} (hbl : D1 b p.Aq) {q : Ab} {x : An} (hx : B_ b x) (t : Int) {n : Nat} (hat : At p.Aq x n) (hnot : p.Aq[n]? ≠ some x) (hlen : p.Aq.length < 32)
  (hq : q.Aq = Dy p.Aq n x) (hqs : q.Ac.length = b.Ac.length) : Gb ⟨b, q, t⟩ x false = some (0, ⟨b, ⟨q.Ah, Kf q.Ac x 0, q.As, p.Aq⟩, t⟩) := by
 have hbl2 : D1 b q.Aq := by rw [hq]; exact Anh h hbl hx hat hnot hlen
 have hs := Hd h hbl2
 have hsm : ∀ y, y ∈ q.Aq -> Ci y := λ y hy => (hbl2.mem y hy).small h
 refine Ok.eq ?_
 unfold Gb
 refine (Nk hs hsm (hx.small h) (by have := hbl2.len; omega)).bind λ y hy => ?_
 obtain ⟨m, e1, hat2, hf⟩ := hy
 rw [hq] at hat2 hf
 have e2 := hat.ins.uniq hat2
 subst e2
 have hf2 : y.2 = true := hf.2 (Az7 hat.le x)
 refine Ok.cond (λ hc => by rw [hf2] at hc; simp at hc) (λ _ => Ok.cond (λ hc => ?_) (λ _ => ?_))
 ·simp [Mu] at hc
 refine Ok.andThen (A := λ z => z = p.Aq) (B := λ (_ : Unit) => False) ?_ ?_ (λ _ h => h.elim)
 ·unfold Oc
  have hle := hat.le
  rw [e1, Bf (by omega)]
  simp only [cond_false, hq]
  rw [Auk hat.le]
  exact Ok.nextE rfl
 ·rintro z rfl
  unfold Kf
  refine Ok.cond (λ hk => ?_) (λ hk => ?_)
  ·simp only [beq_iff_eq] at hk
   have hn : 0 <= x.Number /\ x.Number < q.Ac.length := by
    unfold B_ at hx
    omega
   rw [if_pos hk]
   refine (Ok.getI hn.1 hn.2).bind λ u hu => (Ok.setI hn.1 hn.2).bind λ v hv => ?_
   have hd : q.Ac.getD x.Number.toNat default = u := by simp [List.getD, hu]
   simp only [cond_false]
   exact Ok.pure (by rw [hv, hd])
  ·simp only [beq_eq_false_iff_ne, ne_eq] at hk
   rw [if_neg hk]
   exact Ok.pure rfl
def A0c (p : Ab) (x : An) (n : Nat) : Ab := ⟨p.Ah, Kf p.Ac x 3, p.As, Dy p.Aq n x⟩
theorem Ap0 {b : Aa} (h : Ax b) {p : Ab} (hp : Aw b p) {x : An} (hx : B_ b x) {n : Nat} (hat : At p.Aq x n) (hnot : p.Aq[n]? ≠ some x) (hlen : p.Aq.length < 32) : Aw b (A0c p x n) where
 ncl := hp.ncl
 nso := by show (Kf p.Ac x 3).length = _; rw [T2]; exact hp.nso
 nli := hp.nli
 run := Ahn hp.run (λ hk => by have := hp.nso; unfold B_ at hx; omega) (by omega)
 lim := hp.lim
 one := hp.one
 brk := Anh h hp.brk hx hat hnot hlen
theorem Mg (b : Aa) (k n : Int) : J2 b k n = true ↔ B_ b ⟨k, n⟩ := by
 unfold J2 B_
 dsimp only
 by_cases h1 : k = 1
 ·subst h1; simp
 rw [beq_eq_false_iff_ne.2 h1, cond_false]
 by_cases h2 : k = 2
 ·subst h2; simp
 rw [beq_eq_false_iff_ne.2 h2, cond_false]
 by_cases h3 : k = 3
 ·subst h3; simp
 rw [beq_eq_false_iff_ne.2 h3, cond_false]
 by_cases h4 : k = 4
 ·subst h4; simp
 rw [beq_eq_false_iff_ne.2 h4, cond_false]
 simp only [Bool.and_eq_true, decide_eq_true_eq]
 omega
theorem A6u {b : Aa} (h : Ax b) {l : List An} (hl : D1 b l) {x : An} (hx : B_ b x) : ∃ n, At l x n := by
 have hs := Hd h hl
 obtain ⟨y, _, n, _, hat, _⟩ := Nk hs (λ y hy => (hl.mem y hy).small h) (hx.small h) (by have := hl.len; omega)
 exact ⟨n, hat⟩
theorem A0m {b : Aa} (h : Ax b) {p : Ab} (hp : Aw b p) : F65 p = some p := by
 have hl := hp.lens h
 have h1 := hl.c
 have h2 := hl.s
 have h3 := hl.l
 have h4 := hl.k
 unfold F65
 rw [Lc (by omega), Lc (by omega), Lc (by omega), Lc (by omega)]
 rfl
theorem Ok.gT {α : Type} {l : List (Bool × Bool)} {x : Option α} {d : α} {P : α -> Prop} (hx : Dh l -> Ok x λ _ => True) (hr : ∀ y, P y) : Ok (A3 l x d) P :=
 Ok.guard (λ h => (hx h).mono λ y _ => hr y) λ _ => hr d
theorem Ok.triv {α : Type} {x : Option α} {v : α} (h : x = some v) : Ok x λ _ => True := ⟨v, h, trivial⟩
theorem Azi {x like : Ag} (hx : Db x) (hl : Db like) : Db (X2 like x) := ⟨hx.1, hx.2.1, hl.2.2.1, hl.2.2.2⟩
theorem Lr {ss : List Ag} (h : ∀ x, x ∈ ss -> Db x) {n : Nat} {y : Ag} (hy : Db y) : ∀ x, x ∈ ss.set n y -> Db x := λ x hx => by
 rcases List.mem_or_eq_of_mem_set hx with hx | hx
 ·exact h x hx
 ·exact hx ▸ hy
theorem Ahe {ss : List Ag} (h : ∀ x, x ∈ ss -> Db x) {n : Nat} (hn : n < ss.length) : Db (ss.getD n default) := by
 have : ss.getD n default = ss[n] := by simp [List.getD, List.getElem?_eq_getElem hn]
 rw [this]; exact h _ (List.getElem_mem hn)
theorem Qk {like : Ag} (hl : Db like) : ∀ (idx : List Int) (ss : List Ag), (∀ i, i ∈ idx -> 0 <= i /\ i < ss.length) -> (∀ x, x ∈ ss -> Db x) -> ∀ x, x ∈ Eh like idx ss -> Db x
 | [], _, _, h => h
 | i :: idx, ss, hi, h => by
  have h0 := hi i List.mem_cons_self
  refine Qk hl idx _ (λ j hj => ?_) (Lr h (Azi (Ahe h (by omega)) hl))
  have := hi j (List.mem_cons_of_mem _ hj)
  simpa using this
theorem Ahh {b : Aa} {p : Ab} (hp : Aw b p) : ∀ (l : List Aj) (s : List Ag), (∀ x, x ∈ l -> ∀ i, i ∈ x.Ac -> 0 <= i /\ i < b.Ac.length) -> s.length = p.Ac.length -> (∀ x, x ∈ s -> Db x) -> ∀ x, x ∈ l.foldl (Ct p) s -> Db x
 | [], _, _, _, h => h
 | y :: l, s, hi, hs, h => by
  refine Ahh hp l _ (λ x hx => hi x (List.mem_cons_of_mem _ hx)) (by rw [Mn, hs]) ?_
  have h0 := hi y List.mem_cons_self
  have hn := hp.nso
  unfold Ct
  split
  ·exact h
  ·rename_i i r e
   rw [e] at h0
   have h1 := h0 i List.mem_cons_self
   rw [e]
   exact Qk (Ahe hp.run (by omega)) _ _ (λ j hj => by have := h0 j hj; omega) h
theorem Q8 {b : Aa} {p : Ab} (hp : Aw b p) : ∀ x, x ∈ Ed b p -> Db x :=
 Ahh hp _ _ (λ _ hx => Pe hx) rfl hp.run
theorem I0 {b : Aa} {p : Ab} (hp : Aw b p) {ss : List Ag} (hl : ss.length = p.Ac.length) (hr : ∀ x, x ∈ ss -> Db x) : Aw b ⟨p.Ah, ss, p.As, p.Aq⟩ where
 ncl := hp.ncl
 nso := hl.trans hp.nso
 nli := hp.nli
 run := hr
 lim := hp.lim
 one := hp.one
 brk := hp.brk
theorem Apb {b : Aa} {p : Ab} (hp : Aw b p) (j : Nat) : Aw b ⟨p.Ah.set j false, p.Ac, p.As, p.Aq⟩ where
 ncl := by simpa using hp.ncl
 nso := hp.nso
 nli := hp.nli
 run := hp.run
 lim := hp.lim
 one i hi := by
  refine Nat.le_trans (Ahm (by simp) (λ k hk => ?_) i) (hp.one i hi)
  rw [List.getElem?_set] at hk
  split at hk
  ·split at hk <;> cases hk
  ·exact hk
 brk := hp.brk
theorem Atw {l : List Ak} : ∀ {c : List Bool} {j : Nat} {x : Ak}, l[j]? = some x -> ∀ i : Nat, (Cf l (c.set j true) i).length <= (Cf l c i).length + (if x.Kind = 3 /\ x.B = (i : Int) then 1 else 0) := by
 induction l with
 | nil => intro c j x h; simp at h
 | cons y l ih =>
  intro c j x h i
  cases c with
  | nil => simp [Cf]
  | cons v c =>
   cases j with
   | zero =>
    simp only [List.getElem?_cons_zero, Option.some.injEq] at h
    subst h
    simp only [List.set_cons_zero, Cf, List.zip_cons_cons, List.filter_cons]
    by_cases hk : y.Kind = 3 /\ y.B = (i : Int)
    ·rw [if_pos hk]
     simp only [hk.1, hk.2, beq_self_eq_true, Bool.true_and, Bool.and_true, if_true]
     split <;> simp
    ·rw [if_neg hk]
     have : (y.Kind == 3 && y.B == (i : Int)) = false := by
      rw [Bool.eq_false_iff]; intro e
      simp only [Bool.and_eq_true, beq_iff_eq] at e
      exact hk e
     simp [this]
   | succ j =>
    simp only [List.getElem?_cons_succ] at h
    have := ih (c := c) h i
    simp only [List.set_cons_succ, Cf, List.zip_cons_cons, List.filter_cons] at this ⊢
    split <;> simp at this ⊢ <;> omega
theorem Atx {b : Aa} {p : Ab} {i : Nat} (h : Eu b p 3 (i : Int) = none) : Cf b.Af p.Ah i = [] := by
 unfold Eu at h
 rw [Option.map_eq_none_iff, List.find?_eq_none] at h
 unfold Cf
 rw [List.filter_eq_nil_iff]
 exact h
theorem Auo {b : Aa} {p : Ab} (hp : Aw b p) {j : Nat} {x : Ak} (hx : b.Af[j]? = some x) (hf : x.Kind = 3 -> Eu b p 3 x.B = none) : Aw b ⟨p.Ah.set j true, p.Ac, p.As, p.Aq⟩ where
 ncl := by simpa using hp.ncl
 nso := hp.nso
 nli := hp.nli
 run := hp.run
 lim := hp.lim
 one i hi := by
  have h1 := Atw (c := p.Ah) hx i
  have h2 := hp.one i hi
  dsimp only
  split at h1
  ·rename_i hk
   have h3 := hf hk.1
   rw [hk.2] at h3
   rw [Atx h3] at h1
   simpa using h1
  ·omega
 brk := hp.brk
theorem Azv {b : Aa} (h : Ax b) {p : Ab} (hp : Aw b p) (i : Int) : Ok (Z0 b p i) λ y => y.2 ≠ 0 \/ Aw b y.1 := by
 have hbl : p.Aq.length <= 1000 := by have := hp.brk.len; omega
 have hn := hp.ncl
 unfold Z0
 rw [C7 h hp, C_ h hp]
 simp only [Option.bind_some]
 refine Ok.cond (λ hc => by simp at hc) (λ _ => Ok.cond (λ _ => Ok.pure (.inl (by simp))) (λ hr => ?_))
 simp only [Aih, Bool.or_eq_false_iff, decide_eq_false_iff_not] at hr
 refine (Ok.getI (by omega) (by omega)).bind λ v _ => Ok.bind (P := λ _ => True) (Ok.gT (λ _ => Ok.triv (Ea hbl _ _)) λ _ => trivial) λ _ _ => ?_
 refine Ok.cond (λ _ => Ok.pure (.inl (by simp))) (λ _ => ?_)
 exact (Ok.getI (by omega) (by omega)).bind λ _ _ => (Ok.setI (by omega) (by omega)).bind λ z hz => Ok.pure (.inr (by rw [hz]; exact Apb hp _))
theorem Ayu {b : Aa} (h : Ax b) {p : Ab} (hp : Aw b p) (n : Int) : Ok (Gm b p n) λ y => ∀ i, i ∈ y.1.Ac -> 0 <= i /\ i < p.Ac.length := by
 have hn := hp.nso
 unfold Gm
 rw [H0 h hp]
 simp only [Option.bind_some]
 refine Ok.andThen (A := λ _ => True) (B := λ y => ∀ i, i ∈ y.1.Ac -> 0 <= i /\ i < p.Ac.length) ?_ (λ _ _ => Ok.pure (λ i hi => by cases hi)) (λ v hv => Ok.pure hv)
 refine Ok.foldI0 (I := λ _ _ => True) trivial (λ j x s hx _ => ?_) λ s _ => trivial
 have hmem := List.mem_of_getElem? hx
 have hbl : x.Am.length <= 9223372036854775807 := by
  unfold Bj at hmem
  obtain ⟨f, _, rfl⟩ := List.mem_map.1 (List.mem_filter.1 hmem).1
  have := Dj (λ i => (Bd b p).getD i 0 == (f : Int)) b.Am.toNat
  have := h.buses
  simp only [isl, Dz]
  omega
 unfold J3
 rw [Dv _ _ hbl]
 simp only [Option.bind_some]
 refine Ok.cond (λ _ => Ok.ret λ i hi => ?_) (λ _ => Ok.next trivial)
 have := Pe hmem i hi
 omega
theorem A8o {b : Aa} (h : Ax b) {p : Ab} (hp : Aw b p) (n : Int) : Ok (Gm b p n) λ y => y.1.Am.length <= 9223372036854775807 := by
 unfold Gm
 rw [H0 h hp]
 simp only [Option.bind_some]
 refine Ok.andThen (A := λ _ => True) (B := λ y => y.1.Am.length <= 9223372036854775807) ?_ (λ _ _ => Ok.pure (by simp)) (λ v hv => Ok.pure hv)
 refine Ok.foldI0 (I := λ _ _ => True) trivial (λ j x s hx _ => ?_) λ s _ => trivial
 have hmem := List.mem_of_getElem? hx
 have hbl : x.Am.length <= 9223372036854775807 := by
  unfold Bj at hmem
  obtain ⟨f, _, rfl⟩ := List.mem_map.1 (List.mem_filter.1 hmem).1
  have := Dj (λ i => (Bd b p).getD i 0 == (f : Int)) b.Am.toNat
  have := h.buses
  simp only [isl, Dz]
  omega
 unfold J3
 rw [Dv _ _ hbl]
 simp only [Option.bind_some]
 exact Ok.cond (λ _ => Ok.ret hbl) (λ _ => Ok.next trivial)
theorem Nt {b : Aa} (h : Ax b) {p : Ab} (hp : Aw b p) (n : Int) : Ok (U1 b p n) λ y => y.2 = true -> 0 <= y.1 /\ y.1 < p.Ac.length := by
 unfold U1
 refine (Ayu h hp n).bind λ y hy => ?_
 refine Ok.cond (λ _ => Ok.pure (λ e => by cases e)) (λ hc => ?_)
 simp only [beq_eq_false_iff_ne, ne_eq] at hc
 exact (Ok.getI (by omega) (by omega)).bind λ z hz => Ok.pure λ _ => hy z (List.mem_of_getElem? hz)
theorem Ok.getB {α : Type} {l : List α} {i : Int} (h0 : 0 <= i) (h1 : i < l.length) : Ok (getI l i) λ _ => True := (Ok.getI h0 h1).mono λ _ _ => trivial
theorem Azk {b : Aa} (h : Ax b) {p : Ab} (hp : Aw b p) {j : Nat} {x : Ak} (hx : b.Af[j]? = some x) : Ok (Akg b p x) λ _ => True := by
 have hn := hp.nso
 have hb := h.br x (List.mem_of_getElem? hx)
 unfold R6 at hb
 unfold Akg
 refine (Nt h hp _).bind λ y hy => ?_
 refine Ok.cond (λ _ => Ok.pure trivial) (λ h2 => ?_)
 simp only [Bool.not_eq_false'] at h2
 have hy := hy h2
 refine Ok.cond (λ _ => ?_) (λ _ => Ok.cond (λ hk => ?_) (λ _ => Ok.pure trivial))
 ·refine (Nt h hp _).bind λ z hz => ?_
  refine Ok.bind (P := λ _ => True) (Ok.gT (λ _ => Ok.getB hy.1 hy.2) λ _ => trivial) λ _ _ => ?_
  refine Ok.bind (P := λ _ => True) (Ok.gT (λ hg => ?_) λ _ => trivial) λ _ _ => Ok.pure trivial
  have := hz (by have := hg.1; simpa using this)
  exact Ok.getB this.1 this.2
 ·simp only [beq_iff_eq] at hk
  exact (Ok.getB hy.1 hy.2).bind λ _ _ => (Ok.getB (by omega) (by omega)).bind λ _ _ => Ok.pure trivial
theorem Atg {o : Option Int} : (F5 o).2 = false -> o = none := by
 cases o with
 | none => intro _; rfl
 | some a => intro e; cases e
theorem Awc {b : Aa} (h : Ax b) {p : Ab} (hp : Aw b p) {j : Int} (h0 : 0 <= j) (h1 : j < b.Af.length) : Ok (Akh b p j) λ y => y = true -> ∀ x, b.Af[j.toNat]? = some x -> x.Kind = 3 -> Eu b p 3 x.B = none := by
 have hbl : p.Aq.length <= 1000 := by have := hp.brk.len; omega
 have hn := hp.nso
 have hc := hp.ncl
 unfold Akh
 refine (Ok.getI h0 h1).bind λ x hx => (Ok.getB h0 (by omega)).bind λ _ _ => ?_
 have hb := h.br x (List.mem_of_getElem? hx)
 unfold R6 at hb
 refine Ok.bind (P := λ _ => True) (Ok.gT (λ _ => Ok.triv (Ea hbl _ _)) λ _ => trivial) λ _ _ => ?_
 refine Ok.bind (P := λ _ => True) (Ok.gT (λ _ => Ok.triv (Ea hbl _ _)) λ _ => trivial) λ _ _ => ?_
 refine Ok.cond (λ _ => Ok.pure (λ e => by cases e)) (λ _ => ?_)
 refine Ok.cond (λ hk => ?_) (λ hk1 => Ok.cond (λ hk => ?_) (λ hk2 => ?_))
 ·simp only [beq_iff_eq] at hk
  rw [Ea hbl]
  refine Ok.pure λ _ y hy hy3 => ?_
  rw [hx] at hy; cases hy; omega
 ·simp only [beq_iff_eq] at hk
  rw [Ea hbl]
  simp only [Option.bind_some]
  refine Ok.bind (P := λ _ => True) (Ok.gT (λ _ => Ok.getB (by omega) (by omega)) λ _ => trivial) λ _ _ => Ok.pure λ _ y hy hy3 => ?_
  rw [hx] at hy; cases hy; omega
 ·unfold Ak6
  rw [C7 h hp, Aty h hc, Ea hbl]
  simp only [Option.bind_some, bne_self_eq_false, cond_false]
  refine Ok.pure λ e y hy hy3 => ?_
  rw [hx] at hy; cases hy
  simp only [Bool.and_eq_true, Bool.not_eq_true'] at e
  exact Atg e.2
theorem Atd {b : Aa} (h : Ax b) {p : Ab} (hp : Aw b p) (j : Int) : Ok (Akj b p j) λ y => y ≠ 0 \/ ((0 <= j /\ j < b.Af.length) /\ ∀ x, b.Af[j.toNat]? = some x -> x.Kind = 3 -> Eu b p 3 x.B = none) := by
 unfold Akj
 rw [C7 h hp]
 simp only [Option.bind_some]
 refine Ok.cond (λ hc => by simp at hc) (λ _ => Ok.cond (λ _ => Ok.pure (.inl (by simp))) (λ hr => ?_))
 simp only [Aur, Bool.or_eq_false_iff, decide_eq_false_iff_not] at hr
 refine (Awc h hp (by omega) (by omega)).bind λ y hy => ?_
 refine Ok.cond (λ _ => Ok.pure (.inl (by simp))) (λ h2 => ?_)
 simp only [Bool.not_eq_false'] at h2
 have hy := hy h2
 refine (Ok.getI (by omega) (by omega)).bind λ x hx => (A8o h hp x.A).bind λ z hz => ?_
 refine Ok.bind (P := λ _ => True) (Ok.gT (λ _ => Ok.triv (Dv _ _ hz)) λ _ => trivial) λ _ _ => ?_
 refine Ok.bind (P := λ _ => True) (Ok.gT (λ _ => Azk h hp hx) λ _ => trivial) λ _ _ => ?_
 exact Ok.cond (λ _ => Ok.pure (.inl (by simp))) (λ _ => Ok.pure (.inr ⟨⟨by omega, by omega⟩, hy⟩))
theorem Axu {b : Aa} (h : Ax b) {p : Ab} (hp : Aw b p) (i : Int) : Ok (Z1 b p i) λ y => y.2 ≠ 0 \/ Aw b y.1 := by
 have hn := hp.ncl
 unfold Z1
 rw [C_ h hp]
 simp only [Option.bind_some]
 refine (Atd h hp i).bind λ y hy => Ok.cond (λ hc => Ok.pure (.inl (by simpa using hc))) (λ hc => ?_)
 simp only [bne_eq_false_iff_eq] at hc
 rcases hy with hy | ⟨hr, hf⟩
 ·exact absurd hc hy
 ·refine (Ok.getI hr.1 (by omega)).bind λ _ _ => (Ok.setI hr.1 (by omega)).bind λ z hz => ?_
  obtain ⟨x, hx⟩ : ∃ x, b.Af[i.toNat]? = some x := ⟨_, List.getElem?_eq_getElem (by omega)⟩
  have hq := Auo hp hx (hf x hx)
  rw [← hz] at hq
  rw [Nv h hq]
  exact Ok.pure (.inr (I0 hq (H2 _ _) (Q8 hq)))
theorem Awx {b : Aa} (h : Ax b) {p : Ab} (hp : Aw b p) (i n : Int) : Ok (Zz b p i n) λ y => y.2 ≠ 0 \/ Aw b y.1 := by
 have hn := hp.nso
 unfold Zz
 rw [C7 h hp, C_ h hp]
 simp only [Option.bind_some]
 refine Ok.cond (λ hc => by simp at hc) (λ _ => Ok.cond (λ _ => Ok.pure (.inl (by simp))) (λ hr => ?_))
 simp only [Auu, Bool.or_eq_false_iff, decide_eq_false_iff_not] at hr
 refine (Nt h hp n).bind λ y hy => ?_
 refine Ok.bind (P := λ _ => True) (Ok.gT (λ _ => Ok.getB (by omega) (by omega)) λ _ => trivial) λ u _ => ?_
 refine Ok.cond (λ _ => Ok.pure (.inl (by simp))) (λ hc => ?_)
 simp only [Bool.or_eq_false_iff, Bool.not_eq_false'] at hc
 have hy := hy hc.1
 unfold Aa6
 rw [C7 h hp, Ms h hp]
 simp only [Option.bind_some, bne_self_eq_false, cond_false]
 have hrun : ∀ w, p.Ac[y.1.toNat]? = some w -> Db w := λ w hw => hp.run w (List.mem_of_getElem? hw)
 refine Ok.cond (λ _ => ?_) (λ _ => ?_)
 ·refine (Ayu h hp _).bind λ z hz => (Ok.getI hy.1 hy.2).bind λ w hw => ?_
  rw [Af2 hz]
  exact Ok.pure (.inr (I0 hp (Gx _ _ _) (Qk (hrun w hw) _ _ hz hp.run)))
 ·refine (Ok.getI hy.1 hy.2).bind λ w hw => ?_
  have hz : ∀ k, k ∈ [i] -> 0 <= k /\ k < p.Ac.length := λ k hk => by
   simp only [List.mem_singleton] at hk
   subst hk; omega
  rw [Af2 hz]
  exact Ok.pure (.inr (I0 hp (Gx _ _ _) (Qk (hrun w hw) _ _ hz hp.run)))
theorem Ts {b : Aa} (h : Ax b) {p : Ab} (hc : p.Ah.length = b.Af.length) (t : Int) {i : Int} (h0 : 0 <= i) (h1 : i < b.Ac.length) : Ok (M2 ⟨b, p, t⟩ i) λ _ => True := by
 obtain ⟨j, x, e, hx, _⟩ := uO h h0 h1
 have hj := (List.getElem?_eq_some_iff.1 hx).1
 unfold M2
 rw [Aqp h, e]
 simp only [Option.bind_some]
 exact (Ok.getB (by omega) (by omega)).bind λ _ _ => Ok.pure trivial
def Xm (b : Aa) (y : Int × A2) : Prop := y.1 ≠ 0 \/ Aw b y.2.Ar
theorem Awa {b : Aa} (h : Ax b) {p : Ab} (hp : Aw b p) {t : Int} (ht : 0 <= t /\ t <= 2147483648) {i : Int} (h0 : 0 <= i) (h1 : i < b.Ac.length) : Ok (M6 ⟨b, p, t⟩ i) (Xm b) := by
 have hn := hp.nso
 have hbl : p.Aq.length <= 1000 := by have := hp.brk.len; omega
 unfold M6
 refine (Ok.getB h0 (by dsimp only; omega)).bind λ u _ => Ok.bind (P := λ _ => True) (Ok.gT (λ _ => Ok.triv (Ea hbl _ _)) λ _ => trivial) λ _ _ => ?_
 refine Ok.cond (λ _ => Ok.pure (.inl (by simp))) (λ _ => (Ok.getB h0 h1).bind λ s _ => ?_)
 refine Ok.bind (P := λ _ => True) (Ok.gT (λ _ => Ts h hp.ncl t h0 h1) λ _ => trivial) λ _ _ => ?_
 refine Ok.cond (λ _ => ?_) (λ _ => ?_)
 ·exact (Ok.setI h0 (by dsimp only; omega)).bind λ z hz => Ok.pure (.inr (by
   rw [hz]
   exact I0 hp (by simp) (Lr hp.run ⟨by dsimp only; omega, ht, by dsimp only; omega, by dsimp only; omega⟩)))
 ·exact (Ok.setI h0 (by dsimp only; omega)).bind λ z hz => Ok.pure (.inr (by
   rw [hz]
   exact I0 hp (by simp) (Lr hp.run ⟨by dsimp only; omega, ht, by dsimp only; omega, by dsimp only; omega⟩)))
theorem Azl {b : Aa} (h : Ax b) {p : Ab} (hp : Aw b p) {t : Int} {i : Int} (h0 : 0 <= i) (h1 : i < b.Ac.length) : Ok (M5 ⟨b, p, t⟩ i) (Xm b) := by
 have hn := hp.nso
 unfold M5
 refine (Ok.getI h0 (by dsimp only; omega)).bind λ u hu => ?_
 have hr := hp.run u (List.mem_of_getElem? hu)
 refine Ok.bind (P := λ _ => True) (Ok.gT (λ _ => Ts h hp.ncl t h0 h1) λ _ => trivial) λ _ _ => ?_
 refine Ok.cond (λ _ => Ok.pure (.inl (by simp))) (λ _ => (Ok.setI h0 (by dsimp only; omega)).bind λ z hz => Ok.pure (.inr ?_))
 rw [hz]
 exact I0 hp (by simp) (Lr hp.run ⟨by dsimp only; omega, hr.2⟩)
theorem Awz {b : Aa} {p : Ab} (hp : Aw b p) {t : Int} {i v : Int} (h0 : 0 <= i) (h1 : i < b.Ae.length) : Ok (M4 ⟨b, p, t⟩ i v) (Xm b) := by
 have hn := hp.nli
 unfold M4
 refine Ok.bind (P := λ y => 0 <= v -> b.Ae[i.toNat]? = some y) (Ok.guard (λ _ => (Ok.getI h0 h1).mono λ y hy _ => hy) λ hg hv => (hg ⟨by simp; omega, trivial⟩).elim) λ c hc => ?_
 refine Ok.cond (λ _ => Ok.pure (.inl (by simp))) (λ hr => ?_)
 simp only [Aif, Bool.or_eq_false_iff, decide_eq_false_iff_not] at hr
 have hc := hc (by omega)
 refine (Ok.getB h0 (by dsimp only; omega)).bind λ _ _ => (Ok.setI h0 (by dsimp only; omega)).bind λ z hz => Ok.pure (.inr ?_)
 subst hz
 exact {
  ncl := hp.ncl
  nso := hp.nso
  nli := by simpa using hp.nli
  run := hp.run
  lim := λ k m y hk hy => by
   dsimp only at hk
   rw [List.getElem?_set] at hk
   split at hk
   ·rename_i e
    split at hk
    ·cases hk
     rw [← e, hc] at hy; cases hy; omega
    ·cases hk
   ·exact hp.lim k m y hk hy
  one := hp.one
  brk := hp.brk }
theorem Azy (x : Int) : 0 <= Fq x /\ Fq x <= 3599 := by
 have := Qd (x := x) (n := 3600) (by omega)
 unfold Fq
 by_cases h : Int.tmod x 3600 < 0
 ·rw [decide_eq_true h, cond_true, Bf (by omega)]; omega
 ·rw [decide_eq_false h, cond_false]; omega
theorem Alz {b : Aa} (h : Ax b) {p : Ab} (hp : Aw b p) : Ok (Aki b p) λ y => Aw b y.1 /\ y.1.Ah = p.Ah /\ y.2 = 0 := by
 have hs := h.sol
 have hn := hp.nso
 unfold Aki
 rw [C7 h hp, C_ h hp]
 simp only [Option.bind_some]
 refine Ok.cond (λ hc => by simp at hc) (λ _ => ?_)
 refine Ok.andThen (A := λ s => s.length = p.Ac.length /\ ∀ x, x ∈ s -> Db x) (B := λ (_ : Unit) => False) ?_ (λ s hs => Ok.pure ⟨I0 hp hs.1 hs.2, rfl, rfl⟩) (λ _ h => h.elim)
 refine Ok.foldI0 (I := λ _ s => s.length = p.Ac.length /\ ∀ x, x ∈ s -> Db x) ⟨rfl, hp.run⟩ (λ j x s hx hs => ?_) λ s hs => hs
 have hj := (List.getElem?_eq_some_iff.1 hx).1
 have hcnt : cnt 0 j = (j : Int) := C4 (by omega)
 unfold Wx
 rw [hcnt]
 refine Ok.cond (λ _ => ?_) (λ _ => Ok.next hs)
 refine (Ok.getI (by omega) (by omega)).bind λ u hu => (Ok.setI (by omega) (by omega)).bind λ z hz => Ok.next ?_
 have hr := hs.2 u (List.mem_of_getElem? hu)
 rw [hz]
 exact ⟨by simpa using hs.1, Lr hs.2 ⟨hr.1, hr.2.1, hr.2.2.1, Azy _⟩⟩
theorem Alw {b : Aa} (h : Ax b) {p : Ab} (hp : Aw b p) (t : Int) : Ok (Ky ⟨b, p, t⟩) λ y => Aw b y.Ar := by
 have hso := h.sol
 unfold Ky
 refine (Alz h hp).bind λ ⟨q, e⟩ hq => ?_
 dsimp only at hq ⊢
 obtain ⟨hq, _, _⟩ := hq
 have hn := hq.nso
 refine Ok.andThen (A := λ s => s.2.length = q.Ac.length /\ ∀ x, x ∈ s.2 -> Db x) (B := λ (_ : Unit) => False) ?_ (λ s hs => Ok.pure (I0 hq hs.1 hs.2)) (λ _ h => h.elim)
 refine Ok.whileN (λ s => (0 <= s.1 /\ s.1 <= (q.Ac.length : Int)) /\ s.2.length = q.Ac.length /\ ∀ x, x ∈ s.2 -> Db x) (λ s => ((q.Ac.length : Int) - s.1).toNat) _ _ ?_ ?_ ?_
 ·exact ⟨by dsimp only; omega, rfl, hq.run⟩
 ·dsimp only; omega
 ·rintro ⟨i, s⟩ ⟨⟨h1, h2⟩, h3, h4⟩
  dsimp only at h1 h2 h3 h4
  unfold Od Aie
  dsimp only
  refine Ok.cond (λ hc => ?_) (λ _ => Ok.brk ⟨h3, h4⟩)
  simp only [decide_eq_true_eq] at hc
  have e1 : w64 (i + 1) = i + 1 := Bf (by omega)
  refine (Ok.getI h1 (by omega)).bind λ u hu => ?_
  have hr := h4 u (List.mem_of_getElem? hu)
  refine Ok.bind (P := λ _ => True) (Ok.gT (λ _ => Ts h hq.ncl t h1 (by omega)) λ _ => trivial) λ _ _ => ?_
  refine Ok.bind (P := λ _ => True) (Ok.gT (λ _ => Ok.getB h1 (by omega)) λ _ => trivial) λ _ _ => ?_
  rw [e1]
  refine Ok.cond (λ _ => ?_) (λ _ => Ok.next ⟨⟨by dsimp only; omega, h3, h4⟩, by dsimp only; omega⟩)
  refine (Ok.setI h1 (by omega)).bind λ z hz => Ok.next ⟨⟨by dsimp only; omega, ?_, ?_⟩, by dsimp only; omega⟩
  ·dsimp only; rw [hz]; simpa using h3
  ·dsimp only; rw [hz]; exact Lr h4 ⟨by dsimp only; omega, hr.2⟩
theorem bet {x lo hi : Int} (h : lo <= x /\ x <= hi) : B5 x lo hi = true := (Iz x lo hi).2 h
def ofL (b : Aa) (q : Ak -> Bool) : List Int := (b.Af.zipIdx.filter λ z => q z.1).map λ z => (z.2 : Int)
theorem Agr {b : Aa} (h : Ax b) (k i : Int) : F77 b k i = some (ofL b λ x => Lm k i x) := by
 have hb := h.brl
 refine Ok.eq ?_
 unfold F77
 refine Ok.andThen (A := λ s => s = ofL b λ x => Lm k i x) (B := λ (_ : Unit) => False) ?_ (λ s hs => Ok.pure hs) (λ _ h => h.elim)
 refine Ok.foldI0 (I := λ j s => s = ((b.Af.zipIdx.take j).filter λ z => Lm k i z.1).map λ z => (z.2 : Int)) rfl (λ j x s hx hs => ?_) λ s hs => ?_
 ·have hj := (List.getElem?_eq_some_iff.1 hx).1
  have hcnt : cnt 0 j = (j : Int) := C4 (by omega)
  have hz : b.Af.zipIdx[j]? = some (x, j) := by rw [List.getElem?_zipIdx, hx]; simp
  have hsl : s.length <= j := by
   rw [hs, List.length_map]
   exact Nat.le_trans (List.length_filter_le _ _) (by simp; omega)
  unfold vH
  rw [hcnt, Bk hz, List.filter_append, List.map_append, ← hs]
  refine Ok.cond (λ hq => ?_) (λ hq => Ok.next (by simp [hq]))
  exact (Ok.appI (by simp; omega)).bind λ y hy => Ok.next (by rw [hy]; simp [hq])
 ·rw [hs, show b.Af.length = b.Af.zipIdx.length from by simp, List.take_length]; rfl
theorem Arz (q : Ak -> Bool) : ∀ (l : List Ak) (k : Nat), ((l.zipIdx k).filter λ z => q z.1).length = (l.filter q).length
 | [], _ => rfl
 | x :: l, k => by
  simp only [List.zipIdx_cons, List.filter_cons]
  split <;> simp [Arz q l (k + 1)]
theorem Azw (b : Aa) (q : Ak -> Bool) : (ofL b q).length = (b.Af.filter q).length := by
 unfold ofL
 rw [List.length_map, Arz]
theorem Awl (k : Int) (hk : k ≠ 1) (i : Int) (x : Ak) : Lm k i x = (x.Kind == k && x.B == i) := by
 unfold Lm
 have : (k == 1) = false := beq_eq_false_iff_ne.2 hk
 rw [this]; simp
theorem zW {b : Aa} {k : Int} (hk : k ≠ 1) (i : Nat) : (ofL b λ x => Lm k (i : Int) x).length = (brs b.Af k i).length := by
 rw [Azw]
 unfold brs
 congr 1
 exact List.filter_congr λ x _ => Awl k hk i x
theorem Agl {b : Aa} (h : Ax b) : Aks b = some true := by
 have hs := h.sol
 have hc := h.col
 have hb := h.buses
 have hbl := h.brl
 refine Ok.eq ?_
 unfold Aks
 rw [Da b.Af 0 λ j x hj => ?_]
 ·rw [show ∀ (f : Unit -> Option Bool), andThen (some (Ctl.next ()) : Option (Ctl Unit Bool)) some f = f () from λ _ => rfl]
  refine Ok.andThen (A := λ _ => True) (B := λ (_ : Bool) => False) ?_ (λ _ _ => ?_) (λ _ h => h.elim)
  ·refine Ok.whileN (λ s => 0 <= s /\ s <= (b.Ac.length : Int)) (λ s => ((b.Ac.length : Int) - s).toNat) _ (0 : Int) (by omega) (by omega) ?_
   rintro i ⟨h1, h2⟩
   unfold Xa Anq
   refine Ok.cond (λ hq => ?_) (λ _ => Ok.brk trivial)
   simp only [decide_eq_true_eq] at hq
   obtain ⟨n, rfl⟩ : ∃ n : Nat, i = (n : Int) := ⟨i.toNat, by omega⟩
   rw [Agr h]
   simp only [Option.bind_some]
   have hone := h.one n (by omega)
   rw [zW (by decide), hone, Bf (by omega)]
   refine Ok.cond (λ hc => by simp at hc) (λ _ => Ok.next ⟨by omega, by omega⟩)
  ·refine Ok.andThen (A := λ _ => True) (B := λ (_ : Bool) => False) ?_ (λ _ _ => Ok.pure rfl) (λ _ h => h.elim)
   refine Ok.whileN (λ s => 0 <= s /\ s <= (b.Ae.length : Int)) (λ s => ((b.Ae.length : Int) - s).toNat) _ (0 : Int) (by omega) (by omega) ?_
   rintro i ⟨h1, h2⟩
   unfold W_ Anp
   refine Ok.cond (λ hq => ?_) (λ _ => Ok.brk trivial)
   simp only [decide_eq_true_eq] at hq
   obtain ⟨n, rfl⟩ : ∃ n : Nat, i = (n : Int) := ⟨i.toNat, by omega⟩
   rw [Agr h]
   simp only [Option.bind_some]
   have hany := h.any n (by omega)
   have hpos : 0 < (brs b.Af 3 n).length := List.length_pos_iff.2 hany
   rw [zW (by decide), Bf (by omega)]
   refine Ok.cond (λ hc => ?_) (λ _ => Ok.next ⟨by omega, by omega⟩)
   simp only [decide_eq_true_eq] at hc; omega
 ·have hjl := (List.getElem?_eq_some_iff.1 hj).1
  obtain ⟨⟨a0, a1⟩, hk⟩ := h.br x (List.mem_of_getElem? hj)
  rw [Nat.zero_add]
  have hcnt : cnt 0 j = (j : Int) := C4 (by omega)
  have e1 : w64 (b.Am - 1) = b.Am - 1 := Bf (by omega)
  have e2 : w64 (x.A + 1) = x.A + 1 := Bf (by omega)
  have e3 : w64 ((b.Ac.length : Int) - 1) = (b.Ac.length : Int) - 1 := Bf (by omega)
  have e4 : w64 ((b.Ae.length : Int) - 1) = (b.Ae.length : Int) - 1 := Bf (by omega)
  unfold Xb Auw Aio Ain
  rw [e1, e2, e3, e4, hcnt, bet (x := x.A) (by omega)]
  simp only [Bool.not_true, cond_false]
  rcases hk with ⟨hk, h1, h2⟩ | ⟨hk, h1, h2⟩ | ⟨hk, h1, h2⟩
  ·rw [hk, bet (x := x.B) (lo := x.A + 1) (by omega)]; rfl
  ·rw [hk, bet (x := x.B) (lo := 0) (hi := (b.Ac.length : Int) - 1) (by omega)]; rfl
  ·rw [hk, bet (x := x.B) (lo := 0) (hi := (b.Ae.length : Int) - 1) (by omega)]
   have hcut : cutI b.Af 0 (j : Int) = some (b.Af.take j) := by
    refine Ok.eq ((Ok.cutI (by omega) (by omega) (by omega)).mono λ y hy => ?_)
    rw [hy]; simp
   show ((cutI b.Af 0 (j : Int)).bind λ y9 => andThen (foldI (P2 x) y9 0 ()) (λ v => some (Ctl.ret v)) λ z1 => some (Ctl.next ())) = some (Ctl.next ())
   rw [hcut]
   simp only [Option.bind_some]
   rw [Da _ 0 λ m y hy => ?_]
   ·rfl
   ·have hml : m < j := by
     have := (List.getElem?_eq_some_iff.1 hy).1
     simp only [List.length_take] at this; omega
    have hyb : b.Af[m]? = some y := by
     rw [List.getElem?_take, if_pos hml] at hy; exact hy
    unfold P2
    have hne : Aim x y = false := by
     unfold Aim
     rw [Bool.eq_false_iff]
     intro e
     simp only [Bool.and_true, Bool.and_eq_true, beq_iff_eq] at e
     obtain ⟨e1, e2, e3⟩ := e
     have hn := h.nodup x.B.toNat
     have hsplit : b.Af = b.Af.take j ++ (x :: b.Af.drop (j + 1)) := by
      conv => lhs; rw [← List.take_append_drop j b.Af]
      rw [List.drop_eq_getElem_cons hjl]
      have : b.Af[j] = x := by
       rw [List.getElem?_eq_getElem hjl] at hj; cases hj; rfl
      rw [this]
     rw [hsplit, Gl, List.map_append] at hn
     have hBn : x.B = (x.B.toNat : Int) := by omega
     have hmem1 : y.A ∈ (brs (b.Af.take j) 3 x.B.toNat).map (·.A) := by
      refine List.mem_map.2 ⟨y, ?_, rfl⟩
      unfold brs
      refine List.mem_filter.2 ⟨List.mem_of_getElem? hy, ?_⟩
      rw [e1, hk, e3, ← hBn]; simp
     have hmem2 : x.A ∈ (brs (x :: b.Af.drop (j + 1)) 3 x.B.toNat).map (·.A) := by
      refine List.mem_map.2 ⟨x, ?_, rfl⟩
      unfold brs
      refine List.mem_filter.2 ⟨List.mem_cons_self, ?_⟩
      rw [hk, ← hBn]; simp
     exact (List.nodup_append.1 hn).2.2 _ hmem1 _ hmem2 e2
    rw [hne]; rfl
theorem Alc {b : Aa} (h : Ax b) : Akr b = some true := by
 unfold Akr
 rw [Da b.Ac 0 λ j x hj => ?_]
 ·rfl
 ·obtain ⟨h1, h2, h3⟩ := h.so x (List.mem_of_getElem? hj)
  unfold W9 Ail
  rw [bet h1, bet h2, bet h3]; rfl
theorem Aef {b : Aa} (h : Ax b) : Akq b = some true := by
 have hcl := h.col
 unfold Akq
 rw [Da b.Ae 0 λ j x hj => ?_]
 ·rfl
 ·obtain ⟨h1, h2, h3, h4, h5, h6, h7⟩ := h.co j x hj
  have hjl := (List.getElem?_eq_some_iff.1 hj).1
  rw [Nat.zero_add]
  have hcnt : cnt 0 j = (j : Int) := C4 (by omega)
  unfold W8 Aik
  rw [bet h1, bet h2, bet h3, bet h4]
  have hd : decide ((x.Needs.length : Int) > 4) = false := by simp; omega
  rw [hd]
  simp only [Bool.not_true, Bool.or_false, cond_false]
  rw [Da x.Needs 0 λ m n hm => ?_]
  ·rfl
  ·have hml := (List.getElem?_eq_some_iff.1 hm).1
   rw [Nat.zero_add]
   have hcm : cnt 0 m = (m : Int) := C4 (by omega)
   have hn := h6 n (List.mem_of_getElem? hm)
   unfold W7 Aij
   rw [hcnt, hcm, Bf (n := (j : Int) - 1) (by omega), bet (x := n) (by omega)]
   cases m with
   | zero => rfl
   | succ m =>
    obtain ⟨a, ha⟩ : ∃ a, x.Needs[m]? = some a := ⟨_, List.getElem?_eq_getElem (by omega)⟩
    have hlt := h7 m a n ha hm
    have e : w64 (((m + 1 : Nat) : Int) - 1) = (m : Int) := by rw [Bf (by omega)]; omega
    have hp : decide (((m + 1 : Nat) : Int) > 0) = true := decide_eq_true (by omega)
    have hq : decide (a >= n) = false := by simp; omega
    rw [e, Bm ha, hp]
    simp [A3, De, hq]
theorem Awi {b : Aa} (h : Ax b) : Ak3 b = some 0 := by
 have h1 := h.buses
 have h2 := h.brl
 have h3 := h.sol
 have h4 := h.col
 have h5 := h.phase
 have h6 := h.freq
 unfold Ak3
 rw [Agl h, Alc h, Aef h]
 have e : uM b = false := by
  rw [Bool.eq_false_iff]; intro e
  simp [uM] at e; omega
 have e2 : uL b true true true = false := by
  rw [Bool.eq_false_iff]; intro e
  simp [uL] at e; omega
 rw [e]
 simp only [cond_false, Option.bind_some]
 have g1 : (A3 [(!true, false)] (some true) default : Option Bool) = some true := rfl
 have g2 : (A3 [(!true || !true, false)] (some true) default : Option Bool) = some true := rfl
 rw [g1, Option.bind_some, g2, Option.bind_some, e2]; rfl
theorem Abk (i : Nat) (C : List Bool) : ∀ (l : List Ak) (c : List Bool) (k : Nat), C.drop k = c -> l.length = c.length ->
  (((l.zipIdx k).filter λ z => z.1.Kind == 3 && z.1.B == (i : Int)).filter λ z => C.getD z.2 false).length = (Cf l c i).length
 | [], _, _, _, _ => by simp [Cf]
 | x :: l, [], _, _, h => by simp at h
 | x :: l, v :: c, k, hd, h => by
  have hv : C[k]? = some v := by
   have := congrArg (·[0]?) hd
   simpa [List.getElem?_drop] using this
  have hd' : C.drop (k + 1) = c := by rw [← List.drop_drop, hd]; rfl
  have ih := Abk i C l c (k + 1) hd' (by simpa using h)
  have hg : C.getD k false = v := by simp [List.getD, hv]
  simp only [List.zipIdx_cons, List.filter_cons, Cf, List.zip_cons_cons] at ih ⊢
  cases hq : (x.Kind == 3 && x.B == (i : Int)) with
  | false => simpa only [Bool.false_and, Bool.false_eq_true, if_false] using ih
  | true =>
   simp only [if_true, List.filter_cons, hg]
   cases v with
   | false => simpa only [Bool.and_false, Bool.false_eq_true, if_false] using ih
   | true => simpa only [Bool.and_self, if_true, List.length_cons, Nat.add_right_cancel_iff] using ih
theorem Md {b : Aa} (h : Ax b) {p : Ab} (hp : Aw b p) : F53 b p = some 0 := by
 have h3 := h.sol
 have h4 := h.col
 have hbl := h.brl
 have hncl := hp.ncl
 have hnso := hp.nso
 have hnli := hp.nli
 refine Ok.eq ?_
 unfold F53
 rw [Awi h]
 simp only [Option.bind_some]
 refine Ok.cond (λ hc => by simp at hc) (λ _ => Ok.cond (λ hc => ?_) (λ _ => ?_))
 ·simp [Aql, hncl, hnso, hnli] at hc
 rw [Da p.Ac 0 λ j x hj => ?_]
 ·rw [show ∀ (f : Unit -> Option Int), andThen (some (Ctl.next ()) : Option (Ctl Unit Int)) some f = f () from λ _ => rfl]
  rw [Da p.As 0 λ j x hj => ?_]
  ·rw [show ∀ (f : Unit -> Option Int), andThen (some (Ctl.next ()) : Option (Ctl Unit Int)) some f = f () from λ _ => rfl]
   have hlen := hp.brk.len
   refine Ok.cond (λ hc => ?_) (λ _ => ?_)
   ·simp only [decide_eq_true_eq] at hc; omega
   rw [Da p.Aq 0 λ j x hj => ?_]
   ·rw [show ∀ (f : Unit -> Option Int), andThen (some (Ctl.next ()) : Option (Ctl Unit Int)) some f = f () from λ _ => rfl]
    refine Ok.andThen (A := λ _ => True) (B := λ (_ : Int) => False) ?_ (λ _ _ => Ok.pure rfl) (λ _ h => h.elim)
    refine Ok.whileN (λ s => 0 <= s /\ s <= (b.Ae.length : Int)) (λ s => ((b.Ae.length : Int) - s).toNat) _ (0 : Int) (by omega) (by omega) ?_
    rintro i ⟨g1, g2⟩
    unfold vN Aza
    refine Ok.cond (λ hq => ?_) (λ _ => Ok.brk trivial)
    simp only [decide_eq_true_eq] at hq
    obtain ⟨n, rfl⟩ : ∃ n : Nat, i = (n : Int) := ⟨i.toNat, by omega⟩
    rw [Agr h]
    simp only [Option.bind_some]
    have hone := hp.one n (by omega)
    have hz : ofL b (λ x => Lm 3 (n : Int) x) = ((b.Af.zipIdx.filter λ z => z.1.Kind == 3 && z.1.B == (n : Int)).map λ z => (z.2 : Int)) := by
     unfold ofL
     congr 1
     exact List.filter_congr λ z _ => Awl 3 (by decide) n z.1
    have hzf := Abk n p.Ah b.Af p.Ah 0 rfl (by omega)
    rw [hz]
    have hin : ∀ z, z ∈ (b.Af.zipIdx.filter λ z => z.1.Kind == 3 && z.1.B == (n : Int)) -> z.2 < p.Ah.length := by
     rintro ⟨x, j⟩ hm
     have := (List.mem_filter.1 hm).1
     rw [List.mem_zipIdx_iff_getElem?] at this
     have := (List.getElem?_eq_some_iff.1 this).1
     dsimp only; omega
    have hsz : (b.Af.zipIdx.filter λ z => z.1.Kind == 3 && z.1.B == (n : Int)).length <= 24 := Nat.le_trans (List.length_filter_le _ _) (by simpa using hbl)
    generalize hm : (b.Af.zipIdx.filter λ z => z.1.Kind == 3 && z.1.B == (n : Int)) = m at hin hsz hzf
    refine (Ok.foldI0 (xs := m.map λ z => (z.2 : Int)) (I := λ j s => s = (((m.take j).filter λ z => p.Ah.getD z.2 false).length : Int)) (A := λ s => s = ((m.filter λ z => p.Ah.getD z.2 false).length : Int)) (B := λ (_ : Unit) => False) rfl (λ j x s hx hs => ?_) λ s hs => ?_).inner (λ s hs => ?_) (λ _ h => h.elim)
    ·rw [List.getElem?_map, Option.map_eq_some_iff] at hx
     obtain ⟨z, hz, rfl⟩ := hx
     have hzl := hin z (List.mem_of_getElem? hz)
     obtain ⟨v, hv⟩ : ∃ v, p.Ah[z.2]? = some v := ⟨_, List.getElem?_eq_getElem hzl⟩
     have hg : p.Ah.getD z.2 false = v := by simp [List.getD, hv]
     have hle : ((m.take j).filter λ z => p.Ah.getD z.2 false).length <= 24 := Nat.le_trans (List.length_filter_le _ _) (by simp; omega)
     unfold vM
     rw [Bm hv, Bk hz, List.filter_append]
     simp only [Option.bind_some]
     refine Ok.cond (λ hq => Ok.next ?_) (λ hq => Ok.next ?_)
     ·rw [hs, Bf (by omega), List.filter_cons, hg, if_pos hq]
      simp
     ·rw [hs, List.filter_cons, hg, if_neg (ff hq)]
      simp
    ·rw [List.length_map, List.take_length] at hs; exact hs
    ·rw [hs, hzf, Bf (by omega)]
     refine Ok.cond (λ hc => ?_) (λ _ => Ok.next ⟨by omega, by omega⟩)
     simp only [decide_eq_true_eq] at hc; omega
   ·have hjl := (List.getElem?_eq_some_iff.1 hj).1
    rw [Nat.zero_add]
    have hcnt : cnt 0 j = (j : Int) := C4 (by omega)
    unfold vO Aqj
    rw [(qQ h x).2 (hp.brk.mem x (List.mem_of_getElem? hj)), hcnt]
    cases j with
    | zero => rfl
    | succ j =>
     obtain ⟨a, ha⟩ : ∃ a, p.Aq[j]? = some a := ⟨_, List.getElem?_eq_getElem (by omega)⟩
     have hlt := hp.brk.asc j a x ha hj
     have e : w64 (((j + 1 : Nat) : Int) - 1) = (j : Int) := by rw [Bf (by omega)]; omega
     have hpz : decide (((j + 1 : Nat) : Int) > 0) = true := decide_eq_true (by omega)
     have hb : Abh a x = true := by
      unfold Abh
      unfold Pr at hlt
      simp only [Bool.or_eq_true, Bool.and_eq_true, decide_eq_true_eq, beq_iff_eq]
      exact hlt
     rw [e, Bm ha, hpz]
     simp [A3, De, hb]
  ·have hjl := (List.getElem?_eq_some_iff.1 hj).1
   rw [Nat.zero_add]
   have hcnt : cnt 0 j = (j : Int) := C4 (by omega)
   obtain ⟨c, hc⟩ : ∃ c, b.Ae[j]? = some c := ⟨_, List.getElem?_eq_getElem (by omega)⟩
   unfold vP
   rw [hcnt, Bm hc]
   simp only [Option.bind_some]
   rw [bet (hp.lim j x c hj hc)]; rfl
 ·have hr := hp.run x (List.mem_of_getElem? hj)
  unfold vQ Aqk
  rw [bet hr.1, bet hr.2.1, bet hr.2.2.1, bet hr.2.2.2]; rfl
theorem At8 {l : List An} {n : Nat} {x : An} (h : l[n]? = some x) : Dy (l.take n ++ l.drop (n + 1)) n x = l := by
 have hn := (List.getElem?_eq_some_iff.1 h).1
 have ht : (l.take n).length = n := by simp; omega
 unfold Dy
 rw [List.take_append_of_le_length (by omega), List.take_take, Nat.min_self, List.drop_append_of_le_length (by omega), List.drop_of_length_le (by omega), List.nil_append]
 conv => rhs; rw [← List.take_append_drop n l]
 rw [List.drop_eq_getElem_cons hn]
 have : l[n] = x := by rw [List.getElem?_eq_getElem hn] at h; cases h; rfl
 rw [this]
theorem Ks {l : List An} {n j : Nat} (hn : n < l.length) {y : An} (h : (l.take n ++ l.drop (n + 1))[j]? = some y) : (j < n /\ l[j]? = some y) \/ (n <= j /\ l[j + 1]? = some y) := by
 have ht : (l.take n).length = n := by simp; omega
 rw [List.getElem?_append] at h
 split at h
 ·rename_i h1
  rw [ht] at h1
  rw [List.getElem?_take, if_pos h1] at h
  exact .inl ⟨h1, h⟩
 ·rename_i h1
  rw [ht] at h1 h
  rw [List.getElem?_drop] at h
  refine .inr ⟨by omega, ?_⟩
  rw [← h]; congr 1; omega
theorem Axk {b : Aa} (h : Ax b) {l : List An} (hl : D1 b l) {n : Nat} (hn : n < l.length) : D1 b (l.take n ++ l.drop (n + 1)) := by
 have hs := Hd h hl
 have hsm : ∀ y, y ∈ l -> Ci y := λ y hy => (hl.mem y hy).small h
 have hlen := hl.len
 refine ⟨by simp; omega, λ y hy => ?_, λ j y z hy hz => ?_⟩
 ·rcases List.mem_append.1 hy with hy | hy
  ·exact hl.mem y (List.mem_of_mem_take hy)
  ·exact hl.mem y (List.mem_of_mem_drop hy)
 ·rcases Ks hn hy with ⟨a1, a2⟩ | ⟨a1, a2⟩ <;> rcases Ks hn hz with ⟨b1, b2⟩ | ⟨b1, b2⟩
  ·exact hl.asc j y z a2 b2
  ·exact (Aes (hsm y (List.mem_of_getElem? a2)) (hsm z (List.mem_of_getElem? b2))).2 (hs j (j + 1 + 1) y z (by omega) a2 b2)
  ·omega
  ·exact hl.asc (j + 1) y z a2 b2
theorem Axl {b : Aa} (h : Ax b) {l : List An} (hl : D1 b l) {n : Nat} {x : An} (hx : l[n]? = some x) : At (l.take n ++ l.drop (n + 1)) x n /\ (l.take n ++ l.drop (n + 1))[n]? ≠ some x := by
 have hs := Hd h hl
 have hn := (List.getElem?_eq_some_iff.1 hx).1
 refine ⟨⟨by simp; omega, λ j y hj hy => ?_, λ j y hj hy => ?_⟩, λ e => ?_⟩
 ·rcases Ks hn hy with ⟨_, a2⟩ | ⟨a1, _⟩
  ·exact hs j n y x hj a2 hx
  ·omega
 ·rcases Ks hn hy with ⟨a1, _⟩ | ⟨_, a2⟩
  ·omega
  ·have := hs n (j + 1) x y (by omega) hx a2; omega
 ·rcases Ks hn e with ⟨a1, _⟩ | ⟨_, a2⟩
  ·omega
  ·have := hs n (n + 1) x x (by omega) hx a2; omega
theorem A0d {b : Aa} (h : Ax b) {p : Ab} (hp : Aw b p) (t : Int) {x : An} (hx : B_ b x) (v : Bool) : Ok (Gb ⟨b, p, t⟩ x v) (Xm b) := by
 obtain ⟨n, hat⟩ := A6u h hp.brk hx
 have hlen := hp.brk.len
 have hsearch := Nk (Hd h hp.brk) (λ y hy => (hp.brk.mem y hy).small h) (hx.small h) (by omega)
 have hbad : ∀ (hv : (p.Aq[n]? = some x) ↔ v = true), Ok (Gb ⟨b, p, t⟩ x v) (Xm b) := by
  intro hv
  unfold Gb
  refine hsearch.bind λ y hy => ?_
  obtain ⟨m, e1, hat2, hf⟩ := hy
  have e2 := hat.uniq hat2
  subst e2
  have : y.2 = v := by
   rw [Bool.eq_iff_iff]; exact hf.trans hv
  rw [this]
  exact Ok.cond (λ _ => Ok.pure (.inl (by simp))) (λ hc => by simp at hc)
 by_cases hin : p.Aq[n]? = some x
 ·cases v with
  | true => exact hbad ⟨λ _ => rfl, λ _ => hin⟩
  | false =>
   have hn := (List.getElem?_eq_some_iff.1 hin).1
   have he := Axl h hp.brk hin
   have hq : Aw b ⟨p.Ah, p.Ac, p.As, p.Aq.take n ++ p.Aq.drop (n + 1)⟩ := { ncl := hp.ncl, nso := hp.nso, nli := hp.nli, run := hp.run, lim := hp.lim, one := hp.one, brk := Axk h hp.brk hn }
   have := Az0 h (p := ⟨p.Ah, p.Ac, p.As, p.Aq.take n ++ p.Aq.drop (n + 1)⟩) hq.brk (q := p) hx t he.1 he.2 (by simp; omega) (At8 hin).symm hp.nso
   rw [this]
   refine Ok.pure (.inr ?_)
   exact I0 hq (T2 _ _ _) (Ahn hp.run (λ hk => by have := hp.nso; unfold B_ at hx; omega) (by omega))
 ·cases v with
  | false => exact hbad ⟨λ e => absurd e hin, λ e => by cases e⟩
  | true =>
   by_cases hl : p.Aq.length < 32
   ·rw [A0e h hp hx t hat hin hl]
    exact Ok.pure (.inr (Ap0 h hp hx hat hin hl))
   ·unfold Gb
    refine hsearch.bind λ y _ => Ok.cond (λ _ => Ok.pure (.inl (by simp))) (λ _ => Ok.cond (λ _ => Ok.pure (.inl (by simp))) (λ hc => ?_))
    simp [Mu] at hc; omega
def A24 : Ab := ⟨[], [], [], []⟩
theorem Aw2 {b : Aa} (a : Ao) : Ok (Abg b a) λ y => y = true -> ((a.Kind = 1 \/ a.Kind = 2) -> B_ b ⟨2, a.Unit⟩) /\ ((a.Kind = 3 \/ a.Kind = 4) -> B_ b ⟨1, a.Unit⟩) /\ (a.Kind = 5 -> B_ b ⟨4, a.Unit⟩) /\ ((a.Kind = 8 \/ a.Kind = 9) -> B_ b ⟨a.Value, a.Unit⟩) := by
 unfold Abg
 refine Ok.andThen (A := λ z => z = true ↔ (a.Kind = 1 \/ a.Kind = 2)) (B := λ (_ : Unit) => False) ?_ (λ z hz => ?_) (λ _ h => h.elim)
 ·unfold Abf
  refine Ok.cond (λ hk => Ok.nextE ?_) (λ hk => Ok.nextE ?_)
  ·simp only [beq_iff_eq] at hk ⊢; omega
  ·simp only [beq_eq_false_iff_ne, ne_eq] at hk
   simp only [beq_iff_eq]; omega
 refine Ok.cond (λ hq => Ok.pure λ hk => ?_) (λ hq => ?_)
 ·have := hz.1 hq
  have hk := (Mg b _ _).1 hk
  exact ⟨λ _ => hk, λ e => by omega, λ e => by omega, λ e => by omega⟩
 have hn12 : ¬ (a.Kind = 1 \/ a.Kind = 2) := λ e => by rw [hz.2 e] at hq; cases hq
 refine Ok.andThen (A := λ z => z = true ↔ (a.Kind = 3 \/ a.Kind = 4)) (B := λ (_ : Unit) => False) ?_ (λ z hz => ?_) (λ _ h => h.elim)
 ·unfold Abe
  refine Ok.cond (λ hk => Ok.nextE ?_) (λ hk => Ok.nextE ?_)
  ·simp only [beq_iff_eq] at hk ⊢; omega
  ·simp only [beq_eq_false_iff_ne, ne_eq] at hk
   simp only [beq_iff_eq]; omega
 refine Ok.cond (λ hq => Ok.pure λ hk => ?_) (λ hq => ?_)
 ·have := hz.1 hq
  have hk := (Mg b _ _).1 hk
  exact ⟨λ e => by omega, λ _ => hk, λ e => by omega, λ e => by omega⟩
 have hn34 : ¬ (a.Kind = 3 \/ a.Kind = 4) := λ e => by rw [hz.2 e] at hq; cases hq
 refine Ok.cond (λ hq => Ok.pure λ hk => ?_) (λ hq5 => Ok.cond (λ hq => Ok.pure λ _ => ?_) (λ hq6 => Ok.cond (λ hq => Ok.pure λ hk => ?_) (λ hq8 => Ok.cond (λ hq => Ok.pure λ hk => ?_) (λ hq9 => Ok.pure λ _ => ?_))))
 ·simp only [beq_iff_eq] at hq
  have hk := (Mg b _ _).1 hk
  exact ⟨λ e => by omega, λ e => by omega, λ _ => hk, λ e => by omega⟩
 ·simp only [beq_iff_eq] at hq
  exact ⟨λ e => by omega, λ e => by omega, λ e => by omega, λ e => by omega⟩
 ·have hk := (Mg b _ _).1 hk
  simp only [beq_iff_eq] at hq
  exact ⟨λ e => by omega, λ e => by omega, λ e => by omega, λ _ => hk⟩
 ·have hk := (Mg b _ _).1 hk
  simp only [beq_iff_eq] at hq
  exact ⟨λ e => by omega, λ e => by omega, λ e => by omega, λ _ => hk⟩
 ·simp only [beq_eq_false_iff_ne, ne_eq] at hq5 hq8 hq9
  exact ⟨λ e => by omega, λ e => by omega, λ e => by omega, λ e => by omega⟩
theorem A6n {b : Aa} (h : Ax b) {p : Ab} (hp : Aw b p) {t : Int} (ht : 0 <= t /\ t <= 2147483648) {a : Ao} (hk : 1 <= a.Kind /\ a.Kind <= 9)
  (hw : ((a.Kind = 1 \/ a.Kind = 2) -> B_ b ⟨2, a.Unit⟩) /\ ((a.Kind = 3 \/ a.Kind = 4) -> B_ b ⟨1, a.Unit⟩) /\ (a.Kind = 5 -> B_ b ⟨4, a.Unit⟩) /\ ((a.Kind = 8 \/ a.Kind = 9) -> B_ b ⟨a.Value, a.Unit⟩)) : Ok (Ji ⟨b, p, t⟩ a) (Xm b) := by
 obtain ⟨w1, w2, w3, w4⟩ := hw
 unfold B_ at w2 w3
 dsimp only at w2 w3
 unfold Ji
 refine Ok.cond (λ _ => (Axu h hp _).bind λ y hy => Ok.pure hy) (λ q1 => ?_)
 refine Ok.cond (λ _ => (Azv h hp _).bind λ y hy => Ok.pure hy) (λ q2 => ?_)
 refine Ok.cond (λ _ => (Awx h hp _ _).bind λ y hy => Ok.pure hy) (λ q6 => ?_)
 refine Ok.cond (λ q => ?_) (λ q3 => ?_)
 ·simp only [beq_iff_eq] at q
  exact (Awa h hp ht (by omega) (by omega)).bind λ y hy => Ok.pure hy
 refine Ok.cond (λ q => ?_) (λ q4 => ?_)
 ·simp only [beq_iff_eq] at q
  exact (Azl h hp (by omega) (by omega)).bind λ y hy => Ok.pure hy
 refine Ok.cond (λ q => ?_) (λ q5 => ?_)
 ·simp only [beq_iff_eq] at q
  exact (Awz hp (by omega) (by omega)).bind λ y hy => Ok.pure hy
 refine Ok.cond (λ _ => (Alw h hp t).bind λ y hy => Ok.pure (.inr hy)) (λ q7 => ?_)
 simp only [beq_eq_false_iff_ne, ne_eq] at q1 q2 q3 q4 q5 q6 q7
 exact (A0d h hp t (w4 (by omega)) _).bind λ y hy => Ok.pure hy
theorem A48 {b : Aa} (h : Ax b) {p : Ab} (hp : Aw b p) (t : Int) (a : Ao) : Ok (F83 b p t a) λ y => (y.2 ≠ 0 /\ y.1 = A24) \/ (y.2 = 0 /\ Aw b y.1) := by
 unfold F83
 rw [C7 h hp, C_ h hp]
 simp only [Option.bind_some]
 refine Ok.cond (λ hc => by simp at hc) (λ _ => Ok.cond (λ _ => Ok.pure (.inl ⟨by simp, rfl⟩)) (λ hr => ?_))
 simp only [Aqg, Bool.or_eq_false_iff, decide_eq_false_iff_not] at hr
 refine (Aw2 a).bind λ y hy => Ok.cond (λ _ => Ok.pure (.inl ⟨by simp, rfl⟩)) (λ hk => ?_)
 simp only [Bool.not_eq_false'] at hk
 refine (A6n h hp (by omega) (by omega) (hy hk)).bind λ z hz => Ok.cond (λ hc => Ok.pure (.inl ⟨by simpa using hc, rfl⟩)) (λ hc => ?_)
 simp only [bne_eq_false_iff_eq] at hc
 rcases hz with hz | hz
 ·exact absurd hc hz
 ·exact Ok.pure (.inr ⟨rfl, hz⟩)
theorem A5i {b : Aa} (h : Ax b) {s : Ai} (hs : Bw s) : Ok (vT s b) λ y => Bw y.2 := by
 have hbu := h.buses
 have hbl := h.brl
 have hso := h.sol
 have hco := h.col
 unfold vT
 refine (Hp hs 1 9 (by omega) (by omega) (by omega)).bind λ y hy => ?_
 refine Ok.andThen (A := λ _ => True) (B := λ (_ : Unit) => False) ?_ (λ z _ => ?_) (λ _ h => h.elim)
 ·unfold Zw
  exact Ok.cond (λ _ => Ok.nextE trivial) (λ _ => Ok.nextE trivial)
 refine Ok.cond (λ _ => ?_) (λ _ => ?_)
 ·exact (Um hy.1 _ (by rw [Bf (by omega)]; omega)).bind λ u hu => Ok.pure hu.1
 refine Ok.andThen (A := λ _ => True) (B := λ (_ : Unit) => False) ?_ (λ z _ => ?_) (λ _ h => h.elim)
 ·unfold Zv
  exact Ok.cond (λ _ => Ok.nextE trivial) (λ _ => Ok.nextE trivial)
 refine Ok.cond (λ _ => ?_) (λ _ => Ok.cond (λ _ => ?_) (λ _ => Ok.cond (λ _ => ?_) (λ _ => Ok.cond (λ _ => ?_) (λ _ => Ok.cond (λ _ => ?_) (λ _ => Ok.pure hy.1)))))
 ·exact (Um hy.1 _ (by rw [Bf (by omega)]; omega)).bind λ u hu => Ok.pure hu.1
 ·exact (Um hy.1 _ (by rw [Bf (by omega)]; omega)).bind λ u hu => (D0 hu.1 _ (by simp) (by simp)).bind λ v hv => Ok.pure hv.1
 ·exact (Um hy.1 _ (by rw [Bf (by omega)]; omega)).bind λ u hu => (Um hu.1 _ (by rw [Bf (by omega)]; omega)).bind λ v hv => Ok.pure hv.1
 ·exact (Hp hy.1 1 4 (by omega) (by omega) (by omega)).bind λ u hu => (Um hu.1 _ (by omega)).bind λ v hv => Ok.pure hv.1
 ·exact (Hp hy.1 1 4 (by omega) (by omega) (by omega)).bind λ u hu => (Um hu.1 _ (by omega)).bind λ v hv => Ok.pure hv.1
abbrev Dl := List (Ak × Bool)
def Tie (L : Dl) (i j : Nat) : Prop := ∃ z, z ∈ L /\ z.1.Kind = 1 /\ z.2 = true /\ ((z.1.A.toNat = i /\ z.1.B.toNat = j) \/ (z.1.A.toNat = j /\ z.1.B.toNat = i))
theorem Tie.symm {L : Dl} {i j : Nat} (h : Tie L i j) : Tie L j i := by
 obtain ⟨z, h1, h2, h3, h4⟩ := h
 exact ⟨z, h1, h2, h3, h4.symm⟩
inductive Dg (L : Dl) (i : Nat) : Nat -> Nat -> Prop
 | refl : Dg L i 0 i
 | stay {r j : Nat} : Dg L i r j -> Dg L i (r + 1) j
 | step {r j k : Nat} : Dg L i r j -> Tie L j k -> Dg L i (r + 1) k
def Gn (L : Dl) (i j : Nat) : Prop := ∃ r, Dg L i r j
theorem Gn.refl (L : Dl) (i : Nat) : Gn L i i := ⟨0, .refl⟩
theorem Gn.tie {L : Dl} {i j k : Nat} (h : Gn L i j) (t : Tie L j k) : Gn L i k := by
 obtain ⟨r, h⟩ := h; exact ⟨r + 1, h.step t⟩
theorem Gn.trans {L : Dl} {i j k : Nat} (h : Gn L i j) (h2 : Gn L j k) : Gn L i k := by
 obtain ⟨r, h2⟩ := h2
 induction h2 with
 | refl => exact h
 | stay _ ih => exact ih
 | step _ t ih => exact ih.tie t
theorem Gn.symm {L : Dl} {i j : Nat} (h : Gn L i j) : Gn L j i := by
 obtain ⟨r, h⟩ := h
 induction h with
 | refl => exact .refl L i
 | stay _ ih => exact ih
 | step _ t ih => exact (Gn.tie (.refl L _) t.symm).trans ih
theorem Dg.le {L : Dl} {i j r s : Nat} (h : Dg L i r j) (hs : r <= s) : Dg L i s j := by
 induction s with
 | zero =>
  have : r = 0 := by omega
  subst this; exact h
 | succ s ih =>
  by_cases e : r = s + 1
  ·subst e; exact h
  ·exact (ih (by omega)).stay
open Classical in
noncomputable def cn (p : Nat -> Prop) : Nat -> Nat
 | 0 => 0
 | n + 1 => cn p n + if p n then 1 else 0
theorem Ay5 (p : Nat -> Prop) : ∀ n, cn p n <= n
 | 0 => Nat.le_refl _
 | n + 1 => by have := Ay5 p n; unfold cn; split <;> omega
theorem Aat {p q : Nat -> Prop} : ∀ n, (∀ k, k < n -> p k -> q k) -> cn p n <= cn q n
 | 0, _ => Nat.le_refl _
 | n + 1, h => by
  have := Aat n λ k hk => h k (by omega)
  have h1 := h n (by omega)
  unfold cn
  by_cases hp : p n
  ·rw [if_pos hp, if_pos (h1 hp)]; omega
  ·rw [if_neg hp]; split <;> omega
theorem Aqb {p q : Nat -> Prop} : ∀ n, (∀ k, k < n -> p k -> q k) -> cn p n = cn q n -> ∀ k, k < n -> q k -> p k
 | 0, _, _, k, hk, _ => by omega
 | n + 1, h, e, k, hk, hq => by
  have hm := Aat n λ k hk => h k (by omega)
  have h1 := h n (by omega)
  unfold cn at e
  by_cases hp : p n
  ·rw [if_pos hp, if_pos (h1 hp)] at e
   by_cases ek : k = n
   ·subst ek; exact hp
   ·exact Aqb n (λ k hk => h k (by omega)) (by omega) k (by omega) hq
  ·rw [if_neg hp] at e
   by_cases hqn : q n
   ·rw [if_pos hqn] at e; omega
   ·rw [if_neg hqn] at e
    by_cases ek : k = n
    ·subst ek; exact absurd hq hqn
    ·exact Aqb n (λ k hk => h k (by omega)) (by omega) k (by omega) hq
def Aex (L : Dl) (n : Nat) : Prop := ∀ i j, Tie L i j -> i < n /\ j < n
theorem uA {L : Dl} {n i j : Nat} (hL : Aex L n) (_ : i < n) (h : Gn L i j) : Dg L i n j := by
 have hst : ∃ r, r <= n /\ ∀ k, k < n -> Dg L i (r + 1) k -> Dg L i r k := by
  by_cases hex : ∃ r, r <= n /\ ∀ k, k < n -> Dg L i (r + 1) k -> Dg L i r k
  ·exact hex
  exfalso
  have hgrow : ∀ r, r <= n -> cn (Dg L i r) n < cn (Dg L i (r + 1)) n := by
   intro r hr
   have hm := Aat (p := Dg L i r) (q := Dg L i (r + 1)) n λ k _ h => h.stay
   rcases Nat.lt_or_eq_of_le hm with h | h
   ·exact h
   ·exact absurd ⟨r, hr, Aqb n (λ k _ h => h.stay) h⟩ hex
  have hge : ∀ r, r <= n + 1 -> r <= cn (Dg L i r) n := by
   intro r
   induction r with
   | zero => intro _; omega
   | succ r ih => intro hr; have := ih (by omega); have := hgrow r (by omega); omega
  have h1 := hge (n + 1) (Nat.le_refl _)
  have h2 := Ay5 (Dg L i (n + 1)) n
  omega
 obtain ⟨r, hr, hs⟩ := hst
 obtain ⟨s, h⟩ := h
 have key : ∀ s k, Dg L i s k -> Dg L i r k := by
  intro s k h
  induction h with
  | refl => exact Dg.refl.le (by omega)
  | stay _ ih => exact ih
  | step h0 t ih => exact hs _ (hL _ _ t).2 (ih.step t)
 exact (key s j h).le hr
def Cy (b : Aa) (p : Ab) : Dl := b.Af.zip p.Ah
theorem yJ {b : Aa} (h : Ax b) (p : Ab) : Aex (Cy b p) b.Am.toNat := by
 rintro i j ⟨z, hz, hk, _, he⟩
 have := h.br z.1 (List.of_mem_zip hz).1
 unfold R6 at this
 omega
theorem A2x {s : List Int} {i : Nat} (h : i < s.length) : s[i]? = some (s.getD i 0) := by
 rw [List.getElem?_eq_getElem h]; simp [List.getD, List.getElem?_eq_getElem h]
theorem Tu {s : List Int} {z : Ak × Bool} {i : Nat} (hi : i < s.length) : (Ew s z).getD i 0 = if (z.1.Kind = 1 /\ z.2 = true) /\ (i = z.1.A.toNat \/ i = z.1.B.toNat) then min (s.getD z.1.A.toNat 0) (s.getD z.1.B.toNat 0) else s.getD i 0 := by
 unfold Ew
 by_cases hk : z.1.Kind = 1 /\ z.2 = true
 ·rw [if_pos hk]
  by_cases hB : i = z.1.B.toNat
  ·rw [if_pos ⟨hk, .inr hB⟩]
   simp [List.getD, ← hB, hi]
  ·by_cases hA : i = z.1.A.toNat
   ·rw [if_pos ⟨hk, .inl hA⟩]
    have h1 : ¬ z.1.B.toNat = i := λ e => hB e.symm
    simp only [List.getD, List.getElem?_set_ne h1]
    rw [← hA, List.getElem?_set_self hi]; rfl
   ·rw [if_neg (λ e => e.2.elim hA hB)]
    have h1 : ¬ z.1.B.toNat = i := λ e => hB e.symm
    have h2 : ¬ z.1.A.toNat = i := λ e => hA e.symm
    simp only [List.getD, List.getElem?_set_ne h1, List.getElem?_set_ne h2]
 ·rw [if_neg hk, if_neg (λ e => hk e.1)]
def Lab (L : Dl) (s : List Int) : Prop := ∀ i, i < s.length -> Gn L (s.getD i 0).toNat i
theorem Atu {L : Dl} {s : List Int} (h : Lab L s) {z : Ak × Bool} (hz : z ∈ L) (hr : z.1.Kind = 1 -> z.1.A.toNat < s.length /\ z.1.B.toNat < s.length) : Lab L (Ew s z) := by
 intro i hi
 rw [D8] at hi
 rw [Tu hi]
 split
 ·rename_i hc
  obtain ⟨⟨hk, hv⟩, hab⟩ := hc
  obtain ⟨ha, hb⟩ := hr hk
  have tAB : Tie L z.1.A.toNat z.1.B.toNat := ⟨z, hz, hk, hv, .inl ⟨rfl, rfl⟩⟩
  have c1 := h _ ha
  have c2 := h _ hb
  rcases Int.le_total (s.getD z.1.A.toNat 0) (s.getD z.1.B.toNat 0) with e | e
  ·rw [Int.min_eq_left e]
   rcases hab with rfl | rfl
   ·exact c1
   ·exact c1.tie tAB
  ·rw [Int.min_eq_right e]
   rcases hab with rfl | rfl
   ·exact c2.tie tAB.symm
   ·exact c2
 ·exact h i hi
theorem Q3 {L : Dl} {n : Nat} : ∀ (l : Dl) (s : List Int), s.length = n -> (∀ z, z ∈ l -> z ∈ L /\ (z.1.Kind = 1 -> z.1.A.toNat < n /\ z.1.B.toNat < n)) -> Lab L s -> Lab L (Dd l s)
 | [], _, _, _, h => h
 | z :: l, s, hs, hz, h => Q3 l (Ew s z) (by rw [D8]; exact hs) (λ y hy => hz y (List.mem_cons_of_mem _ hy)) (Atu h (hz z List.mem_cons_self).1 (by rw [hs]; exact (hz z List.mem_cons_self).2))
theorem Tv {s : List Int} (z : Ak × Bool) {i : Nat} (hi : i < s.length) : (Ew s z).getD i 0 <= s.getD i 0 := by
 rw [Tu hi]
 split
 ·rename_i hc
  rcases hc.2 with rfl | rfl
  ·exact Int.min_le_left _ _
  ·exact Int.min_le_right _ _
 ·exact Int.le_refl _
theorem Q4 : ∀ (l : Dl) (s : List Int) {i : Nat}, i < s.length -> (Dd l s).getD i 0 <= s.getD i 0
 | [], _, _, _ => Int.le_refl _
 | z :: l, s, i, hi => Int.le_trans (Q4 l (Ew s z) (by rw [D8]; exact hi)) (Tv z hi)
theorem qM : ∀ (l : Dl) (s : List Int) {z : Ak × Bool}, z ∈ l -> z.1.Kind = 1 -> z.2 = true -> z.1.A.toNat < s.length -> z.1.B.toNat < s.length -> ∀ i, i = z.1.A.toNat \/ i = z.1.B.toNat -> (Dd l s).getD i 0 <= min (s.getD z.1.A.toNat 0) (s.getD z.1.B.toNat 0)
 | [], _, _, h, _, _, _, _, _, _ => by cases h
 | y :: l, s, z, hz, hk, hv, ha, hb, i, hi => by
  show (Dd l (Ew s y)).getD i 0 <= _
  have hil : i < s.length := by rcases hi with rfl | rfl <;> assumption
  by_cases e : z = y
  ·subst e
   refine Int.le_trans (Q4 l _ (by rw [D8]; exact hil)) ?_
   rw [Tu hil, if_pos ⟨⟨hk, hv⟩, hi⟩]
   exact Int.le_refl _
  ·have hz' : z ∈ l := by
    rcases List.mem_cons.1 hz with h | h
    ·exact absurd h e
    ·exact h
   refine Int.le_trans (qM l (Ew s y) hz' hk hv (by rw [D8]; exact ha) (by rw [D8]; exact hb) i hi) ?_
   have h1 := Tv y ha
   have h2 := Tv y hb
   omega
theorem Kl {n i : Nat} (h : i < n) : (Cm n).getD i 0 = (i : Int) := by
 simp [Cm, List.getD, List.getElem?_range h]
theorem Apw {L : Dl} {n : Nat} (hL : Aex L n) : ∀ r i j, i < n -> j < n -> Dg L j r i -> ((List.range r).foldl (λ s _ => Dd L s) (Cm n)).getD i 0 <= (j : Int) := by
 intro r
 have hlen : ∀ r, ((List.range r).foldl (λ s _ => Dd L s) (Cm n)).length = n := by
  intro r
  induction r with
  | zero => simp [Cm]
  | succ r ih => rw [List.range_succ, List.foldl_append]; simp only [List.foldl_cons, List.foldl_nil, Ff]; exact ih
 induction r with
 | zero =>
  intro i j hi hj h
  cases h
  show (Cm n).getD i 0 <= _
  rw [Kl hi]
  exact Int.le_refl _
 | succ r ih =>
  intro i j hi hj h
  have hrl := hlen r
  rw [List.range_succ, List.foldl_append]
  simp only [List.foldl_cons, List.foldl_nil]
  generalize (List.range r).foldl (λ s _ => Dd L s) (Cm n) = s at *
  cases h with
  | stay h => exact Int.le_trans (Q4 L s (by omega)) (ih i j hi hj h)
  | step h t =>
   rename_i k
   have hk := hL _ _ t
   have h1 := ih k j hk.1 hj h
   obtain ⟨z, hz, hz1, hz2, he⟩ := t
   have hA : z.1.A.toNat < s.length := by omega
   have hB : z.1.B.toNat < s.length := by omega
   have h2 := qM L s hz hz1 hz2 hA hB i (by omega)
   rcases he with ⟨e1, e2⟩ | ⟨e1, e2⟩
   ·rw [e1] at h2; omega
   ·rw [e2] at h2; omega
theorem qL {b : Aa} (h : Ax b) (p : Ab) {i j : Nat} (hi : i < b.Am.toNat) (hj : j < b.Am.toNat) : (Bd b p).getD i 0 = (Bd b p).getD j 0 ↔ Gn (Cy b p) i j := by
 have hL := yJ h p
 have hlen := Ic b p
 have hlab : Lab (Cy b p) (Bd b p) := by
  have hz : ∀ z, z ∈ Cy b p -> z ∈ Cy b p /\ (z.1.Kind = 1 -> z.1.A.toNat < b.Am.toNat /\ z.1.B.toNat < b.Am.toNat) := by
   intro z hz
   refine ⟨hz, λ hk => ?_⟩
   have := h.br z.1 (List.of_mem_zip hz).1
   unfold R6 at this
   omega
  have key : ∀ (xs : List Nat) (s : List Int), s.length = b.Am.toNat -> Lab (Cy b p) s -> Lab (Cy b p) (xs.foldl (λ s _ => Dd (b.Af.zip p.Ah) s) s) := by
   intro xs
   induction xs with
   | nil => intro s _ h; exact h
   | cons x xs ih => intro s hl h; exact ih _ (by rw [Ff]; exact hl) (Q3 _ s hl hz h)
  refine key _ _ (by simp [Cm]) ?_
  intro k hk
  have hk' : k < b.Am.toNat := by simpa [Cm] using hk
  rw [Kl hk']
  exact .refl _ k
 have hlow : ∀ i j, i < b.Am.toNat -> j < b.Am.toNat -> Gn (Cy b p) j i -> (Bd b p).getD i 0 <= (j : Int) := λ i j hi hj hc => Apw hL _ i j hi hj (uA hL hj hc)
 have hlo := Tw h p
 have hrange : ∀ i, i < b.Am.toNat -> 0 <= (Bd b p).getD i 0 /\ ((Bd b p).getD i 0).toNat < b.Am.toNat := by
  intro i hi
  have := hlo i _ (A2x (by omega))
  omega
 constructor
 ·intro e
  have c1 := hlab i (by omega)
  have c2 := hlab j (by omega)
  rw [e] at c1
  exact c1.symm.trans c2
 ·intro hc
  have r1 := hrange i hi
  have r2 := hrange j hj
  have c1 := hlab i (by omega)
  have c2 := hlab j (by omega)
  have l1 := hlow j _ hj r1.2 (c1.trans hc)
  have l2 := hlow i _ hi r2.2 (c2.trans hc.symm)
  omega
def Fr (s : List Bool) (z : Ak × Bool) : List Bool :=
 if (z.1.Kind = 1 /\ z.2 = true) /\ (s.getD z.1.A.toNat false || s.getD z.1.B.toNat false) = true then (s.set z.1.A.toNat true).set z.1.B.toNat true else s
theorem E4 (s : List Bool) (z : Ak × Bool) : (Fr s z).length = s.length := by unfold Fr; split <;> simp
def Gp (L : Dl) (s : List Bool) : List Bool := L.foldl Fr s
theorem K8 : ∀ (l : Dl) (s : List Bool), (Gp l s).length = s.length
 | [], _ => rfl
 | z :: l, s => by show (Gp l (Fr s z)).length = _; rw [K8 l, E4]
theorem Awf {s : List Bool} {m i : Nat} (hi : i < s.length) : (s.set m true).getD i false = (decide (m = i) || s.getD i false) := by
 by_cases e : m = i
 ·subst e; simp [List.getD, hi]
 ·simp [List.getD, List.getElem?_set_ne e, e]
theorem Kj {s : List Bool} {z : Ak × Bool} {i : Nat} (hi : i < s.length) : (Fr s z).getD i false = true ↔ s.getD i false = true \/ (((z.1.Kind = 1 /\ z.2 = true) /\ (s.getD z.1.A.toNat false || s.getD z.1.B.toNat false) = true) /\ (i = z.1.A.toNat \/ i = z.1.B.toNat)) := by
 unfold Fr
 split
 ·rename_i hc
  rw [Awf (by simpa using hi), Awf hi, Bool.or_eq_true, Bool.or_eq_true, decide_eq_true_iff, decide_eq_true_iff]
  constructor
  ·rintro (e | e | e)
   ·exact .inr ⟨hc, .inr e.symm⟩
   ·exact .inr ⟨hc, .inl e.symm⟩
   ·exact .inl e
  ·rintro (e | ⟨_, e | e⟩)
   ·exact .inr (.inr e)
   ·exact .inr (.inl e.symm)
   ·exact .inl e.symm
 ·rename_i hc
  exact ⟨.inl, λ e => e.elim id λ e => absurd e.1 hc⟩
def Got (L : Dl) (n : Nat) (s : List Bool) : Prop := ∀ i, i < s.length -> s.getD i false = true -> Gn L n i
theorem As7 {L : Dl} {n : Nat} {s : List Bool} (h : Got L n s) {z : Ak × Bool} (hz : z ∈ L) (hr : z.1.Kind = 1 -> z.1.A.toNat < s.length /\ z.1.B.toNat < s.length) : Got L n (Fr s z) := by
 intro i hi e
 rw [E4] at hi
 rcases (Kj hi).1 e with e | ⟨⟨⟨hk, hv⟩, ho⟩, hab⟩
 ·exact h i hi e
 ·obtain ⟨ha, hb⟩ := hr hk
  have t : Tie L z.1.A.toNat z.1.B.toNat := ⟨z, hz, hk, hv, .inl ⟨rfl, rfl⟩⟩
  simp only [Bool.or_eq_true] at ho
  rcases ho with ho | ho
  ·have c := h _ ha ho
   rcases hab with rfl | rfl
   ·exact c
   ·exact c.tie t
  ·have c := h _ hb ho
   rcases hab with rfl | rfl
   ·exact c.tie t.symm
   ·exact c
theorem jS {L : Dl} {n m : Nat} : ∀ (l : Dl) (s : List Bool), s.length = m -> (∀ z, z ∈ l -> z ∈ L /\ (z.1.Kind = 1 -> z.1.A.toNat < m /\ z.1.B.toNat < m)) -> Got L n s -> Got L n (Gp l s)
 | [], _, _, _, h => h
 | z :: l, s, hs, hz, h => jS l (Fr s z) (by rw [E4]; exact hs) (λ y hy => hz y (List.mem_cons_of_mem _ hy)) (As7 h (hz z List.mem_cons_self).1 (by rw [hs]; exact (hz z List.mem_cons_self).2))
theorem Qo : ∀ (l : Dl) (s : List Bool) {i : Nat}, i < s.length -> s.getD i false = true -> (Gp l s).getD i false = true
 | [], _, _, _, h => h
 | z :: l, s, _, hi, h => Qo l (Fr s z) (by rw [E4]; exact hi) ((Kj hi).2 (.inl h))
theorem jR : ∀ (l : Dl) (s : List Bool) {z : Ak × Bool}, z ∈ l -> z.1.Kind = 1 -> z.2 = true -> z.1.A.toNat < s.length -> z.1.B.toNat < s.length -> (s.getD z.1.A.toNat false || s.getD z.1.B.toNat false) = true -> ∀ i, i = z.1.A.toNat \/ i = z.1.B.toNat -> (Gp l s).getD i false = true
 | [], _, _, h, _, _, _, _, _, _, _ => by cases h
 | y :: l, s, z, hz, hk, hv, ha, hb, ho, i, hi => by
  show (Gp l (Fr s y)).getD i false = true
  have hil : i < s.length := by rcases hi with rfl | rfl <;> assumption
  by_cases e : z = y
  ·subst e
   exact Qo l _ (by rw [E4]; exact hil) ((Kj hil).2 (.inr ⟨⟨⟨hk, hv⟩, ho⟩, hi⟩))
  ·have hz' : z ∈ l := by
    rcases List.mem_cons.1 hz with h | h
    ·exact absurd h e
    ·exact h
   refine jR l (Fr s y) hz' hk hv (by rw [E4]; exact ha) (by rw [E4]; exact hb) ?_ i hi
   simp only [Bool.or_eq_true] at ho ⊢
   exact ho.imp (λ e => (Kj ha).2 (.inl e)) (λ e => (Kj hb).2 (.inl e))
def Kk (L : Dl) (r : Nat) (s : List Bool) : List Bool := (List.range r).foldl (λ s _ => Gp L s) s
theorem J9 (L : Dl) (r : Nat) (s : List Bool) : Kk L (r + 1) s = Gp L (Kk L r s) := by
 unfold Kk; rw [List.range_succ, List.foldl_append]; rfl
theorem Hs (L : Dl) (s : List Bool) : ∀ r, (Kk L r s).length = s.length
 | 0 => rfl
 | r + 1 => by rw [J9, K8, Hs L s r]
theorem Ao4 {L : Dl} {n m : Nat} (hL : Aex L m) {s : List Bool} (hs : s.length = m) (hn : s.getD n false = true) : ∀ r i, i < m -> Dg L n r i -> (Kk L r s).getD i false = true := by
 intro r
 induction r with
 | zero => intro i _ h; cases h; exact hn
 | succ r ih =>
  intro i hi h
  rw [J9]
  have hl := Hs L s r
  cases h with
  | stay h => exact Qo L _ (by omega) (ih i hi h)
  | step h t =>
   rename_i k
   have hk := hL _ _ t
   have h1 := ih k hk.1 h
   obtain ⟨z, hz, hz1, hz2, he⟩ := t
   refine jR L _ hz hz1 hz2 (by omega) (by omega) ?_ i (by omega)
   rcases he with ⟨e1, _⟩ | ⟨_, e2⟩
   ·rw [e1, h1]; rfl
   ·rw [e2, h1]; simp
def I1 (b : Aa) (p : Ab) (n : Nat) : List Int := ((List.range b.Am.toNat).filter λ i => (Bd b p).getD i 0 == (Bd b p).getD n 0).map λ (i : Nat) => (i : Int)
theorem Awj {b : Aa} (h : Ax b) {p : Ab} (hp : Aw b p) {n : Nat} (hn : n < b.Am.toNat) : Ak2 b p (n : Int) = some (I1 b p n) := by
 have hbu := h.buses
 have hbl := h.brl
 have hncl := hp.ncl
 have hL := yJ h p
 refine Ok.eq ?_
 unfold Ak2
 refine (Ok.mkI (by omega) (by omega)).bind λ y hy => ?_
 have hyl : y.length = b.Am.toNat := by rw [hy]; simp
 refine (Ok.getB (by omega) (by omega)).bind λ _ _ => (Ok.setI (by omega) (by omega)).bind λ z hz => ?_
 rw [Int.toNat_natCast] at hz
 have hzl : z.length = b.Am.toNat := by rw [hz]; simpa using hyl
 have hzn : z.getD n false = true := by rw [hz]; simp [List.getD, hyl, hn]
 have hzg : Got (Cy b p) n z := by
  intro i hi e
  have hiy : i < y.length := by omega
  rw [hz, Awf hiy] at e
  simp only [Bool.or_eq_true, decide_eq_true_eq] at e
  rcases e with e | e
  ·subst e; exact .refl _ _
  ·rw [hy] at e; simp [List.getD, show i < b.Am.toNat by omega] at e
 clear hz
 refine Ok.andThen (A := λ s => s = Kk (Cy b p) b.Am.toNat z) (B := λ (_ : Unit) => False) ?_ (λ s hs => ?_) (λ _ h => h.elim)
 ·refine Ok.foldI0 (I := λ j s => s = Kk (Cy b p) j z) rfl (λ j x s hx hs => ?_) λ s hs => by rw [hs, hzl]
  unfold Xj
  have hsl : s.length = b.Am.toNat := by rw [hs, Hs, hzl]
  refine (Ok.foldI0 (I := λ k r => r = Gp ((Cy b p).take k) s) (A := λ r => r = Gp (Cy b p) s) (B := λ (_ : Unit) => False) rfl (λ k u r hu hr => ?_) λ r hr => ?_).inner (λ r hr => Ok.next (by rw [hr, hs, J9])) (λ _ h => h.elim)
  ·have hk := (List.getElem?_eq_some_iff.1 hu).1
   have hcnt : cnt 0 k = (k : Int) := C4 (by omega)
   have hrl : r.length = b.Am.toNat := by rw [hr, K8, hsl]
   obtain ⟨⟨a0, a1⟩, hkind⟩ := h.br u (List.mem_of_getElem? hu)
   obtain ⟨v, hv⟩ : ∃ v, p.Ah[k]? = some v := ⟨_, List.getElem?_eq_getElem (by omega)⟩
   have hzk : (Cy b p)[k]? = some (u, v) := by unfold Cy; rw [List.getElem?_zip_eq_some]; exact ⟨hu, hv⟩
   have hnext : Gp ((Cy b p).take (k + 1)) s = Fr r (u, v) := by
    rw [Bk hzk, Gp, List.foldl_append, hr]; rfl
   rw [hnext]
   have hB : u.Kind = 1 -> 0 <= u.B /\ u.B < b.Am := λ e => by omega
   unfold Xi
   rw [hcnt, Bm hv]
   by_cases k1 : u.Kind = 1
   ·have h2 := hB k1
    obtain ⟨ga, hga⟩ : ∃ ga, r[u.A.toNat]? = some ga := ⟨_, List.getElem?_eq_getElem (by omega)⟩
    obtain ⟨gb, hgb⟩ : ∃ gb, r[u.B.toNat]? = some gb := ⟨_, List.getElem?_eq_getElem (by omega)⟩
    have hda : r.getD u.A.toNat false = ga := by simp [List.getD, hga]
    have hdb : r.getD u.B.toNat false = gb := by simp [List.getD, hgb]
    have ea : getI r u.A = some ga := by have := Bm hga; rwa [Int.toNat_of_nonneg a0] at this
    have eb : getI r u.B = some gb := by have := Bm hgb; rwa [Int.toNat_of_nonneg h2.1] at this
    rw [beq_iff_eq.2 k1]
    refine Ok.bind (P := λ w => w = v) (Ok.guard (λ _ => Ok.pure rfl) λ hn => (hn ⟨rfl, trivial⟩).elim) λ w hw => ?_
    subst hw
    cases w with
    | false =>
     refine Ok.bind (P := λ _ => True) (Ok.gT (λ _ => Ok.getB a0 (by omega)) λ _ => trivial) λ _ _ => ?_
     refine Ok.bind (P := λ _ => True) (Ok.gT (λ _ => Ok.getB h2.1 (by omega)) λ _ => trivial) λ _ _ => ?_
     refine Ok.cond (λ hq => by simp [Pk] at hq) (λ _ => Ok.next ?_)
     unfold Fr
     rw [if_neg (by simp)]
    | true =>
     rw [ea, eb]
     refine Ok.bind (P := λ w => w = ga) (Ok.guard (λ _ => Ok.pure rfl) λ hn => (hn ⟨rfl, trivial⟩).elim) λ w hw => ?_
     subst hw
     refine Ok.bind (P := λ x => (w || x) = (w || gb)) (Ok.guard (λ _ => Ok.pure rfl) λ hn => ?_) λ x hx => ?_
     ·cases w with
      | true => rfl
      | false => exact (hn ⟨rfl, rfl, trivial⟩).elim
     have hc8 : Pk u true w x = (w || gb) := by
      unfold Pk
      rw [hx, beq_iff_eq.2 k1]; rfl
     rw [hc8]
     refine Ok.cond (λ hq => ?_) (λ hq => Ok.next ?_)
     ·refine Ok.bind (P := λ _ => True) (Ok.triv rfl) λ _ _ => (Ok.setI a0 (by omega)).bind λ r1 e1 => ?_
      refine (Ok.getB h2.1 (by rw [e1]; simp; omega)).bind λ _ _ => (Ok.setI h2.1 (by rw [e1]; simp; omega)).bind λ r2 e2 => Ok.next ?_
      rw [e2, e1]
      unfold Fr
      rw [if_pos ⟨⟨k1, rfl⟩, by rw [hda, hdb]; exact hq⟩]
     ·unfold Fr
      rw [if_neg (λ e => by have := e.2; rw [hda, hdb, hq] at this; cases this)]
   ·have k0 : (u.Kind == 1) = false := beq_eq_false_iff_ne.2 k1
    rw [k0]
    refine Ok.bind (P := λ _ => True) (Ok.guard (λ hg => absurd hg.1 (by simp)) λ _ => trivial) λ y7 _ => ?_
    refine Ok.bind (P := λ _ => True) (Ok.guard (λ hg => absurd hg.1 (by simp)) λ _ => trivial) λ y9 _ => ?_
    refine Ok.bind (P := λ _ => True) (Ok.guard (λ hg => absurd hg.1 (by simp)) λ _ => trivial) λ y11 _ => ?_
    refine Ok.cond (λ hq => by simp [Pk, k0] at hq) (λ _ => Ok.next ?_)
    unfold Fr
    rw [if_neg (λ e => k1 e.1.1)]
  ·have : b.Af.length = (Cy b p).length := by unfold Cy; rw [List.length_zip]; omega
   rw [hr, this, List.take_length]
 ·have hsl : s.length = b.Am.toNat := by rw [hs, Hs, hzl]
  have hval : ∀ i, i < b.Am.toNat -> s.getD i false = ((Bd b p).getD i 0 == (Bd b p).getD n 0) := by
   intro i hi
   rw [Bool.eq_iff_iff, beq_iff_eq, qL h p hi hn]
   have hg : ∀ r, Got (Cy b p) n (Kk (Cy b p) r z) := by
    intro r
    induction r with
    | zero => exact hzg
    | succ r ih =>
     rw [J9]
     refine jS (m := b.Am.toNat) _ _ (by rw [Hs, hzl]) (λ y hy => ⟨hy, λ hk => ?_⟩) ih
     have := h.br y.1 (List.of_mem_zip hy).1
     unfold R6 at this
     omega
   constructor
   ·intro e
    rw [hs] at e
    exact (hg _ i (by rw [Hs, hzl]; exact hi) e).symm
   ·intro c
    rw [hs]
    exact Ao4 hL hzl hzn _ i hi (uA hL hn c.symm)
  refine Ok.andThen (A := λ y => y = I1 b p n) (B := λ (_ : Unit) => False) ?_ (λ y hy => Ok.pure hy) (λ _ h => h.elim)
  refine Ok.foldI0 (I := λ j y => y = ((List.range j).filter λ i => (Bd b p).getD i 0 == (Bd b p).getD n 0).map λ (i : Nat) => (i : Int)) rfl (λ j x y hx hy => ?_) λ y hy => ?_
  ·have hj := (List.getElem?_eq_some_iff.1 hx).1
   have hcnt : cnt 0 j = (j : Int) := C4 (by omega)
   have hv := hval j (by omega)
   have hxd : s.getD j false = x := by simp [List.getD, hx]
   rw [hxd] at hv
   have hyl2 : y.length <= j := by rw [hy]; exact Dj _ j
   rw [Fi, ← hy]
   unfold Xh
   refine Ok.cond (λ hq => ?_) (λ hq => Ok.next ?_)
   ·refine (Ok.appI (by simp; omega)).bind λ w hw => Ok.next ?_
    rw [hw, hcnt, if_pos (by rw [← hv]; exact hq)]
   ·rw [if_neg (by rw [← hv, hq]; simp), List.append_nil]
  ·rw [hy, hsl]; rfl
def ofZ (b : Aa) (k i : Int) : List (Ak × Nat) := b.Af.zipIdx.filter λ z => z.1.Kind == k && z.1.B == i
theorem Apc {b : Aa} {k : Int} (hk : k ≠ 1) (i : Int) : (ofL b λ x => Lm k i x) = (ofZ b k i).map λ z => (z.2 : Int) := by
 unfold ofL ofZ
 congr 1
 exact List.filter_congr λ z _ => Awl k hk i z.1
theorem zV {b : Aa} {k i : Int} {z : Ak × Nat} (h : z ∈ ofZ b k i) : b.Af[z.2]? = some z.1 := by
 have := (List.mem_filter.1 h).1
 rwa [List.mem_zipIdx_iff_getElem?] at this
theorem Afd (q : Ak -> Bool) (C : List Bool) : ∀ (l : List Ak) (c : List Bool) (k : Nat), C.drop k = c -> l.length = c.length ->
  (((l.zipIdx k).filter λ z => q z.1).find? λ z => C.getD z.2 false).map (·.1) = ((l.zip c).find? λ z => q z.1 && z.2).map (·.1)
 | [], _, _, _, _ => by simp
 | x :: l, [], _, _, h => by simp at h
 | x :: l, v :: c, k, hd, h => by
  have hv : C[k]? = some v := by
   have := congrArg (·[0]?) hd
   simpa [List.getElem?_drop] using this
  have hd' : C.drop (k + 1) = c := by rw [← List.drop_drop, hd]; rfl
  have ih := Afd q C l c (k + 1) hd' (by simpa using h)
  have hg : C.getD k false = v := by simp [List.getD, hv]
  simp only [List.zipIdx_cons, List.filter_cons, List.zip_cons_cons, List.find?_cons]
  cases hq : q x with
  | false => simpa only [Bool.false_and, Bool.false_eq_true, if_false] using ih
  | true =>
   simp only [if_true, List.find?_cons, hg, Bool.true_and]
   cases v with
   | false => exact ih
   | true => rfl
theorem Ath {b : Aa} {p : Ab} (hc : p.Ah.length = b.Af.length) (k i : Int) : Eu b p k i = ((ofZ b k i).find? λ z => p.Ah.getD z.2 false).map (·.1.A) := by
 have := Afd (λ x => x.Kind == k && x.B == i) p.Ah b.Af p.Ah 0 rfl (by omega)
 unfold Eu ofZ
 have h2 := congrArg (Option.map (·.A)) this
 simp only [Option.map_map] at h2
 exact h2.symm
theorem uB {b : Aa} {p : Ab} (hc : p.Ah.length = b.Af.length) {k i : Int} {z : Ak × Nat} (h : z ∈ ofZ b k i) : p.Ah[z.2]? = some (p.Ah.getD z.2 false) := by
 have := (List.getElem?_eq_some_iff.1 (zV h)).1
 rw [List.getElem?_eq_getElem (by omega)]
 simp [List.getD, List.getElem?_eq_getElem (show z.2 < p.Ah.length by omega)]
theorem Aas {b : Aa} (h : Ax b) {p : Ab} (hp : Aw b p) (i : Int) : F27 b p i = some (F5 (F_ b p i)) := by
 have hn := hp.nso
 have hc := hp.ncl
 refine Ok.eq ?_
 unfold F27
 rw [Md h hp]
 simp only [Option.bind_some]
 by_cases hi : 0 <= i /\ i < b.Ac.length
 ·obtain ⟨x, hx⟩ : ∃ x, p.Ac[i.toNat]? = some x := ⟨_, List.getElem?_eq_getElem (by omega)⟩
  have hg : getI p.Ac i = some x := by have := Bm hx; rwa [Int.toNat_of_nonneg hi.1] at this
  have hd : p.Ac.getD i.toNat default = x := by simp [List.getD, hx]
  have hcond : ((((0 : Int) != 0) || (decide (i < 0))) || (decide (i >= (b.Ac.length : Int)))) = false := by
   rw [Bool.eq_false_iff]; intro e; simp at e; omega
  rw [hcond, hg]
  refine Ok.bind (P := λ y => y = x) (Ok.guard (λ _ => Ok.pure rfl) λ hn => (hn ⟨rfl, trivial⟩).elim) λ y hy => ?_
  subst hy
  refine Ok.cond (λ hq => Ok.pure ?_) (λ hq => ?_)
  ·simp only [uI, hcond, Bool.false_or, bne_iff_ne, ne_eq] at hq
   unfold F_
   rw [if_neg (λ e => by rw [hd] at e; exact hq e.2.2)]; rfl
  ·simp only [uI, hcond, Bool.false_or, bne_eq_false_iff_eq] at hq
   have hcon : F_ b p i = Eu b p 2 i := by
    unfold F_
    rw [if_pos ⟨hi.1, by omega, by rw [hd]; exact hq⟩]
   rw [Agr h, Apc (by decide), hcon, Ath hc]
   simp only [Option.bind_some]
   obtain ⟨n, rfl⟩ : ∃ n : Nat, i = (n : Int) := ⟨i.toNat, by omega⟩
   have hlen := zW (b := b) (k := 2) (by decide) n
   rw [Apc (by decide), h.one n (by omega), List.length_map] at hlen
   obtain ⟨z, hz⟩ := List.length_eq_one_iff.1 hlen
   have hzm : z ∈ ofZ b 2 (n : Int) := by rw [hz]; exact List.mem_cons_self
   have hcz := uB hc hzm
   have hbz := zV hzm
   rw [hz]
   show Ok ((getI [(z.2 : Int)] 0).bind _) _
   rw [show getI [(z.2 : Int)] 0 = some (z.2 : Int) from rfl]
   simp only [Option.bind_some, Bm hcz, List.find?_cons, List.find?_nil]
   cases hv : p.Ah.getD z.2 false with
   | false => exact Ok.pure rfl
   | true =>
    simp only [Bool.not_true, cond_false, Bm hbz, Option.bind_some]
    exact Ok.pure rfl
 ·refine Ok.bind (P := λ _ => True) (Ok.guard (λ hg => ?_) λ _ => trivial) λ y _ => ?_
  ·have := hg.1
   simp at this; omega
  refine Ok.cond (λ hq => Ok.pure ?_) (λ hq => ?_)
  ·unfold F_
   rw [if_neg (λ e => hi (by omega))]; rfl
  ·simp [uI] at hq; omega
theorem Axj {b : Aa} (h : Ax b) {p : Ab} (hp : Aw b p) {i : Int} (h0 : 0 <= i) (h1 : i < b.Ae.length) : F48 b p i = some (F5 (Eu b p 3 i)) := by
 have hc := hp.ncl
 refine Ok.eq ?_
 unfold F48
 rw [Md h hp]
 simp only [Option.bind_some]
 refine Ok.cond (λ hq => ?_) (λ _ => ?_)
 ·simp [Aqm] at hq; omega
 rw [Agr h, Apc (by decide), Ath hc]
 simp only [Option.bind_some]
 have key : ∀ (m : List (Ak × Nat)) (k : Nat), (∀ z, z ∈ m -> b.Af[z.2]? = some z.1 /\ p.Ah[z.2]? = some (p.Ah.getD z.2 false)) ->
   foldI (Uq b p) (m.map λ z => (z.2 : Int)) k () = match m.find? λ z => p.Ah.getD z.2 false with
    | some z => some (.ret (z.1.A, true))
    | none => some (.next ()) := by
  intro m
  induction m with
  | nil => intro k _; rfl
  | cons z m ih =>
   intro k hm
   obtain ⟨e1, e2⟩ := hm z List.mem_cons_self
   simp only [List.map_cons, foldI, Uq, Bm e1, Bm e2, Option.bind_some, List.find?_cons]
   cases p.Ah.getD z.2 false with
   | true => rfl
   | false => exact ih (k + 1) λ y hy => hm y (List.mem_cons_of_mem _ hy)
 rw [key _ 0 λ z hz => ⟨zV hz, uB hc hz⟩]
 cases (ofZ b 3 i).find? λ z => p.Ah.getD z.2 false with
 | none => exact Ok.pure rfl
 | some z => exact Ok.pure rfl
theorem Ats (l : List Int) (x : Int) : F55 l x = some (l.any (· == x)) := by
 unfold F55
 have : ∀ (l : List Int) (k : Nat), foldI (Uo x) l k () = bif l.any (· == x) then some (.ret true) else some (.next ()) := by
  intro l
  induction l with
  | nil => intro k; rfl
  | cons y l ih =>
   intro k
   simp only [foldI, Uo, List.any_cons]
   cases hy : (y == x) with
   | true => rfl
   | false => simp only [cond_false, Bool.false_or]; exact ih (k + 1)
 rw [this]
 cases l.any (· == x) <;> rfl
theorem Af3 {b : Aa} {p : Ab} {n : Nat} {a : Int} (h0 : 0 <= a) (h1 : a < b.Am) : (I1 b p n).any (· == a) = ((Bd b p).getD a.toNat 0 == (Bd b p).getD n 0) := by
 rw [Bool.eq_iff_iff, List.any_eq_true]
 constructor
 ·rintro ⟨x, hx, e⟩
  rw [beq_iff_eq] at e; subst e
  obtain ⟨i, hi, rfl⟩ := List.mem_map.1 hx
  rw [Int.toNat_natCast]
  exact (List.mem_filter.1 hi).2
 ·intro e
  refine ⟨a, List.mem_map.2 ⟨a.toNat, List.mem_filter.2 ⟨List.mem_range.2 (by omega), e⟩, by omega⟩, by simp⟩
theorem Is {b : Aa} (h : Ax b) (p : Ab) {n : Nat} (hn : n < b.Am.toNat) : 0 <= (Bd b p).getD n 0 /\ ((Bd b p).getD n 0).toNat <= n /\ (((Bd b p).getD n 0).toNat : Int) = (Bd b p).getD n 0 := by
 have := Tw h p n _ (A2x (by rw [Ic]; exact hn))
 omega
theorem Azx {b : Aa} (h : Ax b) {p : Ab} (hp : Aw b p) {n : Nat} (hn : n < b.Am.toNat) : F54 b p (n : Int) = some (isl b p ((Bd b p).getD n 0).toNat, true) := by
 have hso := h.sol
 have hco := h.col
 have hg := Is h p hn
 refine Ok.eq ?_
 unfold F54
 rw [Md h hp]
 simp only [Option.bind_some]
 refine Ok.cond (λ hc => ?_) (λ _ => ?_)
 ·simp [Aqi] at hc; omega
 rw [Awj h hp hn]
 simp only [Option.bind_some]
 refine Ok.andThen (A := λ s => s.2 = Fg b p b.Ac.length ((Bd b p).getD n 0).toNat) (B := λ (_ : Unit) => False) ?_ (λ s hs => ?_) (λ _ h => h.elim)
 ·refine Ok.whileN (λ s => (0 <= s.1 /\ s.1 <= (b.Ac.length : Int)) /\ s.2 = Fg b p s.1.toNat ((Bd b p).getD n 0).toNat) (λ s => ((b.Ac.length : Int) - s.1).toNat) _ _ ?_ ?_ ?_
  ·exact ⟨by dsimp only; omega, rfl⟩
  ·dsimp only; omega
  ·rintro ⟨i, s⟩ ⟨⟨g1, g2⟩, g3⟩
   dsimp only at g1 g2 g3
   unfold vL Ay9
   dsimp only
   have hsl : s.length <= i.toNat := by rw [g3]; exact Dj _ _
   refine Ok.cond (λ hq => ?_) (λ hq => Ok.brk ?_)
   ·simp only [decide_eq_true_eq] at hq
    have e1 : w64 (i + 1) = i + 1 := Bf (by omega)
    have e2 : (i + 1).toNat = i.toNat + 1 := by omega
    have e3 : ((i.toNat : Nat) : Int) = i := by omega
    rw [e1, Aas h hp]
    simp only [Option.bind_some, Ats]
    have hnext : Fg b p (i.toNat + 1) ((Bd b p).getD n 0).toNat = s ++ if (Fs b p (F_ b p i) == some (((Bd b p).getD n 0).toNat : Int)) = true then [i] else [] := by
     unfold Fg at g3 ⊢
     rw [Fi, ← g3, e3]
    have hskip : (Fs b p (F_ b p i) == some (((Bd b p).getD n 0).toNat : Int)) = false -> Ok (some (.next (i + 1, s)) : Option (Ctl (Int × List Int) Unit)) (G2 (λ s' => ((0 <= s'.1 /\ s'.1 <= (b.Ac.length : Int)) /\ s'.2 = Fg b p s'.1.toNat ((Bd b p).getD n 0).toNat) /\ ((b.Ac.length : Int) - s'.1).toNat < ((b.Ac.length : Int) - i).toNat) (λ s => s.2 = Fg b p b.Ac.length ((Bd b p).getD n 0).toNat) (λ _ => False)) := by
     intro hf
     refine Ok.next ⟨⟨by dsimp only; omega, ?_⟩, by dsimp only; omega⟩
     dsimp only
     rw [e2, hnext, hf]; simp
    cases hco : F_ b p i with
    | none =>
     refine Ok.bind (P := λ _ => True) (Ok.guard (λ hg => absurd hg.1 (by simp [F5])) λ _ => trivial) λ y _ => ?_
     refine Ok.cond (λ hq => by simp [F5] at hq) (λ _ => hskip (by rw [hco]; rfl))
    | some a =>
     have ha := Ah7 h hco
     refine Ok.bind (P := λ y => y = (I1 b p n).any (· == a)) (Ok.guard (λ _ => Ok.pure rfl) λ hn => (hn ⟨rfl, trivial⟩).elim) λ y hy => ?_
     rw [Af3 ha.1 ha.2] at hy
     have hgr : (Fs b p (F_ b p i) == some (((Bd b p).getD n 0).toNat : Int)) = ((Bd b p).getD a.toNat 0 == (Bd b p).getD n 0) := by
      rw [hco, hg.2.2]; rfl
     refine Ok.cond (λ hq => ?_) (λ hq => ?_)
     ·simp only [F5, Bool.true_and] at hq
      refine (Ok.appI (by simp; omega)).bind λ w hw => Ok.next ⟨⟨by dsimp only; omega, ?_⟩, by dsimp only; omega⟩
      dsimp only
      rw [e2, hnext, hgr, ← hy, hq, hw]; rfl
     ·simp only [F5, Bool.true_and] at hq
      exact hskip (by rw [hgr, ← hy, hq])
   ·simp only [decide_eq_false_iff_not] at hq
    dsimp only
    rw [g3]
    have : i.toNat = b.Ac.length := by omega
    rw [this]
 ·refine Ok.andThen (A := λ s => s.2 = Gs b p b.Ae.length ((Bd b p).getD n 0).toNat) (B := λ (_ : Unit) => False) ?_ (λ t ht => Ok.pure ?_) (λ _ h => h.elim)
  ·refine Ok.whileN (λ s => (0 <= s.1 /\ s.1 <= (b.Ae.length : Int)) /\ s.2 = Gs b p s.1.toNat ((Bd b p).getD n 0).toNat) (λ s => ((b.Ae.length : Int) - s.1).toNat) _ _ ?_ ?_ ?_
   ·exact ⟨by dsimp only; omega, rfl⟩
   ·dsimp only; omega
   ·rintro ⟨i, s⟩ ⟨⟨g1, g2⟩, g3⟩
    dsimp only at g1 g2 g3
    unfold vK Ay8
    dsimp only
    have hsl : s.length <= i.toNat := by rw [g3]; exact Dj _ _
    refine Ok.cond (λ hq => ?_) (λ hq => Ok.brk ?_)
    ·simp only [decide_eq_true_eq] at hq
     have e1 : w64 (i + 1) = i + 1 := Bf (by omega)
     have e2 : (i + 1).toNat = i.toNat + 1 := by omega
     have e3 : ((i.toNat : Nat) : Int) = i := by omega
     rw [e1, Axj h hp g1 hq]
     simp only [Option.bind_some, Ats]
     have hnext : Gs b p (i.toNat + 1) ((Bd b p).getD n 0).toNat = s ++ if (Fs b p (Eu b p 3 i) == some (((Bd b p).getD n 0).toNat : Int)) = true then [i] else [] := by
      unfold Gs at g3 ⊢
      rw [Fi, ← g3, e3]
     have hskip : (Fs b p (Eu b p 3 i) == some (((Bd b p).getD n 0).toNat : Int)) = false -> Ok (some (.next (i + 1, s)) : Option (Ctl (Int × List Int) Unit)) (G2 (λ s' => ((0 <= s'.1 /\ s'.1 <= (b.Ae.length : Int)) /\ s'.2 = Gs b p s'.1.toNat ((Bd b p).getD n 0).toNat) /\ ((b.Ae.length : Int) - s'.1).toNat < ((b.Ae.length : Int) - i).toNat) (λ s => s.2 = Gs b p b.Ae.length ((Bd b p).getD n 0).toNat) (λ _ => False)) := by
      intro hf
      refine Ok.next ⟨⟨by dsimp only; omega, ?_⟩, by dsimp only; omega⟩
      dsimp only
      rw [e2, hnext, hf]; simp
     cases hco : Eu b p 3 i with
     | none =>
      refine Ok.bind (P := λ _ => True) (Ok.guard (λ hg => absurd hg.1 (by simp [F5])) λ _ => trivial) λ y _ => ?_
      refine Ok.cond (λ hq => by simp [F5] at hq) (λ _ => hskip (by rw [hco]; rfl))
     | some a =>
      have ha := Yk h hco
      refine Ok.bind (P := λ y => y = (I1 b p n).any (· == a)) (Ok.guard (λ _ => Ok.pure rfl) λ hn => (hn ⟨rfl, trivial⟩).elim) λ y hy => ?_
      rw [Af3 ha.1 ha.2] at hy
      have hgr : (Fs b p (Eu b p 3 i) == some (((Bd b p).getD n 0).toNat : Int)) = ((Bd b p).getD a.toNat 0 == (Bd b p).getD n 0) := by
       rw [hco, hg.2.2]; rfl
      refine Ok.cond (λ hq => ?_) (λ hq => ?_)
      ·simp only [F5, Bool.true_and] at hq
       refine (Ok.appI (by simp; omega)).bind λ w hw => Ok.next ⟨⟨by dsimp only; omega, ?_⟩, by dsimp only; omega⟩
       dsimp only
       rw [e2, hnext, hgr, ← hy, hq, hw]; rfl
      ·simp only [F5, Bool.true_and] at hq
       exact hskip (by rw [hgr, ← hy, hq])
    ·simp only [decide_eq_false_iff_not] at hq
     dsimp only
     rw [g3]
     have : i.toNat = b.Ae.length := by omega
     rw [this]
  ·rw [hs, ht]
   unfold isl Dz I1
   rw [hg.2.2]
def Hk (b : Aa) (p : Ab) (f : Nat) : Bool := (Bd b p).getD f 0 == (f : Int)
theorem Jz {b : Aa} (h : Ax b) (p : Ab) {n : Nat} (hn : n < b.Am.toNat) : Hk b p ((Bd b p).getD n 0).toNat = true := by
 have hg := Is h p hn
 unfold Hk
 rw [beq_iff_eq, hg.2.2]
 have hm : ((Bd b p).getD n 0).toNat < b.Am.toNat := by omega
 have hL := yJ h p
 have hself : Gn (Cy b p) ((Bd b p).getD n 0).toNat n := by
  have hlab : ∀ (xs : List Nat) (s : List Int), s.length = b.Am.toNat -> Lab (Cy b p) s -> Lab (Cy b p) (xs.foldl (λ s _ => Dd (b.Af.zip p.Ah) s) s) := by
   intro xs
   induction xs with
   | nil => intro s _ h; exact h
   | cons x xs ih =>
    intro s hl h2
    refine ih _ (by rw [Ff]; exact hl) (Q3 _ s hl (λ z hz => ⟨hz, λ hk => ?_⟩) h2)
    have := h.br z.1 (List.of_mem_zip hz).1
    unfold R6 at this
    omega
  refine hlab (List.range b.Am.toNat) (Cm b.Am.toNat) (by simp [Cm]) ?_ n ?_
  ·intro k hk
   rw [Kl (by simpa [Cm] using hk)]
   exact .refl _ k
  ·have := Ic b p
   unfold Bd at this
   rw [this]; exact hn
 exact (qL h p hm hn).2 hself
theorem Axh {b : Aa} (h : Ax b) (p : Ab) {f : Nat} (hf : f < b.Am.toNat) : Ii (isl b p f) = Hk b p f := by
 rw [Bool.eq_iff_iff]
 unfold Ii isl Dz
 simp only [Bool.not_eq_true', beq_eq_false_iff_ne, ne_eq, List.length_map]
 constructor
 ·intro e
  have hne : (List.range b.Am.toNat).filter (λ i => (Bd b p).getD i 0 == (f : Int)) ≠ [] := λ e2 => e (by rw [e2]; rfl)
  obtain ⟨i, hi⟩ := List.exists_mem_of_ne_nil _ hne
  obtain ⟨h1, h2⟩ := List.mem_filter.1 hi
  rw [beq_iff_eq] at h2
  have := Jz h p (List.mem_range.1 h1)
  rw [h2, Int.toNat_natCast] at this
  exact this
 ·intro e e2
  have hm : f ∈ (List.range b.Am.toNat).filter (λ i => (Bd b p).getD i 0 == (f : Int)) := List.mem_filter.2 ⟨List.mem_range.2 hf, e⟩
  have := List.length_pos_iff.2 (List.ne_nil_of_mem hm)
  omega
def Kb (b : Aa) (p : Ab) (n : Nat) : List Nat := (List.range n).filter (Hk b p)
theorem Gr {b : Aa} (h : Ax b) (p : Ab) : Bj b p = (Kb b p b.Am.toNat).map (isl b p) := by
 unfold Bj Kb
 rw [List.filter_map]
 congr 1
 exact List.filter_congr λ f hf => Axh h p (List.mem_range.1 hf)
theorem Asb {b : Aa} (h : Ax b) (p : Ab) {n : Nat} (hn : n < b.Am.toNat) : ∃ m : Nat, (I1 b p n)[0]? = some (m : Int) /\ (m = n ↔ Hk b p n = true) := by
 have hg := Is h p hn
 have hm : ((Bd b p).getD n 0).toNat < b.Am.toNat := by omega
 have hgg := Jz h p hn
 unfold Hk at hgg
 rw [beq_iff_eq, hg.2.2] at hgg
 have hfind : (List.range b.Am.toNat).find? (λ i => (Bd b p).getD i 0 == (Bd b p).getD n 0) = some ((Bd b p).getD n 0).toNat := by
  rw [List.find?_range_eq_some]
  refine ⟨by rw [beq_iff_eq]; exact hgg, List.mem_range.2 hm, λ j hj => ?_⟩
  simp only [Bool.not_eq_true', beq_eq_false_iff_ne, ne_eq]
  intro e
  have := Is h p (n := j) (by omega)
  omega
 refine ⟨((Bd b p).getD n 0).toNat, ?_, ?_⟩
 ·unfold I1
  rw [List.getElem?_map, ← List.head?_eq_getElem?, List.head?_filter, hfind]; rfl
 ·unfold Hk
  rw [beq_iff_eq]; omega
theorem Aha {b : Aa} (h : Ax b) {p : Ab} (hp : Aw b p) : F25 b p = some (Bj b p) := by
 have hbu := h.buses
 rw [Gr h]
 refine Ok.eq ?_
 unfold F25
 rw [Md h hp]
 simp only [Option.bind_some]
 refine Ok.cond (λ hc => by simp at hc) (λ _ => ?_)
 refine Ok.andThen (A := λ s => s.2 = (Kb b p b.Am.toNat).map (isl b p)) (B := λ (_ : Unit) => False) ?_ (λ s hs => Ok.pure hs) (λ _ h => h.elim)
 refine Ok.whileN (λ s => (0 <= s.1 /\ s.1 <= b.Am) /\ s.2 = (Kb b p s.1.toNat).map (isl b p)) (λ s => (b.Am - s.1).toNat) _ _ ?_ ?_ ?_
 ·exact ⟨by dsimp only; omega, rfl⟩
 ·dsimp only; omega
 ·rintro ⟨i, s⟩ ⟨⟨g1, g2⟩, g3⟩
  dsimp only at g1 g2 g3
  unfold vV
  dsimp only
  refine Ok.cond (λ hq => ?_) (λ hq => Ok.brk ?_)
  ·simp only [decide_eq_true_eq] at hq
   obtain ⟨n, rfl⟩ : ∃ n : Nat, i = (n : Int) := ⟨i.toNat, by omega⟩
   have hn : n < b.Am.toNat := by omega
   have e1 : w64 ((n : Int) + 1) = (n : Int) + 1 := Bf (by omega)
   have e2 : ((n : Int) + 1).toNat = n + 1 := by omega
   have hg := Is h p hn
   obtain ⟨m, hm, hmn⟩ := Asb h p hn
   have hbuses : (isl b p ((Bd b p).getD n 0).toNat).Am = I1 b p n := by
    unfold isl Dz I1
    rw [hg.2.2]
   rw [Int.toNat_natCast] at g3
   have hsl : s.length <= n := by
    rw [g3, List.length_map]
    exact Nat.le_trans (List.length_filter_le _ _) (by simp)
   have hnext : Kb b p (n + 1) = Kb b p n ++ if Hk b p n = true then [n] else [] := by
    unfold Kb
    rw [List.range_succ, List.filter_append]
    congr 1
    cases hq : Hk b p n <;> simp [hq]
   rw [e1, Azx h hp hn]
   simp only [Option.bind_some, hbuses]
   have hg0 : getI (I1 b p n) 0 = some (m : Int) := Bm (j := 0) hm
   rw [hg0]
   simp only [Option.bind_some]
   refine Ok.cond (λ hq => ?_) (λ hq => Ok.next ⟨⟨by dsimp only; omega, ?_⟩, by dsimp only; omega⟩)
   ·simp only [beq_iff_eq] at hq
    have hle := hmn.1 (by omega)
    refine (Ok.appI (by simp; omega)).bind λ w hw => Ok.next ⟨⟨by dsimp only; omega, ?_⟩, by dsimp only; omega⟩
    dsimp only
    have hgn : ((Bd b p).getD n 0).toNat = n := by
     unfold Hk at hle
     rw [beq_iff_eq] at hle; omega
    rw [e2, hnext, if_pos hle, hw, g3, List.map_append, hgn]; rfl
   ·simp only [beq_eq_false_iff_ne, ne_eq] at hq
    have hle : ¬ Hk b p n = true := λ e => hq (by rw [hmn.2 e])
    dsimp only
    rw [e2, hnext, if_neg hle, List.append_nil, g3]
  ·simp only [decide_eq_false_iff_not] at hq
   dsimp only
   have : i.toNat = b.Am.toNat := by omega
   rw [g3, this]
theorem Ali {b : Aa} (h : Ax b) {p : Ab} (hp : Aw b p) : Ak0 b p = some (⟨p.Ah, Ed b p, p.As, p.Aq⟩, 0) := by
 have hn := hp.nso
 refine Ok.eq ?_
 unfold Ak0
 rw [Md h hp]
 simp only [Option.bind_some]
 refine Ok.cond (λ hc => by simp at hc) (λ _ => ?_)
 refine Ok.bind (P := λ y => y = ⟨p.Ah, Ed b p, p.As, p.Aq⟩) ?_ λ y hy => Ok.pure (by rw [hy])
 unfold Art
 rw [A0m h hp, Aha h hp]
 simp only [Option.bind_some]
 refine Ok.andThen (A := λ s => s = Ed b p) (B := λ (_ : Unit) => False) ?_ (λ s hs => Ok.pure (by rw [hs])) (λ _ h => h.elim)
 refine Ok.foldI0 (I := λ j s => s = ((Bj b p).take j).foldl (Ct p) p.Ac) rfl (λ j x s hx hs => ?_) λ s hs => ?_
 ·have hi := Pe (List.mem_of_getElem? hx)
  have hl : s.length = p.Ac.length := by rw [hs, Kd]
  have hnext : ((Bj b p).take (j + 1)).foldl (Ct p) p.Ac = Ct p s x := by rw [Bk hx, List.foldl_append, ← hs]; rfl
  rw [hnext]
  unfold Xg
  cases hsrc : x.Ac with
  | nil => exact Ok.next (by unfold Ct; rw [hsrc])
  | cons m l =>
   have hm := hi m (by rw [hsrc]; exact List.mem_cons_self)
   obtain ⟨u, hu⟩ : ∃ u, p.Ac[m.toNat]? = some u := ⟨_, List.getElem?_eq_getElem (by omega)⟩
   have hgu : getI p.Ac m = some u := by have := Bm hu; rwa [Int.toNat_of_nonneg hm.1] at this
   have hd : p.Ac.getD m.toNat default = u := by simp [List.getD, hu]
   have hf : Ct p s x = Eh u (m :: l) s := by unfold Ct; rw [hsrc]; simp only [hd]
   rw [hf]
   have hin : ∀ k, k ∈ m :: l -> 0 <= k /\ k < p.Ac.length := λ k hk => by
    have := hi k (by rw [hsrc]; exact hk)
    omega
   refine (Ok.foldI0 (I := λ k r => r = Eh u ((m :: l).take k) s) (A := λ r => r = Eh u (m :: l) s) (B := λ (_ : Unit) => False) rfl (λ k n r hk hr => ?_) λ r hr => by rw [hr, List.take_length]).inner (λ r hr => Ok.next hr) (λ _ h => h.elim)
   have hnk := hin n (List.mem_of_getElem? hk)
   have hrl : r.length = p.Ac.length := by rw [hr, Gx, hl]
   unfold Xf
   rw [hsrc, show getI (m :: l) 0 = some m from rfl]
   simp only [Option.bind_some, hgu]
   refine (Ok.getI hnk.1 (by omega)).bind λ v hv => (Ok.setI hnk.1 (by omega)).bind λ r1 e1 => ?_
   have hvg : r1[n.toNat]? = some (⟨v.State, v.Since, u.Ap, v.Phase⟩ : Ag) := by rw [e1, List.getElem?_set_self (by omega)]
   refine Ok.bind (P := λ w => w = (⟨v.State, v.Since, u.Ap, v.Phase⟩ : Ag)) ((Ok.getI hnk.1 (by rw [e1]; simp; omega)).mono λ w hw => by rw [hvg] at hw; cases hw; rfl) λ w hw => ?_
   refine (Ok.setI hnk.1 (by rw [e1]; simp; omega)).bind λ r2 e2 => Ok.next ?_
   have hdv : r.getD n.toNat default = v := by simp [List.getD, hv]
   rw [Abu hk, ← hr, hdv, e2, e1, hw, List.set_set]; rfl
 ·rw [List.take_length] at hs; exact hs
theorem Awd {ss : List Ag} {n : Nat} (h : n < ss.length) : ss.set n (ss.getD n default) = ss := by
 apply List.ext_getElem?
 intro i
 rw [List.getElem?_set]
 split
 ·rename_i e; subst e
  simp [List.getD, List.getElem?_eq_getElem h]
 ·rfl
theorem Abv {like : Ag} : ∀ (idx : List Int) (ss : List Ag), (∀ i, i ∈ idx -> i.toNat < ss.length /\ X2 like (ss.getD i.toNat default) = ss.getD i.toNat default) -> Eh like idx ss = ss
 | [], _, _ => rfl
 | i :: idx, ss, h => by
  obtain ⟨h1, h2⟩ := h i List.mem_cons_self
  show Eh like idx (ss.set i.toNat (X2 like (ss.getD i.toNat default))) = ss
  rw [h2, Awd h1]
  exact Abv idx ss λ j hj => h j (List.mem_cons_of_mem _ hj)
theorem Yo {ss : List Ag} {m n : Nat} {y : Ag} : (ss.set m y).getD n default = if m = n /\ m < ss.length then y else ss.getD n default := by
 unfold List.getD
 rw [List.getElem?_set]
 by_cases e : m = n
 ·subst e
  by_cases hl : m < ss.length
  ·simp [hl]
  ·simp [hl]
 ·simp [e]
theorem jO (like : Ag) : ∀ (idx : List Int) (ss : List Ag) (n : Nat), ((Eh like idx ss).getD n default).State = (ss.getD n default).State
 | [], _, _ => rfl
 | i :: idx, ss, n => by
  show ((Eh like idx _).getD n default).State = _
  rw [jO like idx, Yo]
  split
  ·rename_i e; rw [← e.1]; rfl
  ·rfl
theorem X7 {like : Ag} : ∀ (idx : List Int) (ss : List Ag) {n : Nat}, (∀ i, i ∈ idx -> i.toNat ≠ n) -> (Eh like idx ss).getD n default = ss.getD n default
 | [], _, _, _ => rfl
 | i :: idx, ss, n, h => by
  show (Eh like idx _).getD n default = _
  rw [X7 idx _ (λ j hj => h j (List.mem_cons_of_mem _ hj)), Yo, if_neg (λ e => h i List.mem_cons_self e.1)]
theorem Al3 {like : Ag} : ∀ (idx : List Int) (ss : List Ag) {n : Nat}, n < ss.length -> (∃ i, i ∈ idx /\ i.toNat = n) -> ((Eh like idx ss).getD n default).Ap = like.Ap /\ ((Eh like idx ss).getD n default).Phase = like.Phase
 | [], _, _, _, h => by obtain ⟨_, h, _⟩ := h; cases h
 | i :: idx, ss, n, hn, h => by
  by_cases hr : ∃ j, j ∈ idx /\ j.toNat = n
  ·exact Al3 idx _ (by simpa using hn) hr
  ·have hi : i.toNat = n := by
    obtain ⟨j, hj, e⟩ := h
    rcases List.mem_cons.1 hj with rfl | hj
    ·exact e
    ·exact absurd ⟨j, hj, e⟩ hr
   have : (Eh like (i :: idx) ss).getD n default = X2 like (ss.getD i.toNat default) := by
    show (Eh like idx _).getD n default = _
    rw [X7 idx _ (λ j hj e => hr ⟨j, hj, e⟩), Yo, if_pos ⟨hi, by omega⟩]
   rw [this]; exact ⟨rfl, rfl⟩
def Ak9 (b : Aa) (p : Ab) : Prop := ∀ x, x ∈ Bj b p -> ∀ i j, i ∈ x.Ac -> j ∈ x.Ac ->
 (p.Ac.getD i.toNat default).Ap = (p.Ac.getD j.toNat default).Ap /\ (p.Ac.getD i.toNat default).Phase = (p.Ac.getD j.toNat default).Phase
theorem Ahg {b : Aa} {p : Ab} (hn : p.Ac.length = b.Ac.length) (h : Ak9 b p) : Ed b p = p.Ac := by
 have key : ∀ l : List Aj, (∀ x, x ∈ l -> x ∈ Bj b p) -> l.foldl (Ct p) p.Ac = p.Ac := by
  intro l
  induction l with
  | nil => intro _; rfl
  | cons x l ih =>
   intro hl
   have hx := hl x List.mem_cons_self
   have hst : Ct p p.Ac x = p.Ac := by
    unfold Ct
    split
    ·rfl
    ·rename_i i r e
     refine Abv _ _ λ j hj => ?_
     have hj2 := Pe hx j hj
     have ha := h x hx i j (by rw [e]; exact List.mem_cons_self) hj
     refine ⟨by omega, ?_⟩
     unfold X2
     rw [ha.1, ha.2]
   rw [List.foldl_cons, hst]
   exact ih λ y hy => hl y (List.mem_cons_of_mem _ hy)
 exact key _ λ _ hx => hx
theorem Alg (p : Ab) (s : List Ag) (x : Aj) (n : Nat) : ((Ct p s x).getD n default).State = (s.getD n default).State := by
 unfold Ct
 split
 ·rfl
 ·exact jO _ _ _ _
theorem Aek (b : Aa) (p : Ab) (n : Nat) : ((Ed b p).getD n default).State = (p.Ac.getD n default).State := by
 have key : ∀ (l : List Aj) (s : List Ag), ((l.foldl (Ct p) s).getD n default).State = (s.getD n default).State := by
  intro l
  induction l with
  | nil => intro s; rfl
  | cons x l ih => intro s; rw [List.foldl_cons, ih, Alg]
 exact key _ _
theorem Aei {b : Aa} {p q : Ab} (hc : q.Ah = p.Ah) (hl : q.Ac.length = p.Ac.length) (hs : ∀ n : Nat, (q.Ac.getD n default).State = (p.Ac.getD n default).State) : Bj b q = Bj b p := by
 have hled : ∀ k i, Eu b q k i = Eu b p k i := λ k i => by unfold Eu; rw [hc]
 have hgr : Bd b q = Bd b p := by unfold Bd; rw [hc]
 have hcon : ∀ i, F_ b q i = F_ b p i := λ i => by unfold F_; rw [hled, hl, hs]
 have hgo : ∀ o, Fs b q o = Fs b p o := λ o => by unfold Fs; rw [hgr]
 have hisl : isl b q = isl b p := by
  funext f
  unfold isl Dz Fg Gs
  simp only [hgr, hled, hcon, hgo]
 unfold Bj
 rw [hisl]
theorem zN {b : Aa} {p : Ab} {f : Nat} {i : Int} : i ∈ (isl b p f).Ac ↔ ∃ k : Nat, i = (k : Int) /\ k < b.Ac.length /\ Fs b p (F_ b p (k : Int)) = some (f : Int) := by
 constructor
 ·intro h
  obtain ⟨k, hk, e⟩ := List.mem_map.1 h
  obtain ⟨h1, h2⟩ := List.mem_filter.1 hk
  exact ⟨k, e.symm, List.mem_range.1 h1, by rwa [beq_iff_eq] at h2⟩
 ·rintro ⟨k, e, h1, h2⟩
  exact List.mem_map.2 ⟨k, List.mem_filter.2 ⟨List.mem_range.2 h1, by rw [beq_iff_eq]; exact h2⟩, e.symm⟩
theorem Awb {b : Aa} {p : Ab} {f g : Nat} (hfg : f ≠ g) {i j : Int} (hi : i ∈ (isl b p f).Ac) (hj : j ∈ (isl b p g).Ac) : i.toNat ≠ j.toNat := by
 obtain ⟨k, rfl, _, e1⟩ := zN.1 hi
 obtain ⟨m, rfl, _, e2⟩ := zN.1 hj
 rw [Int.toNat_natCast, Int.toNat_natCast]
 intro e; subst e
 rw [e1] at e2
 have := Option.some.inj e2
 exact hfg (by omega)
def Aet (b : Aa) (p : Ab) (f : Nat) : Ag := p.Ac.getD ((isl b p f).Ac.headD 0).toNat default
theorem Ahi {b : Aa} {p : Ab} {n : Nat} : ∀ (fs : List Nat) (s : List Ag), (∀ f, f ∈ fs -> ∀ i, i ∈ (isl b p f).Ac -> i.toNat ≠ n) -> ((fs.map (isl b p)).foldl (Ct p) s).getD n default = s.getD n default
 | [], _, _ => rfl
 | f :: fs, s, h => by
  rw [List.map_cons, List.foldl_cons, Ahi fs _ (λ g hg => h g (List.mem_cons_of_mem _ hg))]
  have hf := h f List.mem_cons_self
  unfold Ct
  split
  ·rfl
  ·exact X7 _ _ hf
theorem Aam {b : Aa} {p : Ab} (hn : p.Ac.length = b.Ac.length) : ∀ (fs : List Nat) (s : List Ag), s.length = p.Ac.length -> fs.Nodup -> ∀ f, f ∈ fs -> ∀ i, i ∈ (isl b p f).Ac ->
  (((fs.map (isl b p)).foldl (Ct p) s).getD i.toNat default).Ap = (Aet b p f).Ap /\ (((fs.map (isl b p)).foldl (Ct p) s).getD i.toNat default).Phase = (Aet b p f).Phase
 | [], _, _, _, _, h, _, _ => by cases h
 | g :: fs, s, hs, hnd, f, hf, i, hi => by
  obtain ⟨h1, h2⟩ := List.nodup_cons.1 hnd
  rw [List.map_cons, List.foldl_cons]
  by_cases e : f = g
  ·subst e
   rw [Ahi fs _ (λ k hk j hj => Awb (λ e => h1 (by rw [← e]; exact hk)) hj hi)]
   obtain ⟨k, rfl, hk, _⟩ := zN.1 hi
   unfold Ct
   split
   ·rename_i e; rw [e] at hi; cases hi
   ·rename_i m r e
    have : Aet b p f = p.Ac.getD m.toNat default := by unfold Aet; rw [e]; rfl
    rw [this]
    exact Al3 _ _ (by rw [Int.toNat_natCast]; omega) ⟨_, hi, rfl⟩
  ·rcases List.mem_cons.1 hf with h | hf
   ·exact absurd h e
   ·exact Aam hn fs _ (by rw [Mn]; exact hs) h2 f hf i hi
theorem Aak {b : Aa} (h : Ax b) {p : Ab} (hn : p.Ac.length = b.Ac.length) : Ak9 b ⟨p.Ah, Ed b p, p.As, p.Aq⟩ := by
 have hisl : Bj b ⟨p.Ah, Ed b p, p.As, p.Aq⟩ = Bj b p := Aei rfl (H2 b p) (Aek b p)
 intro x hx i j hi hj
 rw [hisl, Gr h] at hx
 obtain ⟨f, hf, rfl⟩ := List.mem_map.1 hx
 have hnd : (Kb b p b.Am.toNat).Nodup := (List.nodup_range).sublist List.filter_sublist
 have hfl : Ed b p = ((Kb b p b.Am.toNat).map (isl b p)).foldl (Ct p) p.Ac := by
  rw [← Gr h]; rfl
 have e1 := Aam hn _ p.Ac rfl hnd f hf i hi
 have e2 := Aam hn _ p.Ac rfl hnd f hf j hj
 dsimp only
 rw [hfl]
 exact ⟨e1.1.trans e2.1.symm, e1.2.trans e2.2.symm⟩
def Apr (b : Aa) (p : Ab) (n : Nat) : Bool := decide (((isl b p ((Bd b p).getD n 0).toNat).Ac.length : Int) > 0)
theorem Au1 {b : Aa} {p : Ab} {n f : Nat} (hn : n < b.Am.toNat) : (isl b p f).Am.any ((n : Int) == ·) = ((Bd b p).getD n 0 == (f : Int)) := by
 rw [Bool.eq_iff_iff, List.any_eq_true]
 constructor
 ·rintro ⟨x, hx, e⟩
  rw [beq_iff_eq] at e; subst e
  obtain ⟨i, hi, e⟩ := List.mem_map.1 hx
  have : i = n := by omega
  subst this
  exact (List.mem_filter.1 hi).2
 ·intro e
  exact ⟨n, List.mem_map.2 ⟨n, List.mem_filter.2 ⟨List.mem_range.2 hn, e⟩, rfl⟩, by simp⟩
theorem of_eq {b : Aa} (h : Ax b) {p : Ab} (hp : Aw b p) {n : Nat} (hn : n < b.Am.toNat) : Gm b p (n : Int) = some (isl b p ((Bd b p).getD n 0).toNat, true) := by
 have hg := Is h p hn
 have hbu := h.buses
 unfold Gm
 rw [H0 h hp, Gr h]
 simp only [Option.bind_some]
 have key : ∀ (fs : List Nat) (k : Nat), foldI (J3 (n : Int)) (fs.map (isl b p)) k () = if ((Bd b p).getD n 0).toNat ∈ fs then some (.ret (isl b p ((Bd b p).getD n 0).toNat, true)) else some (.next ()) := by
  intro fs
  induction fs with
  | nil => intro k; rfl
  | cons f fs ih =>
   intro k
   have hbl : (isl b p f).Am.length <= 9223372036854775807 := by
    have := Dj (λ i => (Bd b p).getD i 0 == (f : Int)) b.Am.toNat
    simp only [isl, Dz]
    omega
   simp only [List.map_cons, foldI, J3, Dv _ _ hbl, Option.bind_some, Au1 hn]
   by_cases e : (Bd b p).getD n 0 = (f : Int)
   ·have e2 : ((Bd b p).getD n 0).toNat = f := by omega
    rw [beq_iff_eq.2 e, e2, if_pos List.mem_cons_self]; rfl
   ·have e2 : ((Bd b p).getD n 0).toNat ≠ f := by omega
    rw [beq_eq_false_iff_ne.2 e]
    simp only [cond_false]
    rw [ih]
    by_cases hm : ((Bd b p).getD n 0).toNat ∈ fs
    ·rw [if_pos hm, if_pos (List.mem_cons_of_mem _ hm)]
    ·rw [if_neg hm, if_neg (λ hh => (List.mem_cons.1 hh).elim e2 hm)]
 have hm : ((Bd b p).getD n 0).toNat ∈ Kb b p b.Am.toNat := List.mem_filter.2 ⟨List.mem_range.2 (by omega), Jz h p hn⟩
 rw [key, if_pos hm]
 rfl
theorem Aag {b : Aa} (h : Ax b) {p : Ab} (hp : Aw b p) {n : Nat} (hn : n < b.Am.toNat) : Vq b p (n : Int) = some (Apr b p n) := by
 unfold Vq
 rw [of_eq h hp hn]
 simp [Apr]
theorem Alu {b : Aa} (h : Ax b) {s : Ai} (hs : Bw s) : Ok (vG s b) λ y => (Aw b y.1 /\ Ak9 b y.1 /\ y.1.Aq.length <= 4) /\ Bw y.2 := by
 unfold vG
 refine (Ax9 h hs).bind λ y hy => ?_
 rw [Ali h hy.1.1]
 exact Ok.pure ⟨⟨I0 hy.1.1 (H2 b _) (Q8 hy.1.1), Aak h hy.1.1.nso, hy.1.2⟩, hy.2⟩
theorem Aya {b : Aa} (h : Ax b) {s : Ai} (hs : Bw s) : Ok (vU s b) λ y => ((∀ t, Pq b t y.1) /\ (5 <= y.1.Time /\ y.1.Time <= 20) /\ y.1.A4 = [] /\ y.1.Power.Aq.length <= 4) /\ Bw y.2 := by
 have hbu := h.buses
 unfold vU
 refine (Hp hs 5 20 (by omega) (by omega) (by omega)).bind λ y hy => (Alu h hy.1).bind λ z hz => ?_
 refine Ok.andThen (A := λ s => Bw ⟨s.2.1, s.2.2.1⟩ /\ s.2.2.2.length = b.Am.toNat /\ ∀ x, x ∈ s.2.2.2 -> (-1 <= x.High /\ x.High <= 4) /\ -1 <= x.Low /\ x.Low <= 4) (B := λ (_ : Unit) => False) ?_ (λ s hs => ?_) (λ _ h => h.elim)
 ·refine Ok.whileN (λ s => (0 <= s.1 /\ s.1 <= b.Am) /\ Bw ⟨s.2.1, s.2.2.1⟩ /\ (s.2.2.2.length : Int) = s.1 /\ ∀ x, x ∈ s.2.2.2 -> (-1 <= x.High /\ x.High <= 4) /\ -1 <= x.Low /\ x.Low <= 4) (λ s => (b.Am - s.1).toNat) _ _ ?_ ?_ ?_
  ·exact ⟨by dsimp only; omega, hz.2, by simp, λ x hx => by cases hx⟩
  ·dsimp only; omega
  ·rintro ⟨i, L, a, l⟩ ⟨⟨g1, g2⟩, g3, g4, g5⟩
   dsimp only at g1 g2 g3 g4 g5
   unfold Rz
   dsimp only
   refine Ok.cond (λ hq => ?_) (λ hq => Ok.brk ?_)
   ·simp only [decide_eq_true_eq] at hq
    have e1 : w64 (i + 1) = i + 1 := Bf (by omega)
    rw [e1]
    refine (Hp g3 (-1) 4 (by omega) (by omega) (by omega)).bind λ u hu => (Hp hu.1 (-1) 4 (by omega) (by omega) (by omega)).bind λ v hv => (Ok.appI (by simp; omega)).bind λ w hw => Ok.next ?_
    refine ⟨⟨by dsimp only; omega, hv.1, by rw [hw]; simp; omega, λ x hx => ?_⟩, by dsimp only; omega⟩
    rw [hw] at hx
    rcases List.mem_append.1 hx with hx | hx
    ·exact g5 x hx
    ·simp only [List.mem_singleton] at hx
     subst hx
     exact ⟨hu.2, hv.2⟩
   ·simp only [decide_eq_false_iff_not] at hq
    exact ⟨g3, by dsimp only; omega, g5⟩
 ·refine Ok.pure ⟨⟨λ t => ?_, hy.2, rfl, hz.1.2.2⟩, hs.1⟩
  exact {
   st := hz.1.1
   fol := Ahg hz.1.1.nso hz.1.2.1
   time := by have := hy.2; dsimp only; omega
   nro := hs.2.1
   ros := λ x hx => by
    have := hs.2.2 x hx
    have := hy.2
    unfold Fu
    dsimp only
    omega }
theorem Av6 {s : Ai} (hs : Bw s) : Ok (F9 s) λ y => A5g y.1 /\ Iw y.2.1 /\ ((∀ t, Pq y.1 t y.2.2.1) /\ (5 <= y.2.2.1.Time /\ y.2.2.1.Time <= 20) /\ y.2.2.1.A4 = [] /\ y.2.2.1.Power.Aq.length <= 4) /\ Bw y.2.2.2 := by
 unfold F9
 exact (Ayo hs).bind λ b hb => (Ax8 hb.2).bind λ y hy => (Aya hb.1.ok hy.2).bind λ p hp => Ok.pure ⟨hb.1, hy.1, hp.1, hp.2⟩
theorem Gi {b : Aa} {i : Nat} (h : i < b.Ae.length) : b.Ae[i]? = some (b.Ae.getD i default) := by
 rw [List.getElem?_eq_getElem h]; simp [List.getD, List.getElem?_eq_getElem h]
theorem Anf {p : Ab} {i : Nat} (h : i < p.As.length) : p.As[i]? = some (p.As.getD i 0) := by
 rw [List.getElem?_eq_getElem h]; simp [List.getD, List.getElem?_eq_getElem h]

theorem Ua {b : Aa} {p : Ab} (hp : Aw b p) {j : Nat} (hj : j < b.Af.length) : p.Ah[j]? = some (p.Ah.getD j false) := by
 have := hp.ncl
 rw [List.getElem?_eq_getElem (by omega)]; simp [List.getD, List.getElem?_eq_getElem (show j < p.Ah.length by omega)]
theorem A43 {b : Aa} {j : Nat} {x : Ak} (hx : b.Af[j]? = some x) : b.Af.getD j default = x := by simp [List.getD, hx]
def C6 (p : Ab) (x : Ak) : Bool :=
 brk p.Aq 3 x.A || (if x.Kind = 1 then brk p.Aq 3 x.B else if x.Kind = 2 then brk p.Aq 1 x.B || ((p.Ac.getD x.B.toNat default).State != 2) else brk p.Aq 4 x.B)
theorem A0s {b : Aa} {p : Ab} (hp : Aw b p) (k n : Int) (acts : List Ao) : Ku k n ⟨b, p, acts⟩ = some (brk p.Aq k n, ⟨b, p, acts⟩) := by
 have := hp.brk.len
 unfold Ku
 rw [Ea (by dsimp only; omega)]; rfl
theorem Aul {b : Aa} (h : Ax b) {p : Ab} (hp : Aw b p) (acts : List Ao) {x : Ak} (hx : x ∈ b.Af) : U6 ⟨b, p, acts⟩ x = some (C6 p x, ⟨b, p, acts⟩) := by
 have hbr := (h.br x hx).2
 have hns := hp.nso
 unfold U6 C6
 simp only [A0s hp, Option.bind_some]
 cases brk p.Aq 3 x.A with
 | true => rfl
 | false =>
  simp only [cond_false, Bool.false_or]
  rcases hbr with ⟨hk, _⟩ | ⟨hk, h0, h1⟩ | ⟨hk, _⟩
  ·rw [hk]; rfl
  ·rw [hk]
   have e : p.Ac[x.B.toNat]? = some (p.Ac.getD x.B.toNat default) := by
    rw [List.getElem?_eq_getElem (by omega)]; simp [List.getD, List.getElem?_eq_getElem (show x.B.toNat < p.Ac.length by omega)]
   have e2 : getI p.Ac x.B = some (p.Ac.getD x.B.toNat default) := by
    unfold getI; rw [decide_eq_true h0]; exact e
   rw [e2]
   cases brk p.Aq 1 x.B <;> rfl
  ·rw [hk]; rfl
def Cu (b : Aa) (C : List Bool) (q : Ak -> Bool) (n : Nat) : List Int := ((List.range n).filter λ i => C.getD i false && q (b.Af.getD i default)).map λ (i : Nat) => (i : Int)
theorem Je {b : Aa} {C : List Bool} {q : Ak -> Bool} {n : Nat} {i : Int} : i ∈ Cu b C q n ↔ ∃ k : Nat, i = (k : Int) /\ k < n /\ C.getD k false = true /\ q (b.Af.getD k default) = true := by
 unfold Cu
 simp only [List.mem_map, List.mem_filter, List.mem_range, Bool.and_eq_true]
 constructor
 ·rintro ⟨k, ⟨h1, h2, h3⟩, rfl⟩; exact ⟨k, rfl, h1, h2, h3⟩
 ·rintro ⟨k, rfl, h1, h2, h3⟩; exact ⟨k, ⟨h1, h2, h3⟩, rfl⟩
theorem Gh (b : Aa) (C : List Bool) (q : Ak -> Bool) (n : Nat) : (Cu b C q n).length <= n := Dj _ n
def G_ (C : List Bool) (l : List Int) : List Bool := l.foldl (λ c i => c.set i.toNat false) C
def Ka (l : List Int) : List Ao := l.map λ i => ⟨2, i, 0⟩
theorem Acy : ∀ (l : List Int) (C : List Bool), (G_ C l).length = C.length
 | [], _ => rfl
 | i :: l, C => by
  show (G_ (C.set i.toNat false) l).length = _
  rw [Acy l]; simp
theorem Apa (C : List Bool) (l : List Int) (i : Int) : G_ C (l ++ [i]) = (G_ C l).set i.toNat false := by
 unfold G_; rw [List.foldl_append]; rfl
theorem Agq {b : Aa} : ∀ (l : List Int) {p : Ab}, Aw b p -> Aw b ⟨G_ p.Ah l, p.Ac, p.As, p.Aq⟩
 | [], _, hp => hp
 | i :: l, p, hp => Agq l (p := ⟨p.Ah.set i.toNat false, p.Ac, p.As, p.Aq⟩) (Apb hp i.toNat)
theorem Aws {b : Aa} {p : Ab} {acts : List Ao} (ha : acts.length <= 1000000) {i : Int} (h0 : 0 <= i) (h1 : i < p.Ah.length) : M1 ⟨b, p, acts⟩ i = some ⟨b, ⟨p.Ah.set i.toNat false, p.Ac, p.As, p.Aq⟩, acts ++ [⟨2, i, 0⟩]⟩ := by
 refine Ok.eq ?_
 unfold M1
 refine (Ok.getI h0 h1).bind λ _ _ => (Ok.setI h0 h1).bind λ y hy => (Ok.appI (by simp; omega)).bind λ z hz => Ok.pure ?_
 rw [hy, hz]
theorem Yg {b : Aa} {p : Ab} {acts : List Ao} {l : List Int} (ha : acts.length + l.length <= 1000000) (hl : ∀ i, i ∈ l -> 0 <= i /\ i < p.Ah.length) :
  Ok (foldI Kx l 0 (b.Am, b.Af, b.Ac, b.Ae, b.Phase, b.Ap, p.Ah, p.Ac, p.As, p.Aq, acts)) (Dq (λ s => s = (b.Am, b.Af, b.Ac, b.Ae, b.Phase, b.Ap, G_ p.Ah l, p.Ac, p.As, p.Aq, acts ++ Ka l)) λ (_ : Unit) => False) := by
 refine Ok.foldI0 (I := λ j s => s = (b.Am, b.Af, b.Ac, b.Ae, b.Phase, b.Ap, G_ p.Ah (l.take j), p.Ac, p.As, p.Aq, acts ++ Ka (l.take j))) (by simp [G_, Ka]) (λ j i s hi hs => ?_) λ s hs => ?_
 ·have hj := (List.getElem?_eq_some_iff.1 hi).1
  have hin := hl i (List.mem_of_getElem? hi)
  subst hs
  unfold Kx
  have e := Aws (b := b) (p := ⟨G_ p.Ah (l.take j), p.Ac, p.As, p.Aq⟩) (acts := acts ++ Ka (l.take j)) (by simp [Ka]; omega) hin.1 (by rw [Acy]; exact hin.2)
  refine Ok.bind (P := λ y => y = _) (Ok.of_eq e rfl) λ y hy => Ok.next ?_
  subst hy
  rw [Bk hi, Apa]
  simp [Ka]
 ·rw [List.take_length] at hs; exact hs
def acA (b : Aa) (C : List Bool) (q : Ak -> Bool) : List Ao := Ka (Cu b C q b.Af.length)
def acC (b : Aa) (C : List Bool) (q : Ak -> Bool) : List Bool := G_ C (Cu b C q b.Af.length)
theorem Wo (b : Aa) (C : List Bool) (q : Ak -> Bool) : (acA b C q).length <= b.Af.length := by
 unfold acA Ka
 rw [List.length_map]; exact Gh b C q _
theorem Ai0 {b : Aa} {p : Ab} (hp : Aw b p) (q : Ak -> Bool) : Aw b ⟨acC b p.Ah q, p.Ac, p.As, p.Aq⟩ := Agq _ hp
theorem Q6 {b : Aa} {C : List Bool} {q : Ak -> Bool} {j : Nat} {x : Ak} (hx : b.Af[j]? = some x) : Cu b C q (j + 1) = Cu b C q j ++ if (C.getD j false && q x) = true then [(j : Int)] else [] := by
 unfold Cu
 rw [Fi, A43 hx]
theorem Ar4 {b : Aa} (h : Ax b) {p : Ab} (hp : Aw b p) {acts : List Ao} (ha : acts.length <= 1000) : Va ⟨b, p, acts⟩ = some ⟨b, ⟨acC b p.Ah (C6 p), p.Ac, p.As, p.Aq⟩, acts ++ acA b p.Ah (C6 p)⟩ := by
 have hbl := h.brl
 have hnc := hp.ncl
 refine Ok.eq ?_
 unfold Va
 refine Ok.andThen (A := λ s => s = (b.Am, b.Af, b.Ac, b.Ae, b.Phase, b.Ap, Cu b p.Ah (C6 p) b.Af.length, p.Ah, p.Ac, p.As, p.Aq, acts)) (B := λ (_ : Unit) => False) ?_ (λ s hs => ?_) (λ _ h => h.elim)
 ·refine Ok.foldI0 (I := λ j s => s = (b.Am, b.Af, b.Ac, b.Ae, b.Phase, b.Ap, Cu b p.Ah (C6 p) j, p.Ah, p.Ac, p.As, p.Aq, acts)) rfl (λ j x s hx hs => ?_) λ s hs => hs
  have hj : j < b.Af.length := (List.getElem?_eq_some_iff.1 hx).1
  have hfl := Gh b p.Ah (C6 p) j
  have hfs := Q6 (C := p.Ah) (q := C6 p) hx
  subst hs
  unfold Ob
  rw [C4 (by omega), Bm (Ua hp hj)]
  simp only [Option.bind_some]
  have hd := Aul h hp acts (List.mem_of_getElem? hx)
  cases hC : p.Ah.getD j false with
  | false =>
   rw [hC] at hfs
   refine Ok.next ?_
   rw [hfs]; simp
  | true =>
   rw [hC] at hfs
   refine Ok.bind (P := λ y => y = (C6 p x, (⟨b, p, acts⟩ : Ay))) (Ok.of_eq hd rfl) λ y hy => ?_
   subst hy
   cases hq : C6 p x with
   | false =>
    rw [hq] at hfs
    refine Ok.next ?_
    rw [hfs]; simp
   | true =>
    rw [hq] at hfs
    refine Ok.bind (P := λ y => y = Cu b p.Ah (C6 p) j ++ [(j : Int)]) (Ok.appI (by simp; omega)) λ y hy => Ok.next ?_
    rw [hy, hfs]; simp
 ·subst hs
  have hfl := Gh b p.Ah (C6 p) b.Af.length
  refine Ok.andThen (Yg (b := b) (p := p) (acts := acts) (l := Cu b p.Ah (C6 p) b.Af.length) (by omega) λ i hi => ?_) (λ s hs => ?_) (λ _ h => h.elim)
  ·obtain ⟨k, rfl, hk, _⟩ := Je.1 hi
   omega
  ·subst hs
   exact Ok.pure rfl
def Ee (b : Aa) (p : Ab) (x : Ak) : Bool := x.Kind == 3 && !Apr b p x.A.toNat
theorem A0l {b : Aa} (h : Ax b) {p : Ab} (hp : Aw b p) (acts : List Ao) {x : Ak} (hx : x ∈ b.Af) : U5 x ⟨b, p, acts⟩ = some (Ee b p x, ⟨b, p, acts⟩) := by
 have hA := (h.br x hx).1
 have hl := Aag h hp (n := x.A.toNat) (by omega)
 rw [Int.toNat_of_nonneg hA.1] at hl
 unfold U5 Ee
 rw [hl]
 cases x.Kind == 3 <;> rfl
theorem Ar3 {b : Aa} (h : Ax b) {p : Ab} (hp : Aw b p) {acts : List Ao} (ha : acts.length <= 1000) : U_ ⟨b, p, acts⟩ = some ⟨b, ⟨acC b p.Ah (Ee b p), p.Ac, p.As, p.Aq⟩, acts ++ acA b p.Ah (Ee b p)⟩ := by
 have hbl := h.brl
 have hnc := hp.ncl
 refine Ok.eq ?_
 unfold U_
 refine Ok.andThen (A := λ s => s = (b.Am, b.Af, b.Ac, b.Ae, b.Phase, b.Ap, Cu b p.Ah (Ee b p) b.Af.length, p.Ah, p.Ac, p.As, p.Aq, acts)) (B := λ (_ : Unit) => False) ?_ (λ s hs => ?_) (λ _ h => h.elim)
 ·refine Ok.foldI0 (I := λ j s => s = (b.Am, b.Af, b.Ac, b.Ae, b.Phase, b.Ap, Cu b p.Ah (Ee b p) j, p.Ah, p.Ac, p.As, p.Aq, acts)) rfl (λ j x s hx hs => ?_) λ s hs => hs
  have hj : j < b.Af.length := (List.getElem?_eq_some_iff.1 hx).1
  have hfl := Gh b p.Ah (Ee b p) j
  have hfs := Q6 (C := p.Ah) (q := Ee b p) hx
  subst hs
  unfold Oa
  rw [C4 (by omega), Bm (Ua hp hj)]
  simp only [Option.bind_some]
  have hd := A0l h hp acts (List.mem_of_getElem? hx)
  cases hC : p.Ah.getD j false with
  | false =>
   rw [hC] at hfs
   refine Ok.next ?_
   rw [hfs]; simp
  | true =>
   rw [hC] at hfs
   refine Ok.bind (P := λ y => y = (Ee b p x, (⟨b, p, acts⟩ : Ay))) (Ok.of_eq hd rfl) λ y hy => ?_
   subst hy
   cases hq : Ee b p x with
   | false =>
    rw [hq] at hfs
    refine Ok.next ?_
    rw [hfs]; simp
   | true =>
    rw [hq] at hfs
    refine Ok.bind (P := λ y => y = Cu b p.Ah (Ee b p) j ++ [(j : Int)]) (Ok.appI (by simp; omega)) λ y hy => Ok.next ?_
    rw [hy, hfs]; simp
 ·subst hs
  have hfl := Gh b p.Ah (Ee b p) b.Af.length
  refine Ok.andThen (Yg (b := b) (p := p) (acts := acts) (l := Cu b p.Ah (Ee b p) b.Af.length) (by omega) λ i hi => ?_) (λ s hs => ?_) (λ _ h => h.elim)
  ·obtain ⟨k, rfl, hk, _⟩ := Je.1 hi
   omega
  ·subst hs
   exact Ok.pure rfl
def Ij (b : Aa) (p : Ab) : Ab := ⟨acC b p.Ah (C6 p), p.Ac, p.As, p.Aq⟩
def Axt (b : Aa) (p : Ab) : Ab := ⟨acC b (Ij b p).Ah (Ee b (Ij b p)), p.Ac, p.As, p.Aq⟩
def Jg (b : Aa) (p : Ab) : Ab := ⟨(Axt b p).Ah, Ed b (Axt b p), p.As, p.Aq⟩
def Rb (b : Aa) (p : Ab) : List Ao := acA b p.Ah (C6 p) ++ acA b (Ij b p).Ah (Ee b (Ij b p))
theorem Anm {b : Aa} {p : Ab} (hp : Aw b p) : Aw b (Ij b p) := Ai0 hp _
theorem Aav {b : Aa} {p : Ab} (hp : Aw b p) : Aw b (Axt b p) := Ai0 (Anm hp) _
theorem Anl {b : Aa} {p : Ab} (hp : Aw b p) : Aw b (Jg b p) := I0 (Aav hp) (H2 b _) (Q8 (Aav hp))
theorem Ah9 (b : Aa) (p : Ab) : (Rb b p).length <= 2 * b.Af.length := by
 have h1 := Wo b p.Ah (C6 p)
 have h2 := Wo b (Ij b p).Ah (Ee b (Ij b p))
 unfold Rb
 rw [List.length_append]; omega
theorem Axv {b : Aa} (h : Ax b) {p : Ab} (hp : Aw b p) : Vg ⟨b, p, []⟩ = some ⟨b, Jg b p, Rb b p⟩ := by
 have hbl := h.brl
 have hl := Wo b p.Ah (C6 p)
 unfold Vg
 rw [Ar4 h hp (by simp)]
 simp only [Option.bind_some, List.nil_append]
 have e2 := Ar3 h (Anm hp) (acts := acA b p.Ah (C6 p)) (by omega)
 have e3 := Nv h (Aav hp)
 refine Ok.eq ?_
 refine Ok.bind (P := λ y => y = _) (Ok.of_eq e2 rfl) λ y hy => ?_
 subst hy
 refine Ok.bind (P := λ y => y = _) (Ok.of_eq e3 rfl) λ y hy => ?_
 subst hy
 exact Ok.pure rfl
def key (b : Aa) (c : Int) : Int := (b.Ae.getD c.toNat default).Bp * 100 + c
theorem Ty {l : List Int} {m k : Nat} {v : Int} : (l.set m v).getD k 0 = if m = k /\ m < l.length then v else l.getD k 0 := by
 simp only [List.getD, List.getElem?_set]
 by_cases e : m = k
 ·subst e
  by_cases hl : m < l.length
  ·simp [hl]
  ·simp [hl]
 ·simp [e]
theorem Tx {l : List Int} {k : Nat} (h : k < l.length) : getI l (k : Int) = some (l.getD k 0) := Bm (by
 rw [List.getElem?_eq_getElem h]; simp [List.getD, List.getElem?_eq_getElem h])
structure Srt (b : Aa) (n i : Nat) (d : List Int) : Prop where
 len : d.length = n
 low : ∀ k, k < i -> k < n -> 0 <= d.getD k 0 /\ d.getD k 0 < (i : Int)
 asc : ∀ k m, k < m -> m < i -> m < n -> key b (d.getD k 0) < key b (d.getD m 0)
 rest : ∀ k, i <= k -> k < n -> d.getD k 0 = (k : Int)
 mem : ∀ v, v < n -> ∃ k, k < n /\ d.getD k 0 = (v : Int)
structure Ins (b : Aa) (n i j : Nat) (d : List Int) : Prop where
 len : d.length = n
 here : d.getD j 0 = (i : Int)
 low : ∀ k, k <= i -> k ≠ j -> 0 <= d.getD k 0 /\ d.getD k 0 < (i : Int)
 asc : ∀ k m, k < m -> m <= i -> k ≠ j -> m ≠ j -> key b (d.getD k 0) < key b (d.getD m 0)
 big : ∀ k, j < k -> k <= i -> key b (i : Int) < key b (d.getD k 0)
 rest : ∀ k, i < k -> k < n -> d.getD k 0 = (k : Int)
 mem : ∀ v, v < n -> ∃ k, k < n /\ d.getD k 0 = (v : Int)
theorem Srt.ins {b : Aa} {n i : Nat} {d : List Int} (h : Srt b n i d) (hi : i < n) : Ins b n i i d where
 len := h.len
 here := h.rest i (Nat.le_refl _) hi
 low k hk hne := h.low k (by omega) (by omega)
 asc k m hkm hm hk hm2 := h.asc k m hkm (by omega) (by omega)
 big k h1 h2 := by omega
 rest k h1 h2 := h.rest k (by omega) h2
 mem := h.mem
theorem Ins.done {b : Aa} {n i j : Nat} {d : List Int} (h : Ins b n i j d) (hj : j <= i) (hk : 0 < j -> key b (d.getD (j - 1) 0) < key b (i : Int)) : Srt b n (i + 1) d := by
 refine ⟨h.len, λ k h1 h2 => ?_, λ k m hkm hm hn => ?_, λ k h1 h2 => h.rest k (by omega) h2, h.mem⟩
 ·by_cases e : k = j
  ·rw [e, h.here]; omega
  ·have := h.low k (by omega) e
   omega
 ·have lo : ∀ k, k < j -> key b (d.getD k 0) < key b (i : Int) := λ k hkj => by
   have h3 := hk (by omega)
   by_cases e : k = j - 1
   ·rw [e]; exact h3
   ·have := h.asc k (j - 1) (by omega) (by omega) (by omega) (by omega)
    omega
  by_cases e : k = j
  ·subst e
   rw [h.here]
   exact h.big m hkm (by omega)
  ·by_cases e2 : m = j
   ·subst e2
    rw [h.here]
    exact lo k hkm
   ·exact h.asc k m hkm (by omega) e e2
theorem Ins.step {b : Aa} {n i j : Nat} {d : List Int} (h : Ins b n i j d) (hj : j <= i) (h0 : 0 < j) (hi : i < n) (hk : key b (i : Int) < key b (d.getD (j - 1) 0)) : Ins b n i (j - 1) ((d.set j (d.getD (j - 1) 0)).set (j - 1) (i : Int)) := by
 have hl := h.len
 have ev : ∀ k, ((d.set j (d.getD (j - 1) 0)).set (j - 1) (i : Int)).getD k 0 = if k = j - 1 then (i : Int) else if k = j then d.getD (j - 1) 0 else d.getD k 0 := λ k => by
  rw [Ty, Ty, List.length_set]
  by_cases e1 : k = j - 1
  ·have c1 : j - 1 = k /\ j - 1 < d.length := ⟨e1.symm, by omega⟩
   rw [if_pos c1, if_pos e1]
  ·have c1 : ¬ (j - 1 = k /\ j - 1 < d.length) := λ hh => e1 hh.1.symm
   rw [if_neg c1, if_neg e1]
   by_cases e2 : k = j
   ·have c2 : j = k /\ j < d.length := ⟨e2.symm, by omega⟩
    rw [if_pos c2, if_pos e2]
   ·have c2 : ¬ (j = k /\ j < d.length) := λ hh => e2 hh.1.symm
    rw [if_neg c2, if_neg e2]
 refine ⟨by simp [hl], ?_, λ k h1 h2 => ?_, λ k m hkm hm hk1 hm1 => ?_, λ k h1 h2 => ?_, λ k h1 h2 => ?_, λ v hv => ?_⟩
 ·rw [ev, if_pos rfl]
 ·rw [ev, if_neg h2]
  split
  ·exact h.low (j - 1) (by omega) (by omega)
  ·exact h.low k h1 (by omega)
 ·rw [ev, ev, if_neg hk1, if_neg hm1]
  by_cases e1 : k = j
  ·rw [if_pos e1, if_neg (by omega)]
   subst e1
   exact h.asc (k - 1) m (by omega) hm (by omega) (by omega)
  ·rw [if_neg e1]
   by_cases e2 : m = j
   ·rw [if_pos e2]
    exact h.asc k (j - 1) (by omega) (by omega) e1 (by omega)
   ·rw [if_neg e2]
    exact h.asc k m hkm hm e1 e2
 ·rw [ev, if_neg (by omega)]
  split
  ·exact hk
  ·exact h.big k (by omega) h2
 ·rw [ev, if_neg (by omega), if_neg (by omega)]
  exact h.rest k h1 h2
 ·obtain ⟨k, hk1, hk2⟩ := h.mem v hv
  by_cases e1 : k = j
  ·refine ⟨j - 1, by omega, ?_⟩
   rw [ev, if_pos rfl, ← hk2, e1, h.here]
  ·by_cases e2 : k = j - 1
   ·refine ⟨j, by omega, ?_⟩
    rw [ev, if_neg (by omega), if_pos rfl, ← hk2, e2]
   ·refine ⟨k, hk1, ?_⟩
    rw [ev, if_neg e2, if_neg e1]; exact hk2
theorem Ata {b : Aa} {x y : Nat} (hx : x < b.Ae.length) (hy : y < b.Ae.length) : M0 (x : Int) (y : Int) b = some (if (b.Ae.getD x default).Bp < (b.Ae.getD y default).Bp then -1 else if (b.Ae.getD x default).Bp > (b.Ae.getD y default).Bp then 1 else 0) := by
 unfold M0
 rw [Bm (Gi hx), Bm (Gi hy)]
 simp only [Option.bind_some, Ah8]
theorem Axd {b : Aa} (h : Ax b) {i : Nat} (hi : i < b.Ae.length) {d : List Int} (hd : Ins b b.Ae.length i i d) :
  Ok (whileN (Kt 0 b) 1152921504606846976 ((i : Int), d)) (Dq (λ s => Srt b b.Ae.length (i + 1) s.2) λ (_ : Unit) => False) := by
 have hcl := h.col
 refine Ok.whileN (λ s => ∃ j : Nat, s.1 = (j : Int) /\ j <= i /\ Ins b b.Ae.length i j s.2) (λ s => s.1.toNat) _ _ ⟨i, rfl, Nat.le_refl _, hd⟩ (by dsimp only; omega) ?_
 rintro ⟨z, d⟩ ⟨j, hz, hj, hI⟩
 dsimp only at hz hI
 subst hz
 have hl := hI.len
 unfold Kt
 dsimp only
 by_cases h0 : 0 < j
 ·have e1 : decide ((j : Int) > 0) = true := decide_eq_true (by omega)
  have e2 : w64 ((j : Int) - 1) = ((j - 1 : Nat) : Int) := by rw [Bf (by omega)]; omega
  have hlow := hI.low (j - 1) (by omega) (by omega)
  obtain ⟨v, hv⟩ : ∃ v : Nat, d.getD (j - 1) 0 = (v : Int) := ⟨(d.getD (j - 1) 0).toNat, by omega⟩
  have hvi : v < i := by omega
  have ec := Ata (b := b) hi (show v < b.Ae.length by omega)
  have g1 : A3 [(decide ((j : Int) > 0), true)] (getI d (j : Int)) default = some (i : Int) := by
   rw [e1, Tx (by omega), hI.here]; rfl
  have g2 : A3 [(decide ((j : Int) > 0), true)] (getI d (w64 ((j : Int) - 1))) default = some (v : Int) := by
   rw [e1, e2, Tx (by omega), hv]; rfl
  rw [g1, g2]
  simp only [Option.bind_some]
  have g3 : A3 [(decide ((j : Int) > 0), true)] (M0 (i : Int) (v : Int) b) default = M0 (i : Int) (v : Int) b := by rw [e1]; rw [ec]; rfl
  rw [g3, ec]
  simp only [Option.bind_some]
  have hci := h.co i _ (Gi hi)
  have hcv := h.co v _ (Gi (show v < b.Ae.length by omega))
  have ki : key b (i : Int) = (b.Ae.getD i default).Bp * 100 + (i : Int) := by unfold key; rw [Int.toNat_natCast]
  have kv : key b (v : Int) = (b.Ae.getD v default).Bp * 100 + (v : Int) := by unfold key; rw [Int.toNat_natCast]
  refine Ok.cond (λ hq => ?_) (λ hq => ?_)
  ·simp only [Rc, Bool.and_eq_true, decide_eq_true_eq] at hq
   have hlt : (b.Ae.getD i default).Bp < (b.Ae.getD v default).Bp := by
    have := hq.2
    split at this
    ·assumption
    ·split at this <;> omega
   have e3 : getI d (w64 ((j : Int) - 1)) = some (d.getD (j - 1) 0) := by rw [e2, Tx (by omega)]
   have e4 : getI d (j : Int) = some (i : Int) := by rw [Tx (by omega), hI.here]
   rw [e3, e4]
   simp only [Option.bind_some]
   rw [e2, X8 (by omega)]
   simp only [Option.bind_some]
   rw [Tx (by rw [List.length_set]; omega)]
   simp only [Option.bind_some]
   rw [X8 (by rw [List.length_set]; omega)]
   simp only [Option.bind_some]
   refine Ok.next ⟨⟨j - 1, rfl, by omega, hI.step hj h0 hi ?_⟩, by dsimp only; omega⟩
   rw [hv, ki, kv]; omega
  ·refine Ok.brk (hI.done hj λ _ => ?_)
   simp only [Rc, Bool.and_eq_false_iff, decide_eq_false_iff_not] at hq
   have hge : ¬ (b.Ae.getD i default).Bp < (b.Ae.getD v default).Bp := by
    intro hlt
    rw [if_pos hlt] at hq
    omega
   rw [hv, ki, kv]; omega
 ·have h00 : j = 0 := by omega
  subst h00
  exact Ok.brk (hI.done hj λ hh => by omega)
theorem Azn {b : Aa} (h : Ax b) {d : List Int} (hd : Srt b b.Ae.length 0 d) : Ok (Uw d b) λ y => Srt b b.Ae.length b.Ae.length y.1 := by
 have hcl := h.col
 have hl := hd.len
 unfold Uw vW
 rw [hl]
 refine Ok.bind (P := λ y => Srt b b.Ae.length b.Ae.length y.1) ?_ λ y hy => Ok.pure hy
 refine Ok.andThen (A := λ s => s = ((0 : Int), (20 : Int), d, b.Am, b.Af, b.Ac, b.Ae, b.Phase, b.Ap)) (B := λ (_ : Unit) => False) ?_ (λ s hs => ?_) (λ _ h => h.elim)
 ·refine Ok.whileN (λ s => s = ((0 : Int), (20 : Int), d, b.Am, b.Af, b.Ac, b.Ae, b.Phase, b.Ap)) (λ _ => 0) _ _ rfl (by omega) ?_
  intro s hs
  subst hs
  unfold N5
  dsimp only
  refine Ok.cond (λ hq => ?_) (λ _ => Ok.brk rfl)
  simp only [decide_eq_true_eq] at hq
  omega
 ·subst hs
  dsimp only
  refine Ok.bind (P := λ y => Srt b b.Ae.length b.Ae.length y.1) ?_ λ y hy => ?_
  ·unfold Uu
   have e1 : w64 (0 + 1) = 1 := by rw [Bf (by omega)]; rfl
   rw [e1]
   refine Ok.andThen (A := λ s => Srt b b.Ae.length b.Ae.length s.2) (B := λ (_ : Unit) => False) ?_ (λ s hs => Ok.pure hs) (λ _ h => h.elim)
   refine Ok.whileN (λ s => ∃ i : Nat, s.1 = (i : Int) /\ 1 <= i /\ (i <= b.Ae.length \/ b.Ae.length = 0) /\ Srt b b.Ae.length i s.2) (λ s => (100 - s.1).toNat) _ _ ⟨1, rfl, by omega, by omega, ?_⟩ (by dsimp only; omega) ?_
   ·refine ⟨hl, λ k h1 h2 => ?_, λ k m h1 h2 h3 => by omega, λ k h1 h2 => hd.rest k (by omega) h2, hd.mem⟩
    have : k = 0 := by omega
    subst this
    have := hd.rest 0 (Nat.le_refl _) h2
    dsimp only
    rw [this]; omega
   ·rintro ⟨z, d'⟩ ⟨i, hz, h1, h2, hS⟩
    dsimp only at hz hS
    subst hz
    unfold N3
    dsimp only
    refine Ok.cond (λ hq => ?_) (λ hq => Ok.brk ?_)
    ·simp only [decide_eq_true_eq] at hq
     have hin : i < b.Ae.length := by omega
     refine Ok.inner (Axd h hin (hS.ins hin)) (λ s hs => ?_) (λ _ h => h.elim)
     have e2 : w64 ((i : Int) + 1) = ((i + 1 : Nat) : Int) := by rw [Bf (by omega)]; omega
     rw [e2]
     exact Ok.next ⟨⟨i + 1, rfl, by omega, by omega, hs⟩, by dsimp only; omega⟩
    ·simp only [decide_eq_false_iff_not] at hq
     dsimp only
     have hge : b.Ae.length <= i := by omega
     refine ⟨hS.len, λ k g1 g2 => ?_, λ k m g1 g2 g3 => hS.asc k m g1 (by omega) g3, λ k g1 g2 => by omega, hS.mem⟩
     obtain ⟨w1, w2⟩ := hS.low k (by omega) g2
     exact ⟨w1, by omega⟩
  ·refine Ok.andThen (A := λ _ => True) (B := λ (_ : Unit) => False) ?_ (λ s hs => Ok.pure hy) (λ _ h => h.elim)
   refine Ok.whileN (λ _ => True) (λ _ => 0) _ _ trivial (by omega) ?_
   intro s _
   unfold N4
   refine Ok.cond (λ hq => ?_) (λ _ => Ok.brk trivial)
   simp only [decide_eq_true_eq] at hq
   omega
def Jt (b : Aa) : List Int := (Zx b).getD []
theorem Yf {b : Aa} (h : Ax b) : Zx b = some (Jt b) /\ Srt b b.Ae.length b.Ae.length (Jt b) := by
 have hcl := h.col
 have key : Ok (Zx b) λ y => Srt b b.Ae.length b.Ae.length y := by
  unfold Zx
  rw [Aia h]
  simp only [Option.bind_some]
  refine Ok.cond (λ hc => by simp at hc) (λ _ => ?_)
  refine Ok.andThen (A := λ s => s.2 = Cm b.Ae.length) (B := λ (_ : Unit) => False) ?_ (λ s hs => ?_) (λ _ h => h.elim)
  ·refine Ok.whileN (λ s => ∃ i : Nat, s.1 = (i : Int) /\ i <= b.Ae.length /\ s.2 = Cm i) (λ s => (100 - s.1).toNat) _ _ ⟨0, rfl, by omega, rfl⟩ (by dsimp only; omega) ?_
   rintro ⟨z, d⟩ ⟨i, hz, h1, h2⟩
   dsimp only at hz h2
   subst hz
   subst h2
   unfold Wz Aus
   dsimp only
   refine Ok.cond (λ hq => ?_) (λ hq => Ok.brk ?_)
   ·simp only [decide_eq_true_eq] at hq
    refine (Ok.appI (by simp [Cm]; omega)).bind λ y hy => ?_
    have e2 : w64 ((i : Int) + 1) = ((i + 1 : Nat) : Int) := by rw [Bf (by omega)]; omega
    rw [e2]
    refine Ok.next ⟨⟨i + 1, rfl, by omega, ?_⟩, by dsimp only; omega⟩
    dsimp only
    rw [hy]
    unfold Cm
    rw [List.range_succ, List.map_append]; rfl
   ·simp only [decide_eq_false_iff_not] at hq
    have : i = b.Ae.length := by omega
    subst this; rfl
  ·rw [hs]
   refine (Azn h ?_).bind λ y hy => Ok.pure hy
   refine ⟨by simp [Cm], λ k h1 => by omega, λ k m _ h1 => by omega, λ k _ h2 => Kl h2, λ v hv => ⟨v, hv, Kl hv⟩⟩
 obtain ⟨r, e, hr⟩ := key
 have : Jt b = r := by unfold Jt; rw [e]; rfl
 rw [this]
 exact ⟨e, hr⟩
theorem A06 {b : Aa} (h : Ax b) {c : Int} (hc : c ∈ Jt b) : 0 <= c /\ c < b.Ae.length := by
 have hs := (Yf h).2
 obtain ⟨k, hk⟩ := List.mem_iff_getElem?.1 hc
 have hlt := (List.getElem?_eq_some_iff.1 hk).1
 have := hs.low k (by have := hs.len; omega) (by have := hs.len; omega)
 have e : (Jt b).getD k 0 = c := by simp [List.getD, hk]
 rwa [e] at this
theorem zU {b : Aa} (h : Ax b) : (Jt b).length = b.Ae.length := (Yf h).2.len
def Sh (L : List Int) (l : List Int) : Int := l.foldl (λ s c => s + L.getD c.toNat 0) 0
theorem Abo (L : List Int) (l : List Int) (c : Int) : Sh L (l ++ [c]) = Sh L l + L.getD c.toNat 0 := by
 unfold Sh; rw [List.foldl_append]; rfl
def G4 (b : Aa) (p : Ab) (n : Nat) : Nat := ((Bd b p).getD n 0).toNat
def Hb (b : Aa) (p : Ab) (n : Nat) : Int := if 0 < (isl b p (G4 b p n)).Ac.length then Sh p.As (isl b p (G4 b p n)).Ae else 0
def Aep (b : Aa) : List Int := b.Ac.map (·.Rating)
def Me (b : Aa) (p : Ab) (n : Nat) : Int := Sh (Aep b) (isl b p (G4 b p n)).Ac
theorem Az3 {b : Aa} {p : Ab} {f : Nat} {i : Int} (hi : i ∈ (isl b p f).Ae) : 0 <= i /\ i < b.Ae.length := by
 obtain ⟨k, hk, rfl⟩ := List.mem_map.1 hi
 have := List.mem_range.1 (List.mem_filter.1 hk).1
 omega
theorem Ang {b : Aa} {p : Ab} {f : Nat} {i : Int} (hi : i ∈ (isl b p f).Ac) : 0 <= i /\ i < b.Ac.length := by
 obtain ⟨k, hk, rfl⟩ := List.mem_map.1 hi
 have := List.mem_range.1 (List.mem_filter.1 hk).1
 omega
theorem Ag3 {b : Aa} (h : Ax b) {p : Ab} (hp : Aw b p) {c : Int} (h0 : 0 <= c) (h1 : c < b.Ae.length) : getI p.As c = some (p.As.getD c.toNat 0) /\ 0 <= p.As.getD c.toNat 0 /\ p.As.getD c.toNat 0 <= (b.Ae.getD c.toNat default).Load /\ p.As.getD c.toNat 0 <= 50000 := by
 have hn := hp.nli
 obtain ⟨k, rfl⟩ : ∃ k : Nat, c = (k : Int) := ⟨c.toNat, by omega⟩
 rw [Int.toNat_natCast]
 have hg := Gi (b := b) (i := k) (by omega)
 have hl := hp.lim k _ _ (Anf (p := p) (by omega)) hg
 have hc := (h.co k _ hg).1
 exact ⟨Bm (Anf (by omega)), hl.1, hl.2, by omega⟩
theorem A95 {b : Aa} {c : Int} (h0 : 0 <= c) (h1 : c < b.Ae.length) : getI b.Ae c = some (b.Ae.getD c.toNat default) := by
 obtain ⟨k, rfl⟩ : ∃ k : Nat, c = (k : Int) := ⟨c.toNat, by omega⟩
 rw [Int.toNat_natCast]
 exact Bm (Gi (by omega))
theorem Wf {b : Aa} (h : Ax b) {p : Ab} (hp : Aw b p) {n : Nat} (hn : n < b.Am.toNat) : U2 b p (n : Int) = some (Hb b p n) /\ 0 <= Hb b p n /\ Hb b p n <= 800000 := by
 have hcl := h.col
 have hlen : (isl b p (G4 b p n)).Ae.length <= b.Ae.length := Dj _ _
 have key : Ok (U2 b p (n : Int)) λ y => y = Hb b p n /\ 0 <= Hb b p n /\ Hb b p n <= 800000 := by
  unfold U2
  have hof : Gm b p (n : Int) = some (isl b p (G4 b p n), true) := of_eq h hp hn
  rw [hof]
  simp only [Option.bind_some]
  refine Ok.andThen (A := λ s => s = Hb b p n /\ 0 <= Hb b p n /\ Hb b p n <= 800000) (B := λ (_ : Unit) => False) ?_ (λ s hs => Ok.pure hs) (λ _ h => h.elim)
  by_cases hs : 0 < (isl b p (G4 b p n)).Ac.length
  ·refine Ok.foldI0 (I := λ j s => s = Sh p.As ((isl b p (G4 b p n)).Ae.take j) /\ 0 <= s /\ s <= 50000 * (j : Int)) ⟨rfl, by omega, by omega⟩ (λ j c s hc hI => ?_) λ s hI => ?_
   ·obtain ⟨h1, h2, h3⟩ := hI
    have hj : j < (isl b p (G4 b p n)).Ae.length := (List.getElem?_eq_some_iff.1 hc).1
    have hcm := Az3 (List.mem_of_getElem? hc)
    obtain ⟨g1, g2, g3, g4⟩ := Ag3 h hp hcm.1 hcm.2
    unfold Pw
    have e : decide (((isl b p (G4 b p n)).Ac.length : Int) > 0) = true := decide_eq_true (by omega)
    show Ok (bif decide (((isl b p (G4 b p n)).Ac.length : Int) > 0) then _ else _) _
    rw [e, g1]
    simp only [cond_true, Option.bind_some]
    rw [Bf (by omega)]
    refine Ok.next ⟨?_, by omega, by omega⟩
    rw [Bk hc, Abo, h1]
   ·rw [List.take_length] at hI
    have e : Hb b p n = Sh p.As (isl b p (G4 b p n)).Ae := by unfold Hb; rw [if_pos hs]
    rw [e, ← hI.1]
    exact ⟨rfl, hI.2.1, by omega⟩
  ·have e : Hb b p n = 0 := by unfold Hb; rw [if_neg hs]
   rw [e]
   refine Ok.foldI0 (I := λ _ s => s = 0) rfl (λ j c s hc hI => ?_) λ s hI => ⟨hI, by omega, by omega⟩
   unfold Pw
   have e : decide (((isl b p (G4 b p n)).Ac.length : Int) > 0) = false := decide_eq_false (by omega)
   show Ok (bif decide (((isl b p (G4 b p n)).Ac.length : Int) > 0) then _ else _) _
   rw [e]
   exact Ok.next hI
 obtain ⟨r, e, h1, h2⟩ := key
 rw [h1] at e
 exact ⟨e, h2⟩
theorem Nn {b : Aa} (h : Ax b) {p : Ab} (hp : Aw b p) {n : Nat} (hn : n < b.Am.toNat) : U3 b p (n : Int) = some (Me b p n) /\ 0 <= Me b p n /\ Me b p n <= 400000 := by
 have hcl := h.sol
 have hlen : (isl b p (G4 b p n)).Ac.length <= b.Ac.length := Dj _ _
 have key : Ok (U3 b p (n : Int)) λ y => y = Me b p n /\ 0 <= Me b p n /\ Me b p n <= 400000 := by
  unfold U3
  have hof : Gm b p (n : Int) = some (isl b p (G4 b p n), true) := of_eq h hp hn
  rw [hof]
  simp only [Option.bind_some]
  refine Ok.andThen (A := λ s => s = Me b p n /\ 0 <= Me b p n /\ Me b p n <= 400000) (B := λ (_ : Unit) => False) ?_ (λ s hs => Ok.pure hs) (λ _ h => h.elim)
  refine Ok.foldI0 (I := λ j s => s = Sh (Aep b) ((isl b p (G4 b p n)).Ac.take j) /\ 0 <= s /\ s <= 50000 * (j : Int)) ⟨rfl, by omega, by omega⟩ (λ j c s hc hI => ?_) λ s hI => ?_
  ·obtain ⟨h1, h2, h3⟩ := hI
   have hj : j < (isl b p (G4 b p n)).Ac.length := (List.getElem?_eq_some_iff.1 hc).1
   have hcm := Ang (List.mem_of_getElem? hc)
   unfold Wy
   refine (Ok.getI hcm.1 hcm.2).bind λ y hy => ?_
   have hr := (h.so y (List.mem_of_getElem? hy)).1
   have e : (Aep b).getD c.toNat 0 = y.Rating := by simp [Aep, List.getD, hy]
   rw [Bf (by omega)]
   refine Ok.next ⟨?_, by omega, by omega⟩
   rw [Bk hc, Abo, h1, e]
  ·rw [List.take_length] at hI
   unfold Me
   rw [← hI.1]
   exact ⟨rfl, hI.2.1, by omega⟩
 obtain ⟨r, e, h1, h2⟩ := key
 rw [h1] at e
 exact ⟨e, h2⟩
def Mo (b : Aa) (p : Ab) (n : Nat) : Int := max 0 (Hb b p n - Me b p n)
theorem Ac1 {b : Aa} (h : Ax b) {p : Ab} (hp : Aw b p) (acts : List Ao) {n : Nat} (hn : n < b.Am.toNat) : Pu ⟨b, p, acts⟩ (n : Int) = some (Mo b p n) := by
 obtain ⟨h1, h2, h3⟩ := Wf h hp hn
 obtain ⟨h4, h5, h6⟩ := Nn h hp hn
 unfold Pu
 simp only [h1, h4, Option.bind_some]
 rw [Bf (by omega)]; rfl
theorem A0f {b : Aa} (h : Ax b) {p : Ab} (hp : Aw b p) {n : Nat} (hn : n < b.Am.toNat) : 0 <= Mo b p n /\ Mo b p n <= 800000 := by
 obtain ⟨h1, h2, h3⟩ := Wf h hp hn
 obtain ⟨h4, h5, h6⟩ := Nn h hp hn
 unfold Mo
 omega
def B4 (p : Ab) (L : List Int) : Ab := ⟨p.Ah, p.Ac, L, p.Aq⟩
def D2 (p : Ab) (C : List Bool) : Ab := ⟨C, p.Ac, p.As, p.Aq⟩
def Hc (b : Aa) (p : Ab) (n : Nat) (c : Int) : Int := min (Mo b p n) (p.As.getD c.toNat 0 - (b.Ae.getD c.toNat default).Least)
def I8 (b : Aa) (p : Ab) (n : Nat) (z : List Int × List Ao) (c : Int) : List Int × List Ao :=
 if 0 < Hc b (B4 p z.1) n c then (z.1.set c.toNat (z.1.getD c.toNat 0 - Hc b (B4 p z.1) n c), z.2 ++ [⟨5, c, z.1.getD c.toNat 0 - Hc b (B4 p z.1) n c⟩]) else z
def G3 (b : Aa) (p : Ab) (n : Nat) (l : List Int) (z : List Int × List Ao) : List Int × List Ao := l.foldl (I8 b p n) z
theorem Abt {b : Aa} {p : Ab} (hp : Aw b p) {c : Nat} {v : Int} (hv : 0 <= v /\ v <= (b.Ae.getD c default).Load) : Aw b (B4 p (p.As.set c v)) where
 ncl := hp.ncl
 nso := hp.nso
 nli := by simp [B4, hp.nli]
 run := hp.run
 lim i n x hn hx := by
  simp only [B4, List.getElem?_set] at hn
  by_cases e : c = i
  ·subst e
   have ex : b.Ae.getD c default = x := by simp [List.getD, hx]
   rw [ex] at hv
   rw [if_pos rfl] at hn
   split at hn
   ·cases hn; exact hv
   ·cases hn
  ·rw [if_neg e] at hn
   exact hp.lim i n x hn hx
 one := hp.one
 brk := hp.brk
theorem Ane {b : Aa} (h : Ax b) {p : Ab} {n : Nat} {z : List Int × List Ao} (hz : Aw b (B4 p z.1)) {c : Int} (h0 : 0 <= c) (h1 : c < b.Ae.length) : Aw b (B4 p (I8 b p n z c).1) := by
 unfold I8
 split
 ·rename_i hl
  obtain ⟨_, g2, g3, _⟩ := Ag3 h hz h0 h1
  have hco := (h.co c.toNat _ (Gi (b := b) (i := c.toNat) (by omega))).2.1
  have hm : Hc b (B4 p z.1) n c <= z.1.getD c.toNat 0 - (b.Ae.getD c.toNat default).Least := Int.min_le_right _ _
  exact Abt (p := B4 p z.1) hz (c := c.toNat) ⟨by omega, by
   have : (B4 p z.1).As.getD c.toNat 0 = z.1.getD c.toNat 0 := rfl
   omega⟩
 ·exact hz
theorem Ag2 {b : Aa} (h : Ax b) {p : Ab} (hp : Aw b p) {acts : List Ao} {l : List Int} (hl : ∀ c, c ∈ l -> 0 <= c /\ c < b.Ae.length) (ha : acts.length + l.length <= 100000) {n : Nat} (hn : n < b.Am.toNat) :
  Py ⟨b, p, acts⟩ l (n : Int) = some ⟨b, B4 p (G3 b p n l (p.As, acts)).1, (G3 b p n l (p.As, acts)).2⟩ /\ Aw b (B4 p (G3 b p n l (p.As, acts)).1) /\ (G3 b p n l (p.As, acts)).2.length <= acts.length + l.length := by
 have key : Ok (Py ⟨b, p, acts⟩ l (n : Int)) λ y => y = ⟨b, B4 p (G3 b p n l (p.As, acts)).1, (G3 b p n l (p.As, acts)).2⟩ /\ Aw b (B4 p (G3 b p n l (p.As, acts)).1) /\ (G3 b p n l (p.As, acts)).2.length <= acts.length + l.length := by
  unfold Py
  refine Ok.andThen (A := λ s => s = G3 b p n l (p.As, acts) /\ Aw b (B4 p s.1) /\ s.2.length <= acts.length + l.length) (B := λ (_ : Unit) => False) ?_ (λ s hs => ?_) (λ _ h => h.elim)
  ·refine Ok.foldI0 (I := λ j s => s = G3 b p n (l.take j) (p.As, acts) /\ Aw b (B4 p s.1) /\ s.2.length <= acts.length + j) ⟨rfl, hp, by simp⟩ (λ j c s hc hI => ?_) λ s hI => ?_
   ·obtain ⟨h1, h2, h3⟩ := hI
    have hj : j < l.length := (List.getElem?_eq_some_iff.1 hc).1
    have hin := hl c (List.mem_of_getElem? hc)
    obtain ⟨g1, g2, g3, g4⟩ := Ag3 h h2 hin.1 hin.2
    have hco := (h.co c.toNat _ (Gi (b := b) (i := c.toNat) (by omega))).2.1
    have hcl := (h.co c.toNat _ (Gi (b := b) (i := c.toNat) (by omega))).1
    have hex := A0f h h2 hn
    have hE := Ac1 h h2 s.2 hn
    have hsucc : G3 b p n (l.take (j + 1)) (p.As, acts) = I8 b p n s c := by
     rw [Bk hc, h1]; unfold G3; rw [List.foldl_append]; rfl
    have hok := Ane (n := n) h h2 hin.1 hin.2
    have hless : w64 ((B4 p s.1).As.getD c.toNat 0 - (b.Ae.getD c.toNat default).Least) = (B4 p s.1).As.getD c.toNat 0 - (b.Ae.getD c.toNat default).Least := Bf (by omega)
    have hlen : s.1.length = b.Ae.length := h2.nli
    unfold N8
    refine Ok.bind (P := λ y => y = Mo b (B4 p s.1) n) (Ok.of_eq hE rfl) λ y hy => ?_
    subst hy
    refine Ok.bind (P := λ y => y = (B4 p s.1).As.getD c.toNat 0) (Ok.of_eq g1 rfl) λ y hy => ?_
    subst hy
    refine Ok.bind (P := λ y => y = b.Ae.getD c.toNat default) (Ok.of_eq (A95 hin.1 hin.2) rfl) λ y hy => ?_
    subst hy
    have em : min (Mo b (B4 p s.1) n) (w64 ((B4 p s.1).As.getD c.toNat 0 - (b.Ae.getD c.toNat default).Least)) = Hc b (B4 p s.1) n c := by rw [hless]; rfl
    have hlb : 0 < Hc b (B4 p s.1) n c -> 0 <= (B4 p s.1).As.getD c.toNat 0 - Hc b (B4 p s.1) n c /\ (B4 p s.1).As.getD c.toNat 0 - Hc b (B4 p s.1) n c <= 50000 := λ hh => by
     have hm : Hc b (B4 p s.1) n c <= (B4 p s.1).As.getD c.toNat 0 - (b.Ae.getD c.toNat default).Least := Int.min_le_right _ _
     omega
    refine Ok.cond (λ hq => ?_) (λ hq => ?_)
    ·simp only [Re, em, decide_eq_true_eq, gt_iff_lt] at hq
     have hb2 := hlb hq
     rw [em, Bf (by omega)]
     have eS : I8 b p n s c = (s.1.set c.toNat (s.1.getD c.toNat 0 - Hc b (B4 p s.1) n c), s.2 ++ [⟨5, c, s.1.getD c.toNat 0 - Hc b (B4 p s.1) n c⟩]) := by unfold I8; rw [if_pos hq]
     refine (Ok.setI hin.1 (by omega)).bind λ y hy => ?_
     subst hy
     refine Ok.bind (P := λ v => v = s.1.getD c.toNat 0 - Hc b (B4 p s.1) n c) ?_ λ v hv => ?_
     ·refine (Ok.getI hin.1 (by rw [List.length_set]; omega)).mono λ v hv => ?_
      rw [List.getElem?_set_self (by omega)] at hv
      cases hv; rfl
     ·subst hv
      refine (Ok.appI (by simp; omega)).bind λ w hw => Ok.next ?_
      subst hw
      rw [hsucc, eS]
      rw [eS] at hok
      exact ⟨rfl, hok, by simp; omega⟩
    ·simp only [Re, em, decide_eq_false_iff_not, gt_iff_lt] at hq
     have eS : I8 b p n s c = s := by unfold I8; rw [if_neg hq]
     refine Ok.next ?_
     rw [hsucc, eS]
     exact ⟨rfl, h2, by show s.2.length <= _; omega⟩
   ·rw [List.take_length] at hI
    exact hI
  ·obtain ⟨h1, h2, h3⟩ := hs
   subst h1
   exact Ok.pure ⟨rfl, h2, h3⟩
 obtain ⟨r, e, h1, h2⟩ := key
 rw [h1] at e
 exact ⟨e, h2⟩
def isC (c : Int) (x : Ak) : Bool := x.Kind == 3 && x.B == c
theorem Ar2 {b : Aa} (h : Ax b) {p : Ab} (hp : Aw b p) {acts : List Ao} (ha : acts.length <= 100000) (c : Int) : U8 ⟨b, p, acts⟩ c = some (⟨b, D2 p (acC b p.Ah (isC c)), acts ++ acA b p.Ah (isC c)⟩, c) := by
 have hbl := h.brl
 have hnc := hp.ncl
 refine Ok.eq ?_
 unfold U8
 refine Ok.andThen (A := λ s => s = Cu b p.Ah (isC c) b.Af.length) (B := λ (_ : Unit) => False) ?_ (λ s hs => ?_) (λ _ h => h.elim)
 ·refine Ok.foldI0 (I := λ j s => s = Cu b p.Ah (isC c) j) rfl (λ j x s hx hs => ?_) λ s hs => hs
  have hj : j < b.Af.length := (List.getElem?_eq_some_iff.1 hx).1
  have hfl := Gh b p.Ah (isC c) j
  have hfs := Q6 (C := p.Ah) (q := isC c) hx
  subst hs
  unfold N_
  rw [C4 (by omega), Bm (Ua hp hj)]
  simp only [Option.bind_some]
  have e : Pt x c = isC c x := rfl
  rw [e, hfs]
  cases (p.Ah.getD j false && isC c x) with
  | false => refine Ok.next ?_; simp
  | true =>
   refine Ok.bind (P := λ y => y = Cu b p.Ah (isC c) j ++ [(j : Int)]) (Ok.appI (by simp; omega)) λ y hy => Ok.next ?_
   rw [hy]; simp
 ·subst hs
  have hfl := Gh b p.Ah (isC c) b.Af.length
  refine Ok.andThen (Yg (b := b) (p := p) (acts := acts) (l := Cu b p.Ah (isC c) b.Af.length) (by omega) λ i hi => ?_) (λ s hs => ?_) (λ _ h => h.elim)
  ·obtain ⟨k, rfl, hk, _⟩ := Je.1 hi
   omega
  ·subst hs
   exact Ok.pure rfl
def G7 (b : Aa) (p : Ab) (n : Nat) (z : List Bool × List Ao) (c : Int) : List Bool × List Ao :=
 if 0 < p.As.getD c.toNat 0 /\ 0 < Mo b (D2 p z.1) n then (acC b z.1 (isC c), z.2 ++ acA b z.1 (isC c)) else z
def Eb (b : Aa) (p : Ab) (n : Nat) (l : List Int) (z : List Bool × List Ao) : List Bool × List Ao := l.foldl (G7 b p n) z
theorem Al0 {b : Aa} (h : Ax b) {p : Ab} (hp : Aw b p) {acts : List Ao} {l : List Int} (hl : ∀ c, c ∈ l -> 0 <= c /\ c < b.Ae.length) (ha : acts.length + 24 * l.length <= 100000) {n : Nat} (hn : n < b.Am.toNat) :
  Px ⟨b, p, acts⟩ l (n : Int) = some ⟨b, D2 p (Eb b p n l (p.Ah, acts)).1, (Eb b p n l (p.Ah, acts)).2⟩ /\ Aw b (D2 p (Eb b p n l (p.Ah, acts)).1) /\ (Eb b p n l (p.Ah, acts)).2.length <= acts.length + 24 * l.length := by
 have hbl := h.brl
 have key : Ok (Px ⟨b, p, acts⟩ l (n : Int)) λ y => y = ⟨b, D2 p (Eb b p n l (p.Ah, acts)).1, (Eb b p n l (p.Ah, acts)).2⟩ /\ Aw b (D2 p (Eb b p n l (p.Ah, acts)).1) /\ (Eb b p n l (p.Ah, acts)).2.length <= acts.length + 24 * l.length := by
  unfold Px
  refine Ok.andThen (A := λ s => ∃ z : List Bool × List Ao, s = (b.Am, b.Af, b.Ac, b.Ae, b.Phase, b.Ap, z.1, p.Ac, p.As, p.Aq, z.2) /\ z = Eb b p n l (p.Ah, acts) /\ Aw b (D2 p z.1) /\ z.2.length <= acts.length + 24 * l.length) (B := λ (_ : Unit) => False) ?_ (λ s hs => ?_) (λ _ h => h.elim)
  ·refine Ok.foldI0 (I := λ j s => ∃ z : List Bool × List Ao, s = (b.Am, b.Af, b.Ac, b.Ae, b.Phase, b.Ap, z.1, p.Ac, p.As, p.Aq, z.2) /\ z = Eb b p n (l.take j) (p.Ah, acts) /\ Aw b (D2 p z.1) /\ z.2.length <= acts.length + 24 * j) ⟨(p.Ah, acts), rfl, rfl, hp, by simp⟩ (λ j c s hc hI => ?_) λ s hI => ?_
   ·obtain ⟨z, h0, h1, h2, h3⟩ := hI
    subst h0
    have hj : j < l.length := (List.getElem?_eq_some_iff.1 hc).1
    have hin := hl c (List.mem_of_getElem? hc)
    obtain ⟨g1, g2, g3, g4⟩ := Ag3 h hp hin.1 hin.2
    have hE := Ac1 h h2 z.2 hn
    have hsucc : Eb b p n (l.take (j + 1)) (p.Ah, acts) = G7 b p n z c := by
     rw [Bk hc, h1]; unfold Eb; rw [List.foldl_append]; rfl
    unfold N7
    refine Ok.bind (P := λ y => y = p.As.getD c.toNat 0) (Ok.of_eq g1 rfl) λ y hy => ?_
    subst hy
    have stay : ¬ (0 < p.As.getD c.toNat 0 /\ 0 < Mo b (D2 p z.1) n) -> ∃ w : List Bool × List Ao, (b.Am, b.Af, b.Ac, b.Ae, b.Phase, b.Ap, z.1, p.Ac, p.As, p.Aq, z.2) = (b.Am, b.Af, b.Ac, b.Ae, b.Phase, b.Ap, w.1, p.Ac, p.As, p.Aq, w.2) /\ w = Eb b p n (l.take (j + 1)) (p.Ah, acts) /\ Aw b (D2 p w.1) /\ w.2.length <= acts.length + 24 * (j + 1) := λ hh => by
     have eS : G7 b p n z c = z := by unfold G7; rw [if_neg hh]
     exact ⟨z, rfl, by rw [hsucc, eS], h2, by omega⟩
    cases hq : decide (p.As.getD c.toNat 0 > 0) with
    | false =>
     simp only [decide_eq_false_iff_not] at hq
     exact Ok.next (stay λ hh => hq hh.1)
    | true =>
     simp only [decide_eq_true_eq] at hq
     refine Ok.bind (P := λ y => y = Mo b (D2 p z.1) n) (Ok.of_eq hE rfl) λ y hy => ?_
     subst hy
     cases hq2 : decide (Mo b (D2 p z.1) n > 0) with
     | false =>
      simp only [decide_eq_false_iff_not] at hq2
      exact Ok.next (stay λ hh => hq2 hh.2)
     | true =>
      simp only [decide_eq_true_eq] at hq2
      have hS := Ar2 h h2 (acts := z.2) (by omega) c
      refine Ok.bind (P := λ y => y = _) (Ok.of_eq hS rfl) λ y hy => Ok.next ?_
      subst hy
      have eS : G7 b p n z c = (acC b z.1 (isC c), z.2 ++ acA b z.1 (isC c)) := by unfold G7; rw [if_pos ⟨hq, hq2⟩]
      refine ⟨(acC b z.1 (isC c), z.2 ++ acA b z.1 (isC c)), rfl, by rw [hsucc, eS], Ai0 h2 (isC c), ?_⟩
      have := Wo b z.1 (isC c)
      show (z.2 ++ acA b z.1 (isC c)).length <= _
      rw [List.length_append]; omega
   ·rw [List.take_length] at hI
    exact hI
  ·obtain ⟨z, h0, h1, h2, h3⟩ := hs
   subst h0; subst h1
   exact Ok.pure ⟨rfl, h2, h3⟩
 obtain ⟨r, e, h1, h2⟩ := key
 rw [h1] at e
 exact ⟨e, h2⟩
def Cx (x : Aj) (c : Int) : Bool := x.Ae.any (c == ·)
theorem Ayw {x : Aj} (hx : x.Ae.length <= 1000) (c : Int) : Pz c x = some (!Cx x c) := by
 unfold Pz
 rw [Dv _ _ (by omega)]; rfl
theorem Ac6 {x : Aj} (hx : x.Ae.length <= 1000) : ∀ (l : List Int) (k : Nat), foldI (K0 x) l k () = match l.findIdx? λ c => !Cx x c with
  | some j => some (.ret (cnt 0 (k + j), x))
  | none => some (.next ())
 | [], _ => rfl
 | c :: l, k => by
  simp only [foldI, K0, Ayw hx, Option.bind_some, List.findIdx?_cons]
  cases hq : (!Cx x c) with
  | true => rfl
  | false =>
   simp only [cond_false, Bool.false_eq_true, if_false]
   rw [Ac6 hx l (k + 1)]
   cases l.findIdx? λ c => !Cx x c with
   | none => rfl
   | some j =>
    have e : k + 1 + j = k + (j + 1) := by omega
    simp only [Option.map_some, e]
theorem A0k {x : Aj} (hx : x.Ae.length <= 1000) (l : List Int) (hl : l.length <= 1000) : U4 l x = some (l.filter (Cx x), x) := by
 refine Ok.eq ?_
 unfold U4 yC
 rw [Ac6 hx]
 cases hf : l.findIdx? λ c => !Cx x c with
 | none =>
  rw [List.findIdx?_eq_none_iff] at hf
  refine Ok.pure ?_
  have : l.filter (Cx x) = l := by
   rw [List.filter_eq_self]
   intro c hc
   have := hf c hc
   simpa using this
  rw [this]
 | some i =>
  rw [List.findIdx?_eq_some_iff_getElem] at hf
  obtain ⟨hi, hp, hn⟩ := hf
  have e0 : cnt 0 (0 + i) = (i : Int) := by rw [Nat.zero_add]; exact C4 (by omega)
  simp only [e0, andThen, Option.bind_some]
  refine Ok.cond (λ hc => ?_) (λ _ => ?_)
  ·simp only [beq_iff_eq] at hc; omega
  have e1 : w64 ((i : Int) + 1) = (i : Int) + 1 := Bf (by omega)
  rw [e1]
  refine Ok.andThen (A := λ s => 0 <= s.1 /\ s.1 <= (l.length : Int) /\ s.2.2.length = l.length /\ s.2.2.take s.1.toNat = l.filter (Cx x)) (B := λ (_ : Unit) => False) ?_ ?_ (λ _ h => h.elim)
  ·refine Ok.whileN (λ s => (0 <= s.1 /\ s.1 < s.2.1 /\ s.2.1 <= (l.length : Int)) /\ s.2.2.length = l.length /\ s.2.2.take s.1.toNat = (l.take s.2.1.toNat).filter (Cx x) /\ s.2.2.drop s.2.1.toNat = l.drop s.2.1.toNat) (λ s => ((l.length : Int) - s.2.1).toNat) _ _ ?_ ?_ ?_
   ·refine ⟨by dsimp only; omega, rfl, ?_, rfl⟩
    dsimp only
    have e2 : ((i : Int) + 1).toNat = i + 1 := by omega
    rw [e2, Int.toNat_natCast, Bk (List.getElem?_eq_getElem hi), List.filter_append]
    have h1 : (l.take i).filter (Cx x) = l.take i := by
     rw [List.filter_eq_self]
     intro c hc
     obtain ⟨j, hj, rfl⟩ := List.getElem_of_mem hc
     simp only [List.length_take] at hj
     rw [List.getElem_take]
     have := hn j (by omega)
     simpa using this
    have h2 : Cx x l[i] = false := by simpa using hp
    rw [h1]
    simp [h2]
   ·dsimp only; omega
   ·rintro ⟨a, j, m⟩ ⟨⟨h1, h2, h3⟩, h4, h5, h6⟩
    dsimp only at h1 h2 h3 h4 h5 h6
    unfold N9 Aic
    dsimp only
    refine Ok.cond (λ hq => ?_) (λ hq => ?_)
    ·simp only [decide_eq_true_eq] at hq
     have e1 : w64 (j + 1) = j + 1 := Bf (by omega)
     have e2 : w64 (a + 1) = a + 1 := Bf (by omega)
     have e3 : (j + 1).toNat = j.toNat + 1 := by omega
     have e4 : (a + 1).toNat = a.toNat + 1 := by omega
     refine (Ok.getI (by omega) (by omega)).bind λ y hy => ?_
     have hyl : l[j.toNat]? = some y := by
      have := congrArg (·[0]?) h6
      simp only [List.getElem?_drop, Nat.add_zero] at this
      rw [← this]; exact hy
     have hdrop : ∀ (q : List Int), q.drop j.toNat = l.drop j.toNat -> q.drop (j.toNat + 1) = l.drop (j.toNat + 1) := λ q hq => by
      rw [← List.drop_drop, hq, List.drop_drop]
     rw [Ayw hx]
     simp only [Option.bind_some, Bool.not_not]
     refine Ok.cond (λ hf => ?_) (λ hf => ?_)
     ·refine (Ok.getI (by omega) (by omega)).bind λ _ _ => (Ok.setI (by omega) (by omega)).bind λ z hz => ?_
      rw [e1, e2]
      subst hz
      refine Ok.next ⟨⟨by dsimp only; omega, by simpa using h4, ?_, ?_⟩, by dsimp only; omega⟩
      ·dsimp only
       rw [e3, e4, Bk hyl, List.filter_append, ← h5]
       rw [Bk (x := y) (by rw [List.getElem?_set_self (by omega)])]
       simp [hf, List.take_set_of_le]
      ·dsimp only
       rw [e3, List.drop_set_of_lt (by omega)]
       exact hdrop m h6
     ·rw [e1]
      refine Ok.next ⟨⟨by dsimp only; omega, h4, ?_, ?_⟩, by dsimp only; omega⟩
      ·dsimp only
       rw [e3, Bk hyl, List.filter_append, ← h5]
       simp [hf]
      ·dsimp only
       rw [e3]; exact hdrop m h6
    ·simp only [decide_eq_false_iff_not] at hq
     have e : j.toNat = l.length := by omega
     refine Ok.brk ⟨h1, by dsimp only; omega, h4, ?_⟩
     dsimp only
     rw [h5, e, List.take_length]
  ·rintro ⟨a, j, m⟩ ⟨h1, h2, h3, h4⟩
   dsimp only at h1 h2 h3 h4 ⊢
   have hc : (Gj m a.toNat ((Int.toNat (m.length : Int)) - a.toNat) (0 : Int)).length = l.length := by
    simp [Gj]; omega
   refine (Ok.bndI h1 (by omega) (by omega)).bind λ _ _ => (Ok.bndI (by omega) h1 (by rw [hc]; omega)).bind λ _ _ => Ok.pure ?_
   rw [← h4]
   unfold Gj
   rw [Nat.sub_zero, List.take_append_of_le_length (by simp; omega), List.take_take, Nat.min_self]
def Fm (b : Aa) (x : Aj) : List Int := (Jt b).filter (Cx x)
theorem O6 {b : Aa} (h : Ax b) {x : Aj} {c : Int} (hc : c ∈ Fm b x) : 0 <= c /\ c < b.Ae.length := A06 h (List.mem_filter.1 hc).1
theorem Agp {b : Aa} (h : Ax b) (x : Aj) : (Fm b x).length <= 16 := by
 have h1 := List.length_filter_le (Cx x) (Jt b)
 have h2 := zU h
 have h3 := h.col
 unfold Fm; omega
def Ou (x : Aj) : Nat := (x.Am.headD 0).toNat
def Fy (b : Aa) (x : Aj) (z : Ab × List Ao) : List Int × List Ao := G3 b z.1 (Ou x) (Fm b x) (z.1.As, z.2)
def Jq (b : Aa) (x : Aj) (z : Ab × List Ao) : List Bool × List Ao := Eb b (B4 z.1 (Fy b x z).1) (Ou x) (Fm b x) (z.1.Ah, (Fy b x z).2)
def Hf (b : Aa) (z : Ab × List Ao) (x : Aj) : Ab × List Ao :=
 if 0 < x.Ac.length then (D2 (B4 z.1 (Fy b x z).1) (Jq b x z).1, (Jq b x z).2) else z
def Gg (b : Aa) (l : List Aj) (z : Ab × List Ao) : Ab × List Ao := l.foldl (Hf b) z
structure Afa (b : Aa) (x : Aj) : Prop where
 cons : x.Ae.length <= 16
 ne : x.Am ≠ []
 bus : ∀ n, n ∈ x.Am -> 0 <= n /\ n < b.Am
theorem Ahb {b : Aa} (h : Ax b) {p : Ab} {x : Aj} (hx : x ∈ Bj b p) : Afa b x := by
 have hcl := h.col
 unfold Bj at hx
 obtain ⟨h1, h2⟩ := List.mem_filter.1 hx
 obtain ⟨f, hf, rfl⟩ := List.mem_map.1 h1
 have hc : (isl b p f).Ae.length <= b.Ae.length := Dj _ _
 refine ⟨by omega, λ e => ?_, λ n hn => ?_⟩
 ·unfold Ii at h2
  rw [e] at h2; simp at h2
 ·obtain ⟨k, hk, rfl⟩ := List.mem_map.1 hn
  have := List.mem_range.1 (List.mem_filter.1 hk).1
  omega
theorem Y0 {b : Aa} {x : Aj} (hx : Afa b x) : getI x.Am 0 = some ((Ou x : Nat) : Int) /\ Ou x < b.Am.toNat := by
 unfold Ou
 cases hb : x.Am with
 | nil => exact absurd hb hx.ne
 | cons n l =>
  have := hx.bus n (by rw [hb]; exact List.mem_cons_self)
  simp only [List.headD_cons]
  refine ⟨?_, by omega⟩
  have e : (n.toNat : Int) = n := by omega
  rw [e]; rfl
theorem Azp {b : Aa} (h : Ax b) {p : Ab} (hp : Aw b p) {acts : List Ao} (ha : acts.length <= 1000) :
  P1 ⟨b, p, acts⟩ = some ⟨b, (Gg b (Bj b p) (p, acts)).1, (Gg b (Bj b p) (p, acts)).2⟩ /\ Aw b (Gg b (Bj b p) (p, acts)).1 /\ (Gg b (Bj b p) (p, acts)).2.length <= 10000 := by
 have hil := Hz b p
 have hbu := h.buses
 have hcl := h.col
 have hol := zU h
 have key : Ok (P1 ⟨b, p, acts⟩) λ y => y = ⟨b, (Gg b (Bj b p) (p, acts)).1, (Gg b (Bj b p) (p, acts)).2⟩ /\ Aw b (Gg b (Bj b p) (p, acts)).1 /\ (Gg b (Bj b p) (p, acts)).2.length <= 10000 := by
  unfold P1
  simp only [(Yf h).1, Option.bind_some]
  have hi : F89 b p = some (Bj b p) := H0 h hp
  refine Ok.bind (P := λ y => y = Bj b p) (Ok.of_eq hi rfl) λ y hy => ?_
  subst hy
  refine Ok.andThen (A := λ s => ∃ z : Ab × List Ao, s = (b.Am, b.Af, b.Ac, b.Ae, b.Phase, b.Ap, z.1.Ah, z.1.Ac, z.1.As, z.1.Aq, z.2) /\ z = Gg b (Bj b p) (p, acts) /\ Aw b z.1 /\ z.2.length <= 10000) (B := λ (_ : Unit) => False) ?_ (λ s hs => ?_) (λ _ h => h.elim)
  ·refine Ok.foldI0 (I := λ j s => ∃ z : Ab × List Ao, s = (b.Am, b.Af, b.Ac, b.Ae, b.Phase, b.Ap, z.1.Ah, z.1.Ac, z.1.As, z.1.Aq, z.2) /\ z = Gg b ((Bj b p).take j) (p, acts) /\ Aw b z.1 /\ z.2.length <= 1000 + 400 * j) ⟨(p, acts), rfl, rfl, hp, by simpa using ha⟩ (λ j x s hx hI => ?_) λ s hI => ?_
   ·obtain ⟨z, h0, h1, h2, h3⟩ := hI
    subst h0
    have hj : j < (Bj b p).length := (List.getElem?_eq_some_iff.1 hx).1
    have hin := Ahb h (List.mem_of_getElem? hx)
    have hsucc : Gg b ((Bj b p).take (j + 1)) (p, acts) = Hf b z x := by
     rw [Bk hx, h1]; unfold Gg; rw [List.foldl_append]; rfl
    have hc := hin.cons
    have hol2 := Agp h x
    obtain ⟨e0, hb0⟩ := Y0 hin
    unfold Oe
    have ecl : Z2 (Jt b) = some (Jt b) := by
     unfold Z2
     rw [Lc (by omega)]
    rw [ecl]
    simp only [Option.bind_some]
    rw [A0k (by omega) _ (by omega)]
    simp only [Option.bind_some]
    refine Ok.cond (λ hq => ?_) (λ hq => ?_)
    ·simp only [decide_eq_true_eq] at hq
     rw [e0]
     simp only [Option.bind_some]
     obtain ⟨l1, l2, l3⟩ := Ag2 h h2 (acts := z.2) (l := Fm b x) (λ c hc => O6 h hc) (by omega) hb0
     refine Ok.bind (P := λ y => y = _) (Ok.of_eq l1 rfl) λ y hy => ?_
     subst hy
     obtain ⟨t1, t2, t3⟩ := Al0 h l2 (acts := (Fy b x z).2) (l := Fm b x) (λ c hc => O6 h hc) (by unfold Fy; omega) hb0
     refine Ok.bind (P := λ y => y = _) (Ok.of_eq t1 rfl) λ y hy => Ok.next ?_
     subst hy
     have eS : Hf b z x = (D2 (B4 z.1 (Fy b x z).1) (Jq b x z).1, (Jq b x z).2) := by unfold Hf; rw [if_pos (by omega)]
     refine ⟨(D2 (B4 z.1 (Fy b x z).1) (Jq b x z).1, (Jq b x z).2), rfl, by rw [hsucc, eS], t2, ?_⟩
     have t4 : (Jq b x z).2.length <= (Fy b x z).2.length + 24 * (Fm b x).length := t3
     have l4 : (Fy b x z).2.length <= z.2.length + (Fm b x).length := l3
     show (Jq b x z).2.length <= _
     omega
    ·simp only [decide_eq_false_iff_not] at hq
     have eS : Hf b z x = z := by unfold Hf; rw [if_neg (by omega)]
     exact Ok.next ⟨z, rfl, by rw [hsucc, eS], h2, by omega⟩
   ·rw [List.take_length] at hI
    obtain ⟨z, h0, h1, h2, h3⟩ := hI
    exact ⟨z, h0, h1, h2, by omega⟩
  ·obtain ⟨z, h0, h1, h2, h3⟩ := hs
   subst h0; subst h1
   exact Ok.pure ⟨rfl, h2, h3⟩
 obtain ⟨r, e, h1, h2⟩ := key
 rw [h1] at e
 exact ⟨e, h2⟩
def Agm (b : Aa) (p : Ab) : Ab × List Ao := Gg b (Bj b (Jg b p)) (Jg b p, Rb b p)
def Tg (b : Aa) (p : Ab) : Ab := (Agm b p).1
def Ej (b : Aa) (p : Ab) : List Ao := (Agm b p).2
theorem Lg {b : Aa} (h : Ax b) {p : Ab} (hp : Aw b p) : Ak1 b p = some (Tg b p, Ej b p, 0) /\ Aw b (Tg b p) /\ (Ej b p).length <= 10000 := by
 have hbl := h.brl
 have hcl := Ah9 b p
 obtain ⟨s1, s2, s3⟩ := Azp h (Anl hp) (acts := Rb b p) (by omega)
 refine ⟨?_, s2, s3⟩
 unfold Ak1 yB yA
 rw [C7 h hp, C_ h hp]
 simp only [Option.bind_some, bne_self_eq_false, cond_false]
 rw [Axv h hp]
 simp only [Option.bind_some]
 rw [s1]
 rfl
theorem A09 (b : Aa) : Abg b ⟨7, 0, 0⟩ = some true := rfl
theorem Ax3 {b : Aa} (h : Ax b) {p : A0} (hp : Aw b p.Power) (h1 : p.A5.length <= 1000) (h2 : p.A4.length <= 1000) : F63 b p = some ⟨p, b, [], []⟩ := by
 unfold F63 Aru F84
 rw [C_ h hp, Lc (by omega), Lc (by omega)]
 rfl
theorem Az2 {b : Aa} (h : Ax b) {r : A6} {p : Ab} (hp : Aw b p) (h1 : r.states.length <= 10000000) : vF r p = some ⟨r.Av, r.Al, r.events, r.states ++ [p]⟩ := by
 refine Ok.eq ?_
 unfold vF
 rw [C_ h hp]
 simp only [Option.bind_some]
 exact (Ok.appI (by simp; omega)).bind λ s hs => Ok.pure (by rw [hs])
theorem Aw3 {b : Aa} (h : Ax b) {r : A6} {p : Ab} (hp : Aw b r.Av.Power) (h1 : r.states.length <= 10000000) : vE r p = some ⟨r.Av, r.Al, r.events, r.states ++ [r.Av.Power]⟩ := by
 refine Ok.eq ?_
 unfold vE
 rw [C_ h hp]
 simp only [Option.bind_some]
 exact (Ok.appI (by simp; omega)).bind λ s hs => Ok.pure (by rw [hs])
theorem A04 : F13 = some true := by kernel_rfl
theorem Nw {α : Type} {f : Nat -> α -> Unit -> Option (Ctl Unit Bool)} {l m : List α} {e : α -> α -> Bool} (he : ∀ x y, e x y = true -> x = y)
  (hf : ∀ (j : Nat) x y, l[j]? = some x -> m[j]? = some y -> f j x () = bif !e x y then some (.ret false) else some (.next ())) (hl : l.length = m.length) :
  Ok (andThen (foldI f l 0 ()) some λ _ => some true) λ v => v = true -> l = m := by
 refine Ok.andThen (A := λ _ => l = m) (B := λ v => v = false) ?_ (λ _ hs => Ok.pure λ _ => hs) (λ v hv => Ok.pure λ hh => by rw [hv] at hh; cases hh)
 refine Ok.foldI0 (I := λ j _ => l.take j = m.take j) rfl (λ j x _ hx hI => ?_) λ _ hI => ?_
 ·have hj := (List.getElem?_eq_some_iff.1 hx).1
  have hy : m[j]? = some (m[j]'(by omega)) := List.getElem?_eq_getElem (by omega)
  rw [hf j x _ hx hy]
  refine Ok.cond (λ _ => Ok.ret rfl) (λ hq => Ok.next ?_)
  have := he _ _ (by simpa using hq)
  rw [Bk hx, Bk hy, hI, ← this]
 ·rw [List.take_length] at hI
  rw [hI, hl, List.take_length]
theorem A23 {l m : List Bool} (h : l.length <= 1000) : Ok (Z9 l m) λ v => v = true -> l = m := by
 unfold Z9
 refine Ok.cond (λ _ => Ok.pure λ hh => by cases hh) (λ hq => ?_)
 have hl : l.length = m.length := by simp only [bne_eq_false_iff_eq] at hq; omega
 refine Nw (e := λ x y => x == y) (λ x y hh => by simpa using hh) (λ j x y hx hy => ?_) hl
 have hj := (List.getElem?_eq_some_iff.1 hx).1
 unfold Qa
 rw [C4 (by omega), Bm hy]; rfl
theorem A22 {l m : List Int} (h : l.length <= 1000) : Ok (Z7 l m) λ v => v = true -> l = m := by
 unfold Z7
 refine Ok.cond (λ _ => Ok.pure λ hh => by cases hh) (λ hq => ?_)
 have hl : l.length = m.length := by simp only [bne_eq_false_iff_eq] at hq; omega
 refine Nw (e := λ x y => x == y) (λ x y hh => by simpa using hh) (λ j x y hx hy => ?_) hl
 have hj := (List.getElem?_eq_some_iff.1 hx).1
 unfold P9
 rw [C4 (by omega), Bm hy]; rfl
theorem A20 {l m : List Ag} (h : l.length <= 1000) : Ok (Z8 l m) λ v => v = true -> l = m := by
 unfold Z8
 refine Ok.cond (λ _ => Ok.pure λ hh => by cases hh) (λ hq => ?_)
 have hl : l.length = m.length := by simp only [bne_eq_false_iff_eq] at hq; omega
 refine Nw (e := λ x y => (x.State == y.State) && ((x.Since == y.Since) && ((x.Ap == y.Ap) && ((x.Phase == y.Phase) && true)))) (λ x y hh => ?_) (λ j x y hx hy => ?_) hl
 ·simp only [Bool.and_eq_true, beq_iff_eq] at hh
  obtain ⟨h1, h2, h3, h4, _⟩ := hh
  cases x; cases y; simp_all
 ·have hj := (List.getElem?_eq_some_iff.1 hx).1
  unfold P_
  rw [C4 (by omega), Bm hy]; rfl
theorem A21 {l m : List An} (h : l.length <= 1000) : Ok (Z6 l m) λ v => v = true -> l = m := by
 unfold Z6
 refine Ok.cond (λ _ => Ok.pure λ hh => by cases hh) (λ hq => ?_)
 have hl : l.length = m.length := by simp only [bne_eq_false_iff_eq] at hq; omega
 refine Nw (e := λ x y => (x.Kind == y.Kind) && ((x.Number == y.Number) && true)) (λ x y hh => ?_) (λ j x y hx hy => ?_) hl
 ·simp only [Bool.and_eq_true, beq_iff_eq] at hh
  obtain ⟨h1, h2, _⟩ := hh
  cases x; cases y; simp_all
 ·have hj := (List.getElem?_eq_some_iff.1 hx).1
  unfold P8
  rw [C4 (by omega), Bm hy]; rfl
def J7 (p q : Ab) : Bool := (F60 p q).getD false
theorem Azq {p : Ab} (hp : Ayb p) (q : Ab) : F60 p q = some (J7 p q) /\ (J7 p q = true -> p = q) := by
 have h1 := hp.c
 have h2 := hp.s
 have h3 := hp.l
 have h4 := hp.k
 have key : Ok (F60 p q) λ v => v = true -> p = q := by
  unfold F60
  refine (A23 (l := p.Ah) (m := q.Ah) (by omega)).bind λ v1 e1 => ?_
  cases v1 with
  | false => exact Ok.pure λ hh => by simp at hh
  | true =>
   refine Ok.bind (P := λ v => v = true -> p.Ac = q.Ac) (A20 (by omega)) λ v2 e2 => ?_
   cases v2 with
   | false => exact Ok.pure λ hh => by simp at hh
   | true =>
    refine Ok.bind (P := λ v => v = true -> p.As = q.As) (A22 (by omega)) λ v3 e3 => ?_
    cases v3 with
    | false => exact Ok.pure λ hh => by simp at hh
    | true =>
     refine Ok.bind (P := λ v => v = true -> p.Aq = q.Aq) (A21 (by omega)) λ v4 e4 => Ok.pure λ hh => ?_
     have w1 := e1 rfl
     have w2 := e2 rfl
     have w3 := e3 rfl
     have w4 := e4 (by simpa using hh)
     cases p; cases q; simp_all
 obtain ⟨r, e, hr⟩ := key
 have : J7 p q = r := by unfold J7; rw [e]; rfl
 rw [this]
 exact ⟨e, hr⟩
def ap (p : Ab) (x : Ao) : Ab := if x.Kind = 2 then D2 p (p.Ah.set x.Unit.toNat false) else B4 p (p.As.set x.Unit.toNat x.Value)
def Ary (b : Aa) (x : Ao) : Prop := (x.Kind = 2 /\ 0 <= x.Unit /\ x.Unit < b.Af.length) \/ (x.Kind = 5 /\ (0 <= x.Unit /\ x.Unit < b.Ae.length) /\ 0 <= x.Value /\ x.Value <= (b.Ae.getD x.Unit.toNat default).Load)
theorem Azf {b : Aa} {p : Ab} (hp : Aw b p) {x : Ao} (hx : Ary b x) : Aw b (ap p x) := by
 unfold ap
 rcases hx with ⟨hk, _⟩ | ⟨hk, h1, h2⟩
 ·rw [if_pos hk]; exact Apb hp _
 ·rw [if_neg (by omega)]; exact Abt hp h2
def Ep (b : Aa) (p : Ab) (z : Ab × List Ao) : Prop := z.2.foldl ap p = ⟨z.1.Ah, p.Ac, z.1.As, p.Aq⟩ /\ ∀ x, x ∈ z.2 -> Ary b x
theorem Aiz {p q : Ab} : ∀ (l : List Int) (C : List Bool), q = D2 p C -> (Ka l).foldl ap q = D2 p (G_ C l)
 | [], C, hq => hq
 | i :: l, C, hq => by
  subst hq
  exact Aiz l (C.set i.toNat false) rfl
theorem yI {b : Aa} {p : Ab} {z : Ab × List Ao} (hz : Ep b p z) (q : Ak -> Bool) (S : List Ag) : Ep b p (⟨acC b z.1.Ah q, S, z.1.As, z.1.Aq⟩, z.2 ++ acA b z.1.Ah q) := by
 refine ⟨?_, λ x hx => ?_⟩
 ·dsimp only
  rw [List.foldl_append, hz.1]
  exact Aiz (p := ⟨z.1.Ah, p.Ac, z.1.As, p.Aq⟩) (Cu b z.1.Ah q b.Af.length) z.1.Ah rfl
 ·rcases List.mem_append.1 hx with hx | hx
  ·exact hz.2 x hx
  ·obtain ⟨i, hi, rfl⟩ := List.mem_map.1 hx
   obtain ⟨k, rfl, hk, _⟩ := Je.1 hi
   exact .inl ⟨rfl, by dsimp only; omega, by dsimp only; omega⟩
theorem A60 {b : Aa} {p q r : Ab} {l : List Ao} (hz : Ep b p (q, l)) (h1 : r.Ah = q.Ah) (h2 : r.As = q.As) : Ep b p (r, l) := by
 refine ⟨?_, hz.2⟩
 have := hz.1
 dsimp only at this ⊢
 rw [this, h1, h2]
theorem Ar1 {b : Aa} (h : Ax b) {p q : Ab} (n : Nat) : ∀ (l : List Int) (z : List Int × List Ao), (∀ c, c ∈ l -> 0 <= c /\ c < b.Ae.length) -> Aw b (B4 q z.1) -> Ep b p (B4 q z.1, z.2) -> Ep b p (B4 q (G3 b q n l z).1, (G3 b q n l z).2)
 | [], _, _, _, hz => hz
 | c :: l, z, hl, hs, hz => by
  have hin := hl c List.mem_cons_self
  have hok := Ane (n := n) h hs hin.1 hin.2
  refine Ar1 h n l (I8 b q n z c) (λ d hd => hl d (List.mem_cons_of_mem _ hd)) hok ?_
  unfold I8 at hok ⊢
  split
  ·rename_i hq
   rw [if_pos hq] at hok
   obtain ⟨_, w2, w3, _⟩ := Ag3 h hok hin.1 hin.2
   have hlen : z.1.length = b.Ae.length := hs.nli
   have ev : ∀ v : Int, (z.1.set c.toNat v).getD c.toNat 0 = v := λ v => by rw [Ty, if_pos ⟨rfl, by omega⟩]
   have w2' : 0 <= (z.1.set c.toNat (z.1.getD c.toNat 0 - Hc b (B4 q z.1) n c)).getD c.toNat 0 := w2
   have w3' : (z.1.set c.toNat (z.1.getD c.toNat 0 - Hc b (B4 q z.1) n c)).getD c.toNat 0 <= (b.Ae.getD c.toNat default).Load := w3
   rw [ev] at w2' w3'
   refine ⟨?_, λ x hx => ?_⟩
   ·dsimp only
    rw [List.foldl_append, hz.1]; rfl
   ·rcases List.mem_append.1 hx with hx | hx
    ·exact hz.2 x hx
    ·simp only [List.mem_singleton] at hx
     subst hx
     exact .inr ⟨rfl, hin, w2', w3'⟩
  ·exact hz
theorem Al1 {b : Aa} {p q : Ab} (n : Nat) : ∀ (l : List Int) (z : List Bool × List Ao), Ep b p (D2 q z.1, z.2) -> Ep b p (D2 q (Eb b q n l z).1, (Eb b q n l z).2)
 | [], _, hz => hz
 | c :: l, z, hz => by
  refine Al1 n l (G7 b q n z c) ?_
  unfold G7
  split
  ·exact yI (z := (D2 q z.1, z.2)) hz (isC c) q.Ac
  ·exact hz
theorem Azs {b : Aa} (h : Ax b) {x : Aj} (hx : Afa b x) {p : Ab} {z : Ab × List Ao} (hs : Aw b z.1) (ha : z.2.length <= 10000) (hz : Ep b p z) : Aw b (Hf b z x).1 /\ Ep b p (Hf b z x) /\ (Hf b z x).2.length <= z.2.length + 400 := by
 have hol2 := Agp h x
 obtain ⟨e0, hb0⟩ := Y0 hx
 unfold Hf
 split
 ·obtain ⟨_, l2, l3⟩ := Ag2 h hs (acts := z.2) (l := Fm b x) (λ c hc => O6 h hc) (by omega) hb0
  obtain ⟨_, t2, t3⟩ := Al0 h l2 (acts := (Fy b x z).2) (l := Fm b x) (λ c hc => O6 h hc) (by unfold Fy; omega) hb0
  have t4 : (Jq b x z).2.length <= (Fy b x z).2.length + 24 * (Fm b x).length := t3
  have l4 : (Fy b x z).2.length <= z.2.length + (Fm b x).length := l3
  refine ⟨t2, ?_, by dsimp only; omega⟩
  have hl : Ep b p (B4 z.1 (Fy b x z).1, (Fy b x z).2) := Ar1 h (Ou x) (Fm b x) (z.1.As, z.2) (λ c hc => O6 h hc) hs hz
  exact Al1 (Ou x) (Fm b x) (z.1.Ah, (Fy b x z).2) hl
 ·exact ⟨hs, hz, by omega⟩
theorem Am6 {b : Aa} (h : Ax b) {p : Ab} : ∀ (l : List Aj) (z : Ab × List Ao), (∀ x, x ∈ l -> Afa b x) -> Aw b z.1 -> z.2.length + 400 * l.length <= 10000 -> Ep b p z -> Ep b p (Gg b l z)
 | [], _, _, _, _, hz => hz
 | x :: l, z, hl, hs, ha, hz => by
  rw [List.length_cons] at ha
  obtain ⟨h1, h2, h3⟩ := Azs h (hl x List.mem_cons_self) hs (by omega) hz
  exact Am6 h l (Hf b z x) (λ y hy => hl y (List.mem_cons_of_mem _ hy)) h1 (by omega) h2
theorem A4t {b : Aa} (p : Ab) : Ep b p (Jg b p, Rb b p) := by
 have h0 : Ep b p (p, []) := ⟨rfl, λ x hx => by cases hx⟩
 have h1 := yI h0 (C6 p) p.Ac
 have h2 := yI h1 (Ee b (Ij b p)) p.Ac
 exact A60 h2 rfl rfl
theorem A05 {b : Aa} (h : Ax b) {p : Ab} (hp : Aw b p) : Ep b p (Tg b p, Ej b p) := by
 have hil := Hz b (Jg b p)
 have hbu := h.buses
 have hbl := h.brl
 have hcl := Ah9 b p
 exact Am6 h (Bj b (Jg b p)) (Jg b p, Rb b p) (λ x hx => Ahb h hx) (Anl hp) (by dsimp only; omega) (A4t p)
def Fh : List Ao -> Ab -> List Ab
 | [], _ => []
 | x :: l, p => ap p x :: Fh l (ap p x)
theorem Kn : ∀ (l : List Ao) (p : Ab), (Fh l p).length = l.length
 | [], _ => rfl
 | x :: l, p => by simp [Fh, Kn l]
theorem qK : ∀ (l : List Ao) (x : Ao) (p : Ab), Fh (l ++ [x]) p = Fh l p ++ [ap (l.foldl ap p) x]
 | [], _, _ => rfl
 | y :: l, x, p => by
  show ap p y :: Fh (l ++ [x]) (ap p y) = _
  rw [qK l x]; rfl
def Bx (b : Aa) (p : Ab) (t : Int) (a : Ao) : Ab × Int := (F83 b p t a).getD default
theorem Aax {b : Aa} (h : Ax b) {p : Ab} (hp : Aw b p) (t : Int) (a : Ao) : F83 b p t a = some (Bx b p t a) /\ ((Bx b p t a).2 ≠ 0 \/ Aw b (Bx b p t a).1) := by
 obtain ⟨r, e, hr⟩ := A48 h hp t a
 have : Bx b p t a = r := by unfold Bx; rw [e]; rfl
 rw [this]
 exact ⟨e, hr.imp (·.1) (·.2)⟩
def Mq (b : Aa) (p : Ab) (t : Int) (a : Ao) : Int := if a.Kind = 7 then 1 else (Bx b p t a).2
def H8 (b : Aa) (p : Ab) (t : Int) (a : Ao) : Ab := (Bx b p t a).1
def doP (b : Aa) (p : Ab) (t : Int) (a : Ao) : Ab := if Mq b p t a = 0 then Tg b (H8 b p t a) else p
def doE (b : Aa) (p : Ab) (t : Int) (a : Ao) : List A9 := ⟨t, a, Mq b p t a⟩ :: if Mq b p t a = 0 then (Ej b (H8 b p t a)).map (λ x => ⟨t, x, 0⟩) else []
def Qv (b : Aa) (p : Ab) (t : Int) (a : Ao) : Ab := (Ej b (H8 b p t a)).foldl ap (H8 b p t a)
def doS (b : Aa) (p : Ab) (t : Int) (a : Ao) : List Ab :=
 if Mq b p t a = 0 then [H8 b p t a] ++ Fh (Ej b (H8 b p t a)) (H8 b p t a) ++ (if J7 (Qv b p t a) (doP b p t a) = true then [] else [doP b p t a]) else []
theorem T6 {b : Aa} (h : Ax b) {p : Ab} (hp : Aw b p) {t : Int} {a : Ao} (he : Mq b p t a = 0) : Aw b (H8 b p t a) /\ (Bx b p t a).2 = 0 /\ a.Kind ≠ 7 := by
 unfold Mq at he
 by_cases hk : a.Kind = 7
 ·rw [if_pos hk] at he; omega
 ·rw [if_neg hk] at he
  rcases (Aax h hp t a).2 with h1 | h1
  ·exact absurd he h1
  ·exact ⟨h1, he, hk⟩
theorem qX {b : Aa} (h : Ax b) {p : Ab} (hp : Aw b p) (t : Int) (a : Ao) : Aw b (doP b p t a) := by
 unfold doP
 split
 ·rename_i he
  exact (Lg h (T6 h hp he).1).2.1
 ·exact hp
theorem Qy {b : Aa} (h : Ax b) {r : A6} {p : Ab} (hp : Aw b p) (h1 : r.states.length <= 10000000) : N2 r p = some ⟨r.Av, r.Al, r.events, r.states ++ [p]⟩ := by
 refine Ok.eq ?_
 unfold N2
 rw [C_ h hp]
 simp only [Option.bind_some]
 exact (Ok.appI (by simp; omega)).bind λ s hs => Ok.pure (by rw [hs])
theorem Am9 {r : A6} (h1 : r.events.length <= 10000000) (a : Ao) (e : Int) : P7 r a e = some ⟨r.Av, r.Al, r.events ++ [⟨r.Av.Time, a, e⟩], r.states⟩ := by
 refine Ok.eq ?_
 unfold P7
 exact (Ok.appI (by simp; omega)).bind λ s hs => Ok.pure (by rw [hs])
theorem yK {b : Aa} : ∀ (l : List Ao) {p : Ab}, Aw b p -> (∀ x, x ∈ l -> Ary b x) -> Aw b (l.foldl ap p)
 | [], _, hp, _ => hp
 | x :: l, p, hp, hl => yK l (Azf hp (hl x List.mem_cons_self)) λ y hy => hl y (List.mem_cons_of_mem _ hy)
theorem A6o {b : Aa} (h : Ax b) {T : Int} {P : Ab} {ros : List Az} {evs ev : List A9} {sts : List Ab} (hp : Aw b P) (h1 : ev.length <= 1000000) (h2 : sts.length <= 1000000) (a : Ao) :
  Ww ⟨⟨T, P, ros, evs⟩, b, ev, sts⟩ a = some ⟨⟨T, doP b P T a, ros, evs⟩, b, ev ++ doE b P T a, sts ++ doS b P T a⟩ := by
 obtain ⟨ha, _⟩ := Aax h hp T a
 refine Ok.eq ?_
 unfold Ww
 simp only [ha, Option.bind_some]
 refine Ok.andThen (A := λ s => s = Mq b P T a) (B := λ (_ : Unit) => False) ?_ (λ s hs => ?_) (λ _ h => h.elim)
 ·unfold Zt Mq
  refine Ok.cond (λ hq => Ok.nextE ?_) (λ hq => Ok.nextE ?_)
  ·rw [if_pos (by simpa using hq)]
  ·rw [if_neg (by simpa using hq)]
 subst hs
 rw [Am9 (by dsimp only; omega)]
 simp only [Option.bind_some]
 refine Ok.cond (λ hq => Ok.pure ?_) (λ hq => ?_)
 ·have he : ¬ Mq b P T a = 0 := by simpa using hq
  unfold doP doE doS
  rw [if_neg he, if_neg he, if_neg he]; simp
 have he : Mq b P T a = 0 := by simpa using hq
 obtain ⟨hn, _, _⟩ := T6 h hp he
 have hn' : Aw b (Bx b P T a).1 := hn
 rw [Qy h hn' (by dsimp only; omega)]
 simp only [Option.bind_some]
 obtain ⟨p1, p2, p3⟩ := Lg h hn'
 rw [p1]
 simp only [Option.bind_some]
 have htr := A05 h hn'
 have eP : doP b P T a = Tg b (Bx b P T a).1 := by unfold doP H8; rw [if_pos he]
 have eE : doE b P T a = ⟨T, a, 0⟩ :: (Ej b (Bx b P T a).1).map (λ x => ⟨T, x, 0⟩) := by unfold doE H8; rw [if_pos he, he]
 have eL : Qv b P T a = (Ej b (Bx b P T a).1).foldl ap (Bx b P T a).1 := rfl
 refine Ok.andThen (A := λ s => ∃ q : Ab, q = Qv b P T a /\ s = (T, b.Am, b.Af, b.Ac, b.Ae, b.Phase, b.Ap, P.Ah, P.Ac, P.As, P.Aq, ros, evs, q.Ah, ev ++ doE b P T a, sts ++ ([(Bx b P T a).1] ++ Fh (Ej b (Bx b P T a).1) (Bx b P T a).1), q.As)) (B := λ (_ : Unit) => False) ?_ (λ s hs => ?_) (λ _ h => h.elim)
 ·refine Ok.foldI0 (I := λ j s => ∃ q : Ab, q = ((Ej b (Bx b P T a).1).take j).foldl ap (Bx b P T a).1 /\ (q.Ac = (Bx b P T a).1.Ac /\ q.Aq = (Bx b P T a).1.Aq) /\ s = (T, b.Am, b.Af, b.Ac, b.Ae, b.Phase, b.Ap, P.Ah, P.Ac, P.As, P.Aq, ros, evs, q.Ah, ev ++ (⟨T, a, 0⟩ :: ((Ej b (Bx b P T a).1).take j).map (λ x => (⟨T, x, 0⟩ : A9))), sts ++ ([(Bx b P T a).1] ++ Fh ((Ej b (Bx b P T a).1).take j) (Bx b P T a).1), q.As)) ⟨(Bx b P T a).1, rfl, ⟨rfl, rfl⟩, ?_⟩ (λ j x s hx hI => ?_) λ s hI => ?_
  ·simp [Fh, he]
  ·obtain ⟨q, hq1, ⟨hq2, hq3⟩, rfl⟩ := hI
   have hj : j < (Ej b (Bx b P T a).1).length := (List.getElem?_eq_some_iff.1 hx).1
   have hin := htr.2 x (List.mem_of_getElem? hx)
   have hqok : Aw b q := by
    rw [hq1]
    exact yK _ hn' λ y hy => htr.2 y (List.mem_of_mem_take hy)
   have hapok := Azf hqok hin
   have hcl := hqok.ncl
   have hli := hqok.nli
   unfold Rx
   refine Ok.bind (P := λ y => y = _) (Ok.of_eq (Am9 (r := ⟨⟨T, P, ros, evs⟩, b, ev ++ (⟨T, a, 0⟩ :: ((Ej b (Bx b P T a).1).take j).map (λ x => (⟨T, x, 0⟩ : A9))), sts ++ ([(Bx b P T a).1] ++ Fh ((Ej b (Bx b P T a).1).take j) (Bx b P T a).1)⟩) (by simp; omega) x 0) rfl) λ y hy => ?_
   subst hy
   have hfold : ((Ej b (Bx b P T a).1).take (j + 1)).foldl ap (Bx b P T a).1 = ap q x := by rw [Bk hx, List.foldl_append, ← hq1]; rfl
   have hint : Fh ((Ej b (Bx b P T a).1).take (j + 1)) (Bx b P T a).1 = Fh ((Ej b (Bx b P T a).1).take j) (Bx b P T a).1 ++ [ap q x] := by rw [Bk hx, qK, ← hq1]
   refine Ok.cond (λ hk => ?_) (λ hk => ?_)
   ·have hk2 : x.Kind = 2 := by simpa using hk
    have hx1 : 0 <= x.Unit /\ x.Unit < b.Af.length := by
     rcases hin with ⟨_, h3⟩ | ⟨h3, _⟩
     ·exact h3
     ·omega
    have eA : ap q x = ⟨q.Ah.set x.Unit.toNat false, (Bx b P T a).1.Ac, q.As, (Bx b P T a).1.Aq⟩ := by
     unfold ap; rw [if_pos hk2, ← hq2, ← hq3]; rfl
    refine (Ok.getI (l := q.Ah) hx1.1 (by omega)).bind λ _ _ => (Ok.setI (l := q.Ah) hx1.1 (by omega)).bind λ C hC => ?_
    subst hC
    refine Ok.bind (P := λ y => y = _) (Ok.of_eq (Qy h (r := ⟨⟨T, P, ros, evs⟩, b, (ev ++ (⟨T, a, 0⟩ :: ((Ej b (Bx b P T a).1).take j).map (λ x => (⟨T, x, 0⟩ : A9)))) ++ [⟨T, x, 0⟩], sts ++ ([(Bx b P T a).1] ++ Fh ((Ej b (Bx b P T a).1).take j) (Bx b P T a).1)⟩) (p := ⟨q.Ah.set x.Unit.toNat false, (Bx b P T a).1.Ac, q.As, (Bx b P T a).1.Aq⟩) (by rw [← eA]; exact hapok) (by simp [Kn]; omega)) rfl) λ y hy => Ok.next ?_
    subst hy
    refine ⟨ap q x, hfold.symm, by rw [eA]; exact ⟨rfl, rfl⟩, ?_⟩
    rw [hint, eA, Bk hx]
    simp
   ·have hk2 : ¬ x.Kind = 2 := by simpa using hk
    have hx1 : 0 <= x.Unit /\ x.Unit < b.Ae.length := by
     rcases hin with ⟨h3, _⟩ | ⟨_, h3, _⟩
     ·omega
     ·exact h3
    have eA : ap q x = ⟨q.Ah, (Bx b P T a).1.Ac, q.As.set x.Unit.toNat x.Value, (Bx b P T a).1.Aq⟩ := by
     unfold ap; rw [if_neg hk2, ← hq2, ← hq3]; rfl
    refine (Ok.getI (l := q.As) hx1.1 (by omega)).bind λ _ _ => (Ok.setI (l := q.As) hx1.1 (by omega)).bind λ C hC => ?_
    subst hC
    refine Ok.bind (P := λ y => y = _) (Ok.of_eq (Qy h (r := ⟨⟨T, P, ros, evs⟩, b, (ev ++ (⟨T, a, 0⟩ :: ((Ej b (Bx b P T a).1).take j).map (λ x => (⟨T, x, 0⟩ : A9)))) ++ [⟨T, x, 0⟩], sts ++ ([(Bx b P T a).1] ++ Fh ((Ej b (Bx b P T a).1).take j) (Bx b P T a).1)⟩) (p := ⟨q.Ah, (Bx b P T a).1.Ac, q.As.set x.Unit.toNat x.Value, (Bx b P T a).1.Aq⟩) (by rw [← eA]; exact hapok) (by simp [Kn]; omega)) rfl) λ y hy => Ok.next ?_
    subst hy
    refine ⟨ap q x, hfold.symm, by rw [eA]; exact ⟨rfl, rfl⟩, ?_⟩
    rw [hint, eA, Bk hx]
    simp
  ·obtain ⟨q, hq1, _, rfl⟩ := hI
   rw [List.take_length] at hq1 ⊢
   exact ⟨q, hq1, by rw [eE]⟩
 ·obtain ⟨q, hq, rfl⟩ := hs
  have hqok : Aw b q := by rw [hq, eL]; exact yK _ hn' htr.2
  have hqS : q = ⟨q.Ah, (Bx b P T a).1.Ac, q.As, (Bx b P T a).1.Aq⟩ := by
   have h3 := htr.1
   rw [← eL, ← hq] at h3
   rw [h3]
  have hsm := Azq (hqok.lens h) (Tg b (Bx b P T a).1)
  have hsm1 := hsm.1
  rw [hqS] at hsm1
  have e6 : J7 ⟨q.Ah, (Bx b P T a).1.Ac, q.As, (Bx b P T a).1.Aq⟩ (Tg b (Bx b P T a).1) = J7 (Qv b P T a) (doP b P T a) := by rw [← hqS, hq, eP]
  refine Ok.bind (P := λ y => y = J7 (Qv b P T a) (doP b P T a)) (Ok.of_eq hsm1 e6) λ y hy => ?_
  subst hy
  have eD : doS b P T a = [(Bx b P T a).1] ++ Fh (Ej b (Bx b P T a).1) (Bx b P T a).1 ++ (if J7 (Qv b P T a) (doP b P T a) = true then [] else [doP b P T a]) := by unfold doS H8; rw [if_pos he]
  cases hsb : J7 (Qv b P T a) (doP b P T a) with
  | false =>
   rw [hsb] at eD
   refine Ok.bind (P := λ y => y = _) (Ok.of_eq (Qy h (r := ⟨⟨T, P, ros, evs⟩, b, ev ++ doE b P T a, sts ++ ([(Bx b P T a).1] ++ Fh (Ej b (Bx b P T a).1) (Bx b P T a).1)⟩) p2 (by simp [Kn]; omega)) rfl) λ y hy => Ok.pure ?_
   subst hy
   rw [eD, eP]
   simp
  | true =>
   rw [hsb] at eD
   refine Ok.pure ?_
   rw [eD, eP]
   simp
end Go.Proofs.YthgnbpdjncbkfaaGreat
