import Derived.Test.YthgnbpdjncbkfaaGreatMo
import Derived.Test.YthgnbpdjncbkfaaGreatHo
namespace Go.Proofs.YthgnbpdjncbkfaaGreat
open Go.SL
theorem tmod_range {x n : Int} (h : 0 < n) : -n < Int.tmod x n /\ Int.tmod x n < n := by
 have h1 := Int.tmod_lt_of_pos x h
 have h2 := Int.lt_tmod_of_pos x h
 exact ⟨h2, h1⟩
theorem tmod_nn {x n : Int} (h : 0 < n) (h0 : 0 <= x) : 0 <= Int.tmod x n /\ Int.tmod x n < n := ⟨Int.tmod_nonneg n h0, (tmod_range h).2⟩
structure SrcOk (s : dynposmake_Src) : Prop where
 lo : 0 <= s.At
 hi : s.At <= s.L.length
 len : s.L.length <= 600
def InR (n r : Int) : Prop := (1 <= n -> 0 <= r /\ r < n) /\ (n < 1 -> r = 0)
theorem Mod_ok (x n : Int) (h : n <= 4611686018427387904) : Ok (F80 x n) (InR n) := by
 unfold F80
 refine Ok.cond (fun h1 => ?_) fun h1 => ?_
 ·simp only [decide_eq_true_eq] at h1
  exact Ok.pure ⟨fun h2 => by omega, fun _ => rfl⟩
 ·simp only [decide_eq_false_iff_not] at h1
  refine (Ok.nzI (by omega)).bind fun _ _ => (Ok.nzI (by omega)).bind fun _ _ => Ok.pure ⟨fun _ => ?_, fun h2 => by omega⟩
  have h2 := tmod_range (x := x) (n := n) (by omega)
  rw [wI (by omega)]
  exact tmod_nn (by omega) (by omega)
theorem N_ok {s : dynposmake_Src} (hs : SrcOk s) (n : Int) (h : n <= 4611686018427387904) : Ok (F32 s n) fun y => SrcOk y.2 /\ InR n y.1 := by
 obtain ⟨h1, h2, h3⟩ := hs
 unfold F32
 refine Ok.cond (fun h4 => ?_) fun h4 => ?_
 ·exact Ok.pure ⟨⟨h1, h2, h3⟩, fun h5 => ⟨by simp, by show (0 : Int) < n; omega⟩, fun _ => rfl⟩
 ·simp only [decide_eq_false_iff_not] at h4
  have e : w64 (s.At + 1) = s.At + 1 := wI (by omega)
  rw [e, wI (n := s.At + 1 - 1) (by omega)]
  refine (Ok.getI (by omega) (by omega)).bind fun x _ => (Mod_ok x n h).bind fun r hr => Ok.pure ⟨⟨?_, ?_, h3⟩, hr⟩
  ·show 0 <= s.At + 1; omega
  ·show s.At + 1 <= (s.L.length : Int); omega
theorem N_pos {s : dynposmake_Src} (hs : SrcOk s) (n : Int) (h0 : 1 <= n) (h : n <= 4611686018427387904) : Ok (F32 s n) fun y => SrcOk y.2 /\ 0 <= y.1 /\ y.1 < n :=
 (N_ok hs n h).mono fun _ h => ⟨h.1, h.2.1 h0⟩
theorem Range_ok {s : dynposmake_Src} (hs : SrcOk s) (lo hi : Int) (h : lo <= hi) (h0 : -1000000000000 <= lo) (h1 : hi <= 1000000000000) : Ok (F78 s lo hi) fun y => SrcOk y.2 /\ lo <= y.1 /\ y.1 <= hi := by
 unfold F78
 have e : w64 (w64 (hi - lo) + 1) = hi - lo + 1 := by rw [wI (n := hi - lo) (by omega), wI (by omega)]
 rw [e]
 refine (N_pos hs _ (by omega) (by omega)).bind fun y hy => Ok.pure ⟨hy.1, ?_⟩
 have := hy.2
 show lo <= w64 (lo + y.1) /\ w64 (lo + y.1) <= hi
 rw [wI (by omega)]
 omega
theorem Pick_ok {s : dynposmake_Src} (hs : SrcOk s) (l : List Int) (h : 1 <= l.length) (h1 : l.length <= 1000) : Ok (F40 s l) fun y => SrcOk y.2 /\ y.1 ∈ l := by
 unfold F40
 refine (N_pos hs _ (by omega) (by omega)).bind fun y hy => ?_
 have := hy.2
 refine (Ok.getI (by omega) (by omega)).bind fun x hx => Ok.pure ⟨hy.1, List.mem_of_getElem? hx⟩
theorem New_ok (l : List Int) : Ok (F8 l) SrcOk := by
 unfold F8
 refine (Ok.cutI (by omega) (by omega) (by omega)).bind fun y hy => Ok.pure ⟨by simp, by simp, ?_⟩
 subst hy
 simp only [List.length_drop, List.length_take]
 omega
def BrOk (nb : Int) (ns nc : Nat) (x : api_Breaker) : Prop :=
 (0 <= x.A /\ x.A < nb) /\ ((x.Kind = 1 /\ x.A < x.B /\ x.B < nb) \/ (x.Kind = 2 /\ 0 <= x.B /\ x.B < ns) \/ (x.Kind = 3 /\ 0 <= x.B /\ x.B < nc))
def brs (l : List api_Breaker) (k : Int) (i : Nat) : List api_Breaker := l.filter fun x => x.Kind == k && x.B == (i : Int)
def SoOk (x : api_Source) : Prop := (1 <= x.Rating /\ x.Rating <= 50000) /\ (0 <= x.Least /\ x.Least <= x.Rating) /\ 0 <= x.Start /\ x.Start <= 600
def CoOk (i : Nat) (x : api_Consumer) : Prop :=
 (0 <= x.Load /\ x.Load <= 50000) /\ (0 <= x.Least /\ x.Least <= x.Load) /\ (0 <= x.Preference /\ x.Preference <= 15) /\ (-1 <= x.Thruster /\ x.Thruster <= 7) /\ x.Needs.length <= 4 /\
 (∀ n, n ∈ x.Needs -> 0 <= n /\ n < (i : Int)) /\ ∀ (j : Nat) a b, x.Needs[j]? = some a -> x.Needs[j + 1]? = some b -> a < b
structure BoardOk (b : api_Board) : Prop where
 buses : 1 <= b.Buses /\ b.Buses <= 6
 brl : b.Breakers.length <= 24
 sol : b.Sources.length <= 8
 col : b.Consumers.length <= 16
 phase : 0 <= b.Phase /\ b.Phase <= 1800
 freq : 0 <= b.Frequency /\ b.Frequency <= 6000
 br : ∀ x, x ∈ b.Breakers -> BrOk b.Buses b.Sources.length b.Consumers.length x
 one : ∀ i, i < b.Sources.length -> (brs b.Breakers 2 i).length = 1
 any : ∀ i, i < b.Consumers.length -> brs b.Breakers 3 i ≠ []
 nodup : ∀ i, ((brs b.Breakers 3 i).map (·.A)).Nodup
 so : ∀ x, x ∈ b.Sources -> SoOk x
 co : ∀ (i : Nat) x, b.Consumers[i]? = some x -> CoOk i x
theorem brs_append (l m : List api_Breaker) (k : Int) (i : Nat) : brs (l ++ m) k i = brs l k i ++ brs m k i := by unfold brs; rw [List.filter_append]
theorem brs_one (x : api_Breaker) (k : Int) (i : Nat) : brs [x] k i = if x.Kind = k /\ x.B = (i : Int) then [x] else [] := by
 unfold brs
 simp only [List.filter_cons, List.filter_nil, Bool.and_eq_true, beq_iff_eq]
theorem brs_none {l : List api_Breaker} {k : Int} {i : Nat} (h : ∀ x, x ∈ l -> x.Kind = k -> x.B ≠ (i : Int)) : brs l k i = [] := by
 unfold brs
 rw [List.filter_eq_nil_iff]
 intro x hx
 simp only [Bool.and_eq_true, beq_iff_eq, not_and]
 exact h x hx
def Ties (nb : Int) (l : List api_Breaker) : Prop := ∀ x, x ∈ l -> x.Kind = 1 /\ 0 <= x.A /\ x.A < x.B /\ x.B < nb
structure Gens (nb : Int) (l : List api_Breaker) (so : List api_Source) : Prop where
 len : l.length <= 4 + so.length
 br : ∀ x, x ∈ l -> (0 <= x.A /\ x.A < nb) /\ ((x.Kind = 1 /\ x.A < x.B /\ x.B < nb) \/ (x.Kind = 2 /\ 0 <= x.B /\ x.B < so.length))
 one : ∀ i, i < so.length -> (brs l 2 i).length = 1
 so : ∀ x, x ∈ so -> SoOk x
structure Cons (nb : Int) (l : List api_Breaker) (ns : Nat) (co : List api_Consumer) : Prop where
 len : l.length <= 4 + ns + 2 * co.length
 br : ∀ x, x ∈ l -> BrOk nb ns co.length x
 one : ∀ i, i < ns -> (brs l 2 i).length = 1
 any : ∀ i, i < co.length -> brs l 3 i ≠ []
 nodup : ∀ i, ((brs l 3 i).map (·.A)).Nodup
 co : ∀ (i : Nat) x, co[i]? = some x -> CoOk i x /\ x.Thruster <= 2
theorem Gens.cons {nb : Int} {l : List api_Breaker} {so : List api_Source} (h : Gens nb l so) : Cons nb l so.length [] where
 len := by have := h.len; simp; omega
 br x hx := by
  obtain ⟨h1, h2⟩ := h.br x hx
  exact ⟨h1, h2.imp id .inl⟩
 one := h.one
 any i hi := by simp at hi
 nodup i := by
  rw [brs_none]
  ·simp
  ·intro x hx h3
   obtain ⟨_, h2⟩ := h.br x hx
   omega
 co i x hx := by simp at hx
theorem Gens.add {nb : Int} {l : List api_Breaker} {so : List api_Source} (h : Gens nb l so) {x : api_Breaker} {y : api_Source} (hx : x.Kind = 2 /\ x.B = so.length /\ 0 <= x.A /\ x.A < nb) (hy : SoOk y) : Gens nb (l ++ [x]) (so ++ [y]) where
 len := by have := h.len; simp; omega
 br z hz := by
  rcases List.mem_append.1 hz with hz | hz
  ·obtain ⟨h1, h2⟩ := h.br z hz
   refine ⟨h1, ?_⟩
   rw [List.length_append]
   simp only [List.length_cons, List.length_nil]
   omega
  ·simp at hz; subst hz
   refine ⟨hx.2.2, .inr ⟨hx.1, ?_⟩⟩
   rw [List.length_append]
   simp only [List.length_cons, List.length_nil]
   omega
 one i hi := by
  rw [List.length_append] at hi
  simp only [List.length_cons, List.length_nil] at hi
  rw [brs_append, brs_one, List.length_append]
  by_cases e : i = so.length
  ·rw [brs_none, if_pos ⟨hx.1, by omega⟩]
   ·rfl
   ·intro z hz h2
    obtain ⟨_, h3⟩ := h.br z hz
    omega
  ·rw [h.one i (by omega), if_neg (by omega)]; rfl
 so z hz := by
  rcases List.mem_append.1 hz with hz | hz
  ·exact h.so z hz
  ·simp at hz; subst hz; exact hy
theorem Cons.add {nb : Int} {l m : List api_Breaker} {ns : Nat} {co : List api_Consumer} (h : Cons nb l ns co) {y : api_Consumer} (hm : ∀ x, x ∈ m -> x.Kind = 3 /\ x.B = co.length /\ 0 <= x.A /\ x.A < nb) (h1 : m ≠ []) (h2 : m.length <= 2) (h3 : (m.map (·.A)).Nodup)
  (hy : CoOk co.length y /\ y.Thruster <= 2) : Cons nb (l ++ m) ns (co ++ [y]) := by
 have e1 : brs m 3 co.length = m := by
  unfold brs
  rw [List.filter_eq_self]
  intro x hx
  obtain ⟨g1, g2, _⟩ := hm x hx
  simp [g1, g2]
 have e2 : ∀ i, i ≠ co.length -> brs m 3 i = [] := fun i hi => brs_none fun x hx _ e => by
  have := (hm x hx).2.1
  omega
 have e3 : brs l 3 co.length = [] := brs_none fun x hx h3 e => by
  obtain ⟨_, g⟩ := h.br x hx
  omega
 have hlen : (co ++ [y]).length = co.length + 1 := by simp
 refine ⟨?_, fun z hz => ?_, fun i hi => ?_, fun i hi => ?_, fun i => ?_, fun i x hx => ?_⟩
 ·have := h.len
  rw [List.length_append, hlen]; omega
 ·rw [hlen]
  rcases List.mem_append.1 hz with hz | hz
  ·obtain ⟨g1, g2⟩ := h.br z hz
   exact ⟨g1, by omega⟩
  ·obtain ⟨g1, g2, g3⟩ := hm z hz
   exact ⟨g3, by omega⟩
 ·have : brs m 2 i = [] := brs_none fun x hx h2 => by have := (hm x hx).1; omega
  rw [brs_append, this, List.append_nil]
  exact h.one i hi
 ·rw [brs_append]
  rw [hlen] at hi
  by_cases e : i = co.length
  ·subst e; rw [e1]; simp [h1]
  ·have := h.any i (by omega)
   simp [this]
 ·rw [brs_append]
  by_cases e : i = co.length
  ·subst e; rw [e1, e3]; simpa using h3
  ·rw [e2 i e, List.append_nil]; exact h.nodup i
 ·rw [List.getElem?_append] at hx
  split at hx
  ·exact h.co i x hx
  ·rename_i hi
   have : i = co.length := by
    have := (List.getElem?_eq_some_iff.1 hx).1
    simp at this; omega
   subst this
   simp at hx; subst hx; exact hy
theorem Ties.nil (nb : Int) : Ties nb [] := fun x hx => by cases hx
theorem Ties.add {nb : Int} {l : List api_Breaker} (h : Ties nb l) {x : api_Breaker} (hx : x.Kind = 1 /\ 0 <= x.A /\ x.A < x.B /\ x.B < nb) : Ties nb (l ++ [x]) := fun z hz => by
 rcases List.mem_append.1 hz with hz | hz
 ·exact h z hz
 ·simp at hz; subst hz; exact hx
theorem Ties.gens {nb : Int} {l : List api_Breaker} (h : Ties nb l) (hl : l.length <= 4) : Gens nb l [] where
 len := by simpa using hl
 br x hx := by have := h x hx; exact ⟨by omega, .inl (by omega)⟩
 one i hi := by simp at hi
 so x hx := by cases hx
theorem board_l0 {y : Int × dynposmake_Src} (hy : 1 <= y.1 /\ y.1 <= 4) {s0 : dynposmake_Src} (hs0 : SrcOk s0) :
  Ok (whileN (F29_l0 y) 1152921504606846976 (1, s0.L, s0.At, ([] : List api_Breaker))) (EndsSo (fun s => SrcOk ⟨s.2.1, s.2.2.1⟩ /\ Ties y.1 s.2.2.2 /\ s.2.2.2.length <= 3) (fun (_ : Unit) => False)) := by
 refine Ok.whileN (fun s => (1 <= s.1 /\ s.1 <= 4 /\ s.1 <= y.1) /\ SrcOk ⟨s.2.1, s.2.2.1⟩ /\ Ties y.1 s.2.2.2 /\ (s.2.2.2.length : Int) + 1 <= s.1) (fun s => (y.1 - s.1).toNat) _ _ ?_ ?_ ?_
 ·exact ⟨by dsimp only; omega, hs0, Ties.nil _, by simp⟩
 ·dsimp only; omega
 ·rintro ⟨i, L, a, l⟩ ⟨⟨h1, h2, h3⟩, h4, h5, h6⟩
  dsimp only at h1 h2 h3 h4 h5 h6
  unfold F29_l0
  refine Ok.cond (fun h => ?_) (fun h => ?_)
  ·simp only [decide_eq_true_eq] at h
   have e : w64 (i + 1) = i + 1 := wI (by omega)
   dsimp only
   rw [e]
   refine (N_pos h4 6 (by omega) (by omega)).bind fun u hu => Ok.cond (fun _ => ?_) (fun _ => ?_)
   ·refine (N_pos hu.1 i h1 (by omega)).bind fun v hv => (Ok.appI (by simp; omega)).bind fun m hm => Ok.next ?_
    subst hm
    have := hv.2
    refine ⟨⟨by dsimp only; omega, hv.1, h5.add ⟨rfl, by dsimp only; omega, by dsimp only; omega, by dsimp only; omega⟩, by simp; omega⟩, by dsimp only; omega⟩
   ·refine Ok.next ⟨⟨by dsimp only; omega, hu.1, h5, by dsimp only; omega⟩, by dsimp only; omega⟩
  ·exact Ok.brk ⟨h4, h5, by dsimp only; omega⟩
theorem board_l2 {y : Int × dynposmake_Src} (hy : 1 <= y.1 /\ y.1 <= 4) {s0 : dynposmake_Src} (hs0 : SrcOk s0) {k : Int} (hk : 0 <= k /\ k < 5) {l0 : List api_Breaker} (hl0 : Gens y.1 l0 []) :
  Ok (whileN (F29_l2 y) 1152921504606846976 (k, s0.L, s0.At, l0, ([] : List api_Source))) (EndsSo (fun s => SrcOk ⟨s.2.1, s.2.2.1⟩ /\ Gens y.1 s.2.2.2.1 s.2.2.2.2 /\ s.2.2.2.2.length <= 4) (fun (_ : Unit) => False)) := by
 refine Ok.whileN (fun s => (0 <= s.1 /\ s.1 + (s.2.2.2.2.length : Int) <= 4) /\ SrcOk ⟨s.2.1, s.2.2.1⟩ /\ Gens y.1 s.2.2.2.1 s.2.2.2.2) (fun s => s.1.toNat) _ _ ?_ ?_ ?_
 ·exact ⟨by simp; omega, hs0, hl0⟩
 ·dsimp only; omega
 ·rintro ⟨i, L, a, l, so⟩ ⟨⟨h1, h2⟩, h4, h5⟩
  dsimp only at h1 h2 h4 h5
  unfold F29_l2
  refine Ok.cond (fun h => ?_) (fun h => ?_)
  ·simp only [decide_eq_true_eq] at h
   have e : w64 (i - 1) = i - 1 := wI (by omega)
   have hl := h5.len
   dsimp only
   rw [e]
   refine (N_pos h4 y.1 hy.1 (by omega)).bind fun u hu => (Ok.appI (by simp; omega)).bind fun m hm => ?_
   refine (Pick_ok hu.1 _ (by simp) (by simp)).bind fun v hv => (Pick_ok hv.1 _ (by simp) (by simp)).bind fun p hp => (Pick_ok hp.1 _ (by simp) (by simp)).bind fun q hq => (Ok.appI (by simp; omega)).bind fun o ho => Ok.next ?_
   subst hm; subst ho
   have g1 := hu.2
   have g2 : v.1 = 10 \/ v.1 = 50 \/ v.1 = 100 := by simpa using hv.2
   have g3 : p.1 = 0 \/ p.1 = 5 \/ p.1 = v.1 := by simpa using hp.2
   have g4 : q.1 = 0 \/ q.1 = 1 \/ q.1 = 3 := by simpa using hq.2
   refine ⟨⟨by simp; omega, hq.1, h5.add ⟨rfl, rfl, g1⟩ ⟨by dsimp only; omega, by dsimp only; omega, by dsimp only; omega⟩⟩, by dsimp only; omega⟩
  ·exact Ok.brk ⟨h4, h5, by dsimp only; omega⟩
theorem half_in {x : Int} (h : 0 <= x) (h2 : x <= 50000) : 0 <= w64 (Int.tdiv x 2) /\ w64 (Int.tdiv x 2) <= x := by
 have : Int.tdiv x 2 = x / 2 := Int.tdiv_eq_ediv_of_nonneg h
 rw [this, wI (by omega)]
 omega
theorem third_in {x : Int} (h : 0 <= x) (h2 : x <= 50000) : 0 <= w64 (Int.tdiv x 3) /\ w64 (Int.tdiv x 3) <= x := by
 have : Int.tdiv x 3 = x / 3 := Int.tdiv_eq_ediv_of_nonneg h
 rw [this, wI (by omega)]
 omega
theorem board_l3 {y : Int × dynposmake_Src} (hy : 1 <= y.1 /\ y.1 <= 4) {s0 : dynposmake_Src} (hs0 : SrcOk s0) {k : Int} (hk : 0 <= k /\ k < 6) {ns : Nat} (hns : ns <= 4) {l0 : List api_Breaker} (hl0 : Cons y.1 l0 ns []) :
  Ok (whileN (F29_l3 y) 1152921504606846976 (k, s0.L, s0.At, l0, ([] : List api_Consumer))) (EndsSo (fun s => SrcOk ⟨s.2.1, s.2.2.1⟩ /\ Cons y.1 s.2.2.2.1 ns s.2.2.2.2 /\ s.2.2.2.2.length <= 5) (fun (_ : Unit) => False)) := by
 refine Ok.whileN (fun s => (0 <= s.1 /\ s.1 + (s.2.2.2.2.length : Int) <= 5) /\ SrcOk ⟨s.2.1, s.2.2.1⟩ /\ Cons y.1 s.2.2.2.1 ns s.2.2.2.2) (fun s => s.1.toNat) _ _ ?_ ?_ ?_
 ·exact ⟨by simp; omega, hs0, hl0⟩
 ·dsimp only; omega
 ·rintro ⟨i, L, a, l, co⟩ ⟨⟨h1, h2⟩, h4, h5⟩
  dsimp only at h1 h2 h4 h5
  unfold F29_l3
  refine Ok.cond (fun h => ?_) (fun h => ?_)
  ·simp only [decide_eq_true_eq] at h
   have e : w64 (i - 1) = i - 1 := wI (by omega)
   have hl := h5.len
   dsimp only
   rw [e]
   refine (N_pos h4 y.1 hy.1 (by omega)).bind fun u hu => (Ok.appI (by simp; omega)).bind fun m hm => ?_
   subst hm
   have g1 := hu.2
   refine Ok.bind (P := fun v => SrcOk v.2) (Ok.guard (fun _ => (N_pos hu.1 4 (by omega) (by omega)).mono fun _ h => h.1) fun _ => hu.1) fun v hv => ?_
   refine Ok.inner (A := fun (r : List api_Breaker) => ∃ m, r = l ++ m /\ (∀ x, x ∈ m -> x.Kind = 3 /\ x.B = co.length /\ 0 <= x.A /\ x.A < y.1) /\ m ≠ [] /\ m.length <= 2 /\ (m.map (·.A)).Nodup) (B := fun (_ : Unit) => False) ?_ (fun r hr => ?_) (fun _ h => h.elim)
   ·unfold F29_m4
    refine Ok.cond (fun hc => ?_) (fun hc => ?_)
    ·simp only [Bool.and_eq_true, decide_eq_true_eq] at hc
     have e2 : w64 (u.1 + 1) = u.1 + 1 := wI (by omega)
     rw [e2]
     refine (Ok.nzI (by omega)).bind fun _ _ => (Ok.appI (by simp; omega)).bind fun m hm => Ok.nextE ?_
     subst hm
     have g2 := tmod_nn (x := u.1 + 1) (n := y.1) (by omega) (by omega)
     have g3 : Int.tmod (u.1 + 1) y.1 ≠ u.1 := by
      rw [Int.tmod_eq_emod_of_nonneg (by omega)]
      intro e3
      by_cases g4 : u.1 + 1 = y.1
      ·rw [g4, Int.emod_self] at e3; omega
      ·rw [Int.emod_eq_of_lt (by omega) (by omega)] at e3; omega
     refine ⟨_, List.append_assoc _ _ _, ?_, by simp, by simp, ?_⟩
     ·intro x hx
      simp at hx
      rcases hx with rfl | rfl
      ·exact ⟨rfl, rfl, g1⟩
      ·exact ⟨rfl, rfl, g2⟩
     ·simp
      exact fun h => g3 h.symm
    ·exact Ok.nextE ⟨_, rfl, fun x hx => by simp at hx; subst hx; exact ⟨rfl, rfl, g1⟩, by simp, by simp, by simp⟩
   ·obtain ⟨m, rfl, hm, hm1, hm2, hm3⟩ := hr
    refine (Pick_ok hv _ (by simp) (by simp)).bind fun p hp => (Pick_ok hp.1 _ (by simp) (by simp)).bind fun q hq => (N_pos hq.1 3 (by omega) (by omega)).bind fun pr hpr => (Range_ok hpr.1 (-1) 2 (by omega) (by omega) (by omega)).bind fun th hth => ?_
    have k1 : p.1 = 0 \/ p.1 = 5 \/ p.1 = 20 \/ p.1 = 40 := by simpa using hp.2
    have k2 : q.1 = 0 \/ q.1 = w64 (Int.tdiv p.1 2) \/ q.1 = p.1 := by simpa using hq.2
    have k3 := half_in (x := p.1) (by omega) (by omega)
    have k4 := hpr.2
    have k5 := hth.2
    refine Ok.bind (P := fun v => SrcOk v.2) (Ok.guard (fun _ => (N_pos hth.1 4 (by omega) (by omega)).mono fun _ h => h.1) fun _ => hth.1) fun w hw => Ok.cond (fun hc => ?_) (fun hc => ?_)
    ·simp only [c29_2, Bool.and_eq_true, decide_eq_true_eq] at hc
     refine (N_pos hw _ (by omega) (by omega)).bind fun n hn => (Ok.appI (by simp; omega)).bind fun o ho => Ok.next ?_
     subst ho
     have k6 := hn.2
     refine ⟨⟨by simp; omega, hn.1, h5.add hm hm1 hm2 hm3 ⟨⟨by dsimp only; omega, by dsimp only; omega, by dsimp only; omega, by dsimp only; omega, by simp, ?_, ?_⟩, by dsimp only; omega⟩⟩, by dsimp only; omega⟩
     ·intro z hz; simp at hz; subst hz; exact k6
     ·intro j a b ha hb
      simp at hb
    ·refine (Ok.appI (by simp; omega)).bind fun o ho => Ok.next ?_
     subst ho
     refine ⟨⟨by simp; omega, hw, h5.add hm hm1 hm2 hm3 ⟨⟨by dsimp only; omega, by dsimp only; omega, by dsimp only; omega, by dsimp only; omega, by simp, ?_, ?_⟩, by dsimp only; omega⟩⟩, by dsimp only; omega⟩
     ·intro z hz; simp at hz
     ·intro j a b ha hb; simp at ha
  ·exact Ok.brk ⟨h4, h5, by dsimp only; omega⟩
structure Made (b : api_Board) : Prop where
 ok : BoardOk b
 buses : b.Buses <= 4
 brl : b.Breakers.length <= 18
 sol : b.Sources.length <= 4
 col : b.Consumers.length <= 5
 thr : ∀ x, x ∈ b.Consumers -> x.Thruster <= 2
theorem Board_ok {s : dynposmake_Src} (hs : SrcOk s) : Ok (F29 s) fun y => Made y.1 /\ SrcOk y.2 := by
 unfold F29
 refine (Range_ok hs 1 4 (by omega) (by omega) (by omega)).bind fun y1 h1 => (Pick_ok h1.1 _ (by simp) (by simp)).bind fun y3 h3 => (Pick_ok h3.1 _ (by simp) (by simp)).bind fun y5 h5 => ?_
 refine (board_l0 h1.2 h5.1).andThen (fun s0 hs0 => ?_) (fun _ h => h.elim)
 refine Ok.bind (P := fun v => SrcOk v.2) (Ok.guard (fun _ => (N_pos hs0.1 2 (by omega) (by omega)).mono fun _ h => h.1) fun _ => hs0.1) fun y15 h15 => ?_
 have hb := h1.2
 refine Ok.andThen (A := fun (l : List api_Breaker) => Ties y1.1 l /\ l.length <= 4) (B := fun (_ : Unit) => False) ?_ (fun l hl => ?_) (fun _ h => h.elim)
 ·unfold F29_m1
  refine Ok.cond (fun hc => ?_) (fun hc => Ok.nextE ⟨hs0.2.1, by omega⟩)
  simp only [Bool.and_eq_true, decide_eq_true_eq] at hc
  have e : w64 (y1.1 - 1) = y1.1 - 1 := wI (by omega)
  rw [e]
  have := hs0.2.2
  refine (Ok.appI (by simp; omega)).bind fun m hm => Ok.nextE ?_
  subst hm
  exact ⟨hs0.2.1.add ⟨rfl, by simp, by dsimp only; omega, by dsimp only; omega⟩, by simp; omega⟩
 ·refine (N_pos h15 5 (by omega) (by omega)).bind fun y20 h20 => ?_
  refine (board_l2 h1.2 h20.1 h20.2 (hl.1.gens hl.2)).andThen (fun s2 hs2 => ?_) (fun _ h => h.elim)
  refine (N_pos hs2.1 6 (by omega) (by omega)).bind fun y35 h35 => ?_
  refine (board_l3 h1.2 h35.1 h35.2 hs2.2.2 hs2.2.1.cons).andThen (fun s3 hs3 => Ok.pure ⟨?_, hs3.1⟩) (fun _ h => h.elim)
  obtain ⟨_, hc, hl5⟩ := hs3
  have hl4 := hs2.2.2
  have hlen := hc.len
  have p3 : y3.1 = 0 \/ y3.1 = 50 \/ y3.1 = 200 \/ y3.1 = 1800 := by simpa using h3.2
  have p5 : y5.1 = 0 \/ y5.1 = 10 \/ y5.1 = 50 := by simpa using h5.2
  refine ⟨⟨by dsimp only; omega, by dsimp only; omega, by dsimp only; omega, by dsimp only; omega, by dsimp only; omega, by dsimp only; omega, hc.br, hc.one, hc.any, hc.nodup, hs2.2.1.so, fun i x hx => (hc.co i x hx).1⟩, by dsimp only; omega, by dsimp only; omega, hl4, hl5, fun x hx => ?_⟩
  obtain ⟨i, hi⟩ := List.getElem?_of_mem hx
  exact (hc.co i x hi).2
theorem in_iff (x lo hi : Int) : F99 x lo hi = true ↔ lo <= x /\ x <= hi := by
 simp [F99]
theorem in_t {x lo hi : Int} (h : lo <= x /\ x <= hi) : F99 x lo hi = true := (in_iff x lo hi).2 h
theorem contains_int (l : List Int) (x : Int) (h : l.length <= 9223372036854775807) : F190 l x = some (l.any (x == ·)) := by
 unfold F190 F227
 rw [search_eq (fun y => x == y) (fun i y => rfl) l h]
 simp only [Option.bind_some, idxI_any]
theorem containsNil (l : List (List Int)) (h : l.length <= 9223372036854775807) : F191s0 l = some (l.any fun x => (x.length : Int) == 0) := by
 unfold F191s0 F228s0
 rw [search_eq (fun y => (y.length : Int) == 0) (fun i y => rfl) l h]
 simp only [Option.bind_some, idxI_any]
theorem breakers_ok {b : api_Board} (h : BoardOk b) : Ok (F136 b) (· = true) := by
 unfold F136
 have hs := h.sol
 have hc := h.col
 have hb := h.buses
 refine (Ok.mkI (by omega) (by omega)).bind fun ys hys => (Ok.mkI (by omega) (by omega)).bind fun zs hzs => ?_
 rw [Int.toNat_natCast] at hys hzs
 refine Ok.andThen (A := fun s => s.1 = (List.range b.Sources.length).map (fun i => ((brs b.Breakers 2 i).length : Int)) /\ s.2 = (List.range b.Consumers.length).map (fun i => (brs b.Breakers 3 i).map (·.A))) (B := fun _ => False) ?_ ?_ (fun _ h => h.elim)
 ·refine Ok.foldI0 (I := fun j s => s.1 = (List.range b.Sources.length).map (fun i => ((brs (b.Breakers.take j) 2 i).length : Int)) /\ s.2 = (List.range b.Consumers.length).map (fun i => (brs (b.Breakers.take j) 3 i).map (·.A))) ?_ ?_ ?_
  ·exact ⟨by rw [hys, rep_range]; rfl, by rw [hzs, rep_range]; rfl⟩
  ·rintro j x ⟨us, vs⟩ hx ⟨hu, hv⟩
   dsimp only at hu hv
   subst hu; subst hv
   have hmem := List.mem_of_getElem? hx
   obtain ⟨⟨a0, a1⟩, hk⟩ := h.br x hmem
   have htk : ∀ k i, brs (b.Breakers.take (j + 1)) k i = brs (b.Breakers.take j) k i ++ if x.Kind = k /\ x.B = (i : Int) then [x] else [] := fun k i => by rw [take_succ' hx, brs_append, brs_one]
   have hall : ∀ k i, brs b.Breakers k i = brs (b.Breakers.take (j + 1)) k i ++ brs (b.Breakers.drop (j + 1)) k i := fun k i => by rw [← brs_append, List.take_append_drop]
   unfold F136_l0
   have e1 : w64 (b.Buses - 1) = b.Buses - 1 := wI (by omega)
   have e2 : w64 (x.A + 1) = x.A + 1 := wI (by omega)
   refine Ok.cond (fun hq => ?_) (fun _ => ?_)
   ·rw [e1, in_t (by omega)] at hq; simp at hq
   refine Ok.cond (fun hq => ?_) (fun hq => ?_)
   ·simp only [c136_6, Bool.and_eq_true, beq_iff_eq, in_iff] at hq
    refine Ok.next ⟨List.map_congr_left fun i _ => ?_, List.map_congr_left fun i _ => ?_⟩
    ·rw [htk, if_neg (by omega), List.append_nil]
    ·rw [htk, if_neg (by omega), List.append_nil]
   have hq := ff hq
   simp only [c136_6, Bool.and_eq_true, beq_iff_eq, in_iff, e1, e2] at hq
   rcases hk with hk | hk | hk
   ·exact absurd ⟨hk.1, by omega⟩ hq
   ·have hBn : x.B = (x.B.toNat : Int) := by omega
    have hone := h.one x.B.toNat (by omega)
    have hz : (brs (b.Breakers.take j) 2 x.B.toNat).length = 0 := by
     rw [hall, htk, if_pos ⟨hk.1, hBn⟩] at hone
     simp at hone; omega
    have hg : ((x.Kind == 2) && (F99 x.B 0 (w64 ((((List.range b.Sources.length).map (fun i => ((brs (b.Breakers.take j) 2 i).length : Int))).length : Int) - 1)))) = true := by
     rw [Bool.and_eq_true, beq_iff_eq, in_iff, List.length_map, List.length_range, wI (by omega)]
     omega
    dsimp only
    refine Ok.bind (P := fun y => y = 0) (Ok.guard (fun _ => (Ok.getR (by omega) (by omega)).mono fun y hy => by rw [hy, hz]; rfl) fun hn => (not_all hg hn).elim) fun y hy => ?_
    refine Ok.cond (fun hq2 => ?_) (fun hq2 => ?_)
    ·refine (Ok.getR (by omega) (by omega)).bind fun y2 hy2 => (Ok.setR (by omega) (by omega)).bind fun y3 hy3 => Ok.next ⟨?_, List.map_congr_left fun i _ => ?_⟩
     ·rw [hy3]
      refine List.map_congr_left fun i hi => ?_
      by_cases e : i = x.B.toNat
      ·subst e
       rw [if_pos rfl, hy2, htk, if_pos ⟨hk.1, hBn⟩, hz, List.length_append, hz]
       rfl
      ·rw [if_neg e, htk, if_neg (by omega), List.append_nil]
     ·rw [htk, if_neg (by omega), List.append_nil]
    ·have hq2 := ff hq2
     simp only [c136_7, Bool.and_eq_true, hy] at hq2
     rw [Bool.and_eq_true] at hg
     exact absurd ⟨hg, by simp⟩ hq2
   ·have hBn : x.B = (x.B.toNat : Int) := by omega
    have hnod := h.nodup x.B.toNat
    have hnot : x.A ∉ (brs (b.Breakers.take j) 3 x.B.toNat).map (·.A) := by
     rw [hall, htk, if_pos ⟨hk.1, hBn⟩] at hnod
     simp only [List.map_append, List.map_cons, List.map_nil] at hnod
     rw [List.nodup_append] at hnod
     have := hnod.1
     rw [List.nodup_append] at this
     intro hm
     exact this.2.2 _ hm _ (by simp) rfl
    have hg0 : ((x.Kind == 2) && (F99 x.B 0 (w64 ((((List.range b.Sources.length).map (fun i => ((brs (b.Breakers.take j) 2 i).length : Int))).length : Int) - 1)))) = false := by
     have : (x.Kind == 2) = false := by rw [beq_eq_false_iff_ne]; omega
     rw [this]; rfl
    have hg : ((x.Kind == 3) && (F99 x.B 0 (w64 ((((List.range b.Consumers.length).map (fun i => (brs (b.Breakers.take j) 3 i).map (·.A))).length : Int) - 1)))) = true := by
     rw [Bool.and_eq_true, beq_iff_eq, in_iff, List.length_map, List.length_range, wI (by omega)]
     omega
    dsimp only
    refine Ok.bind (P := fun _ => True) (Ok.guard (fun hn => absurd hn.1 (by rw [hg0]; simp)) fun _ => trivial) fun y _ => ?_
    refine Ok.cond (fun hq2 => ?_) (fun _ => ?_)
    ·simp only [c136_7, Bool.and_eq_true, beq_iff_eq] at hq2
     omega
    refine Ok.bind (P := fun y => y = (brs (b.Breakers.take j) 3 x.B.toNat).map (·.A)) (Ok.guard (fun _ => Ok.getR (by omega) (by omega)) fun hn => (not_all hg hn).elim) fun y14 hy14 => ?_
    have hyl : y14.length <= 24 := by
     rw [hy14, List.length_map]
     have := List.length_filter_le (fun x => x.Kind == 3 && x.B == ((x.B.toNat : Nat) : Int)) (b.Breakers.take j)
     have h1 : (brs (b.Breakers.take j) 3 x.B.toNat).length <= (b.Breakers.take j).length := List.length_filter_le _ _
     have h2 := h.brl
     rw [List.length_take] at h1
     omega
    refine Ok.bind (P := fun y => y = false) (Ok.guard (fun _ => ?_) fun hn => (not_all hg hn).elim) fun y16 hy16 => ?_
    ·rw [contains_int _ _ (by omega)]
     refine Ok.pure ?_
     rw [List.any_eq_false]
     intro z hz
     rw [hy14] at hz
     simp only [beq_iff_eq]
     rintro rfl
     exact hnot hz
    refine Ok.cond (fun hq2 => ?_) (fun hq2 => ?_)
    ·refine (Ok.getR (by omega) (by omega)).bind fun y19 hy19 => ?_
     rw [hy19, ← hy14]
     refine (Ok.appI (by simp; omega)).bind fun y21 hy21 => (Ok.setR (by omega) (by omega)).bind fun y23 hy23 => Ok.next ⟨List.map_congr_left fun i _ => ?_, ?_⟩
     ·rw [htk, if_neg (by omega), List.append_nil]
     ·rw [hy23]
      refine List.map_congr_left fun i hi => ?_
      by_cases e : i = x.B.toNat
      ·subst e
       rw [if_pos rfl, hy21, hy14, htk, if_pos ⟨hk.1, hBn⟩, List.map_append]
       rfl
      ·rw [if_neg e, htk, if_neg (by omega), List.append_nil]
    ·have hq2 := ff hq2
     simp only [c136_8, Bool.and_eq_true, hy16] at hq2
     rw [Bool.and_eq_true] at hg
     exact absurd ⟨hg, by simp⟩ hq2
  ·rintro ⟨us, vs⟩ ⟨hu, hv⟩
   rw [List.take_length] at hu hv
   exact ⟨hu, hv⟩
 ·rintro ⟨us, vs⟩ ⟨hu, hv⟩
  dsimp only at hu hv ⊢
  rw [contains_int _ _ (by rw [hu]; simp; omega)]
  have h0 : us.any (fun y => 0 == y) = false := by
   rw [List.any_eq_false, hu]
   intro z hz
   obtain ⟨i, hi, rfl⟩ := List.mem_map.1 hz
   rw [h.one i (by simpa using hi)]
   simp
  have h1 : vs.any (fun x => (x.length : Int) == 0) = false := by
   rw [List.any_eq_false, hv]
   intro z hz
   obtain ⟨i, hi, rfl⟩ := List.mem_map.1 hz
   have := h.any i (by simpa using hi)
   simp only [List.length_map, beq_iff_eq]
   intro e
   exact this (List.eq_nil_of_length_eq_zero (by omega))
  simp only [h0, Option.bind_some]
  refine Ok.bind (P := fun y => y = false) (Ok.guard (fun _ => ?_) fun hn => (not_all rfl hn).elim) fun y hy => Ok.pure (by rw [hy]; rfl)
  rw [containsNil _ (by rw [hv]; simp; omega)]
  exact Ok.pure h1
theorem source_ok {x : api_Source} (h : SoOk x) : F137 x = true := by
 obtain ⟨h1, h2, h3⟩ := h
 simp only [F137, Bool.and_eq_true, in_iff]
 omega
theorem consumer_ok {x : api_Consumer} {i : Nat} (h : CoOk i x) (hi : i <= 1000) : F138 x (i : Int) = some true := by
 obtain ⟨h1, h2, h3, h4, h5, h6, h7⟩ := h
 unfold F138
 have hf : fI (F138_l0 x (i : Int)) x.Needs 0 () = some (.next ()) := by
  refine all_fold _ _ fun j n hj => ?_
  rw [Nat.zero_add]
  have hn := h6 n (List.mem_of_getElem? hj)
  have hjl := (List.getElem?_eq_some_iff.1 hj).1
  have hcnt : cnt 0 j = (j : Int) := cnt0 (by omega)
  have hin : F99 n 0 (w64 ((i : Int) - 1)) = true := by rw [in_iff, wI (by omega)]; omega
  unfold F138_l0 c138_1
  rw [hcnt, hin]
  cases j with
  | zero => simp [guardO, allEqB]
  | succ j =>
   obtain ⟨p, hp⟩ : ∃ p, x.Needs[j]? = some p := ⟨_, List.getElem?_eq_getElem (by omega)⟩
   have hlt := h7 j p n hp hj
   have e : w64 ((((j + 1 : Nat) : Int)) - 1) = (j : Int) := by rw [wI (by omega)]; omega
   have hg : getI x.Needs (j : Int) = some p := by
    unfold getI
    simp [hp]
   have hd : decide (((j + 1 : Nat) : Int) > 0) = true := decide_eq_true (by omega)
   have hd2 : decide (p >= n) = false := by simp; omega
   rw [e, hg, hd]
   simp [guardO, allEqB, hd2]
 rw [hf]
 have : (((((F99 x.Load 0 50000) && (F99 x.Least 0 x.Load)) && (F99 x.Preference 0 15)) && (F99 x.Thruster (-1) 7)) && (decide ((x.Needs.length : Int) <= 4))) = true := by
  simp only [Bool.and_eq_true, in_iff, decide_eq_true_eq]
  omega
 simp [andThen, this]
theorem check_ok {b : api_Board} (h : BoardOk b) : F85 b = some 0 := by
 refine Ok.eq ?_
 unfold F85
 have h1 := h.buses
 have h2 := h.brl
 have h3 := h.sol
 have h4 := h.col
 have h5 := h.phase
 have h6 := h.freq
 refine Ok.cond (fun hc => ?_) (fun _ => ?_)
 ·have : F99 b.Buses 1 6 = true := in_t (by omega)
  simp only [c85_0, this, Bool.or_eq_true, decide_eq_true_eq, Bool.not_true, Bool.false_eq_true, false_or] at hc
  omega
 refine (breakers_ok h).bind fun y hy => ?_
 subst hy
 rw [in_t (x := b.Phase) (by omega), in_t (x := b.Frequency) (by omega)]
 refine Ok.andThen (A := fun s => s = true) (B := fun (_ : Unit) => False) ?_ ?_ (fun _ h => h.elim)
 ·refine Ok.foldI0 (I := fun _ s => s = true) rfl (fun j x s hx hs => ?_) fun _ h => h
  subst hs
  refine Ok.next ?_
  rw [source_ok (h.so x (List.mem_of_getElem? hx))]; rfl
 ·rintro s rfl
  refine Ok.andThen (A := fun s => s = true) (B := fun (_ : Unit) => False) ?_ ?_ (fun _ h => h.elim)
  ·refine Ok.foldI0 (I := fun _ s => s = true) rfl (fun j x s hx hs => ?_) fun _ h => h
   subst hs
   have hj := (List.getElem?_eq_some_iff.1 hx).1
   unfold F85_l1
   have : guardO [(true, true)] (F138 x (cnt 0 j)) default = some true := by
    rw [cnt0 (by omega), consumer_ok (h.co j x hx) (by omega)]; rfl
   rw [this]
   exact Ok.next rfl
  ·rintro s rfl
   exact Ok.pure rfl
def RunOk (x : api_Running) : Prop := (0 <= x.State /\ x.State <= 3) /\ (0 <= x.Since /\ x.Since <= 2147483648) /\ (0 <= x.Frequency /\ x.Frequency <= 6000) /\ 0 <= x.Phase /\ x.Phase <= 3599
def PartIn (b : api_Board) (x : api_Part) : Prop :=
 0 <= x.Number /\ ((x.Kind = 1 /\ x.Number < b.Sources.length) \/ (x.Kind = 2 /\ x.Number < b.Breakers.length) \/ (x.Kind = 3 /\ x.Number < b.Buses) \/ (x.Kind = 4 /\ x.Number < b.Consumers.length))
def PartLt (x y : api_Part) : Prop := x.Kind < y.Kind \/ x.Kind = y.Kind /\ x.Number < y.Number
structure BrokenOk (b : api_Board) (l : List api_Part) : Prop where
 len : l.length <= 32
 mem : ∀ x, x ∈ l -> PartIn b x
 asc : ∀ (j : Nat) x y, l[j]? = some x -> l[j + 1]? = some y -> PartLt x y
def feeds (l : List api_Breaker) (c : List Bool) (i : Nat) : List (api_Breaker × Bool) := (l.zip c).filter fun z => (z.1.Kind == 3 && z.1.B == (i : Int)) && z.2
structure StateOk (b : api_Board) (p : api_Power) : Prop where
 ncl : p.Closed.length = b.Breakers.length
 nso : p.Sources.length = b.Sources.length
 nli : p.Limits.length = b.Consumers.length
 run : ∀ x, x ∈ p.Sources -> RunOk x
 lim : ∀ (i : Nat) n c, p.Limits[i]? = some n -> b.Consumers[i]? = some c -> 0 <= n /\ n <= c.Load
 one : ∀ i, i < b.Consumers.length -> (feeds b.Breakers p.Closed i).length <= 1
 brk : BrokenOk b p.Broken
theorem running_ok {x : api_Running} (h : RunOk x) : F98 x = true := by
 obtain ⟨h1, h2, h3, h4⟩ := h
 simp only [F98, Bool.and_eq_true, in_iff]
 omega
theorem notRunning (l : List api_Running) (h : l.length <= 9223372036854775807) : F96s0 l = some (l.any fun x => !F98 x) := by
 unfold F96s0 F155s0
 rw [search_eq (fun y => !F98 y) (fun i y => rfl) l h]
 simp only [Option.bind_some, idxI_any]
theorem cmp_eq (x y : Int) : F154 x y = if x < y then -1 else if x > y then 1 else 0 := by
 have h : ∀ z : Int, F199 z = false := fun z => by simp [F199]
 unfold F154
 rw [h x, h y]
 by_cases h1 : x < y
 ·simp [h1]
 ·by_cases h2 : y < x <;> simp [h1, h2]
theorem or_eq (x y : Int) : F153 [x, y] = some (if x = 0 then y else x) := by
 unfold F153
 by_cases h : x = 0
 ·subst h
  by_cases h2 : y = 0
  ·subst h2; rfl
  ·have : (y != 0) = true := by simpa using h2
   simp [fI, F153_l0, andThen, this]
 ·have : (x != 0) = true := by simpa using h
  simp [fI, F153_l0, andThen, this, h]
theorem size_in {b : api_Board} (h : BoardOk b) {x : api_Part} (hx : PartIn b x) : F99 x.Number 0 (w64 ((F152 b x.Kind) - 1)) = true := by
 have h1 := h.buses
 have h2 := h.brl
 have h3 := h.sol
 have h4 := h.col
 obtain ⟨hn, hk⟩ := hx
 have hsz : ∃ n, F152 b x.Kind = n /\ x.Number < n /\ n <= 100 := by
  unfold F152
  rcases hk with ⟨k, hk⟩ | ⟨k, hk⟩ | ⟨k, hk⟩ | ⟨k, hk⟩ <;> rw [k] <;> exact ⟨_, rfl, by simpa using hk, by simp; omega⟩
 obtain ⟨n, e, g1, g2⟩ := hsz
 rw [e, in_iff, wI (by omega)]
 omega
theorem broken_ok {b : api_Board} (h : BoardOk b) {l : List api_Part} (hl : BrokenOk b l) : F95 b l = some true := by
 have hlen := hl.len
 unfold F95
 have hf : fI (F95_l0 b l) l 0 () = some (.next ()) := by
  refine all_fold _ _ fun j x hj => ?_
  rw [Nat.zero_add]
  have hjl := (List.getElem?_eq_some_iff.1 hj).1
  have hcnt : cnt 0 j = (j : Int) := cnt0 (by omega)
  have hin := size_in h (hl.mem x (List.mem_of_getElem? hj))
  unfold F95_l0 c95_1
  rw [hcnt, hin]
  cases j with
  | zero => simp [guardO, allEqB]
  | succ j =>
   obtain ⟨p, hp⟩ : ∃ p, l[j]? = some p := ⟨_, List.getElem?_eq_getElem (by omega)⟩
   have hlt := hl.asc j p x hp hj
   have e : w64 ((((j + 1 : Nat) : Int)) - 1) = (j : Int) := by rw [wI (by omega)]; omega
   have hg : getI l (j : Int) = some p := by unfold getI; simp [hp]
   have hd : decide (((j + 1 : Nat) : Int) > 0) = true := decide_eq_true (by omega)
   have ho : F153 [F154 p.Kind x.Kind, F154 p.Number x.Number] = some (-1) := by
    rw [or_eq, cmp_eq, cmp_eq]
    rcases hlt with h1 | ⟨h1, h2⟩
    ·simp [h1]
    ·simp [h1, h2]
   rw [e, hg, hd]
   simp [guardO, allEqB, ho]
 rw [hf]
 have : decide ((l.length : Int) <= 32) = true := by simp; omega
 simp [andThen, this]
theorem feeds_take {l : List api_Breaker} {c : List Bool} {j : Nat} {x : api_Breaker} {v : Bool} (hx : l[j]? = some x) (hv : c[j]? = some v) (i : Nat) :
  feeds (l.take (j + 1)) (c.take (j + 1)) i = feeds (l.take j) (c.take j) i ++ if ((x.Kind == 3 && x.B == (i : Int)) && v) = true then [(x, v)] else [] := by
 unfold feeds
 rw [take_succ' hx, take_succ' hv, List.zip_append (by
  have h1 := (List.getElem?_eq_some_iff.1 hx).1
  have h2 := (List.getElem?_eq_some_iff.1 hv).1
  simp; omega), List.filter_append]
 congr 1
 simp only [List.zip_cons_cons, List.zip_nil_right, List.filter_cons, List.filter_nil]
theorem closed_eq {b : api_Board} (h : BoardOk b) {p : api_Power} (hc : p.Closed.length = b.Breakers.length) (i : Nat) : F100 b p (i : Int) = some (((feeds b.Breakers p.Closed i).length : Nat) : Int) := by
 refine Ok.eq ?_
 unfold F100
 have hb := h.brl
 refine Ok.andThen (A := fun s => s = (((feeds b.Breakers p.Closed i).length : Nat) : Int)) (B := fun (_ : Unit) => False) ?_ (fun s hs => Ok.pure hs) (fun _ h => h.elim)
 refine Ok.foldI0 (I := fun j s => s = (((feeds (b.Breakers.take j) (p.Closed.take j) i).length : Nat) : Int)) ?_ (fun j x s hx hs => ?_) fun s hs => ?_
 ·simp [feeds]
 ·have hj := (List.getElem?_eq_some_iff.1 hx).1
  obtain ⟨v, hv⟩ : ∃ v, p.Closed[j]? = some v := ⟨_, List.getElem?_eq_getElem (by omega)⟩
  have hcnt : cnt 0 j = (j : Int) := cnt0 (by omega)
  have hg : getI p.Closed (j : Int) = some v := by unfold getI; simp [hv]
  have hle : (feeds (b.Breakers.take j) (p.Closed.take j) i).length <= 24 := by
   have h1 : (feeds (b.Breakers.take j) (p.Closed.take j) i).length <= ((b.Breakers.take j).zip (p.Closed.take j)).length := List.length_filter_le _ _
   simp at h1; omega
  subst hs
  unfold F100_l0 c100_2
  rw [hcnt, hg, feeds_take hx hv]
  cases hk : (x.Kind == 3 && x.B == (i : Int)) with
  | false =>
   simp only [guardO, allEqB, Bool.false_and]
   exact Ok.next (by simp)
  | true =>
   simp only [guardO, allEqB, Bool.true_and]
   cases v with
   | false => exact Ok.next (by simp)
   | true =>
    refine Ok.next ?_
    show w64 _ = _
    rw [wI (by omega)]
    simp
 ·rw [List.take_length, ← hc, List.take_length] at hs
  exact hs
theorem state_ok {b : api_Board} (h : BoardOk b) {p : api_Power} (hp : StateOk b p) : F43 b p = some 0 := by
 refine Ok.eq ?_
 unfold F43
 have h1 := hp.ncl
 have h2 := hp.nso
 have h3 := hp.nli
 have h4 := h.col
 have h5 := h.sol
 rw [check_ok h]
 simp only [Option.bind_some]
 have c0 : c43_0 b p = false := by
  simp [c43_0, h1, h2, h3]
 have c1 : ((0 : Int) != 0) = false := rfl
 rw [c1, c0, broken_ok h hp.brk]
 simp only [cond_false, Option.bind_some]
 have hr : (p.Sources.any fun x => !F98 x) = false := by
  rw [List.any_eq_false]
  intro x hx
  rw [running_ok (hp.run x hx)]; simp
 have : guardO [(true, true)] (F96s0 p.Sources) default = some false := by
  rw [notRunning _ (by omega), hr]; rfl
 rw [this]
 simp only [Option.bind_some]
 refine Ok.andThen (A := fun s => s = true) (B := fun (_ : Unit) => False) ?_ ?_ (fun _ h => h.elim)
 ·refine Ok.foldI0 (I := fun _ s => s = true) rfl (fun j x s hx hs => ?_) fun _ h => h
  subst hs
  have hj := (List.getElem?_eq_some_iff.1 hx).1
  obtain ⟨c, hc⟩ : ∃ c, b.Consumers[j]? = some c := ⟨_, List.getElem?_eq_getElem (by omega)⟩
  have hcnt : cnt 0 j = (j : Int) := cnt0 (by omega)
  have hg : getI b.Consumers (j : Int) = some c := by unfold getI; simp [hc]
  have hl := hp.lim j x c hx hc
  have hone := hp.one j (by omega)
  unfold F43_l0
  rw [hcnt, hg]
  have e1 : guardO [(true, true)] (some c) default = some c := rfl
  rw [e1]
  simp only [Option.bind_some]
  have e2 : (true && F99 x 0 c.Load) = true := by rw [in_t hl]; rfl
  rw [e2, closed_eq h h1]
  have e3 : guardO [(true, true)] (some (((feeds b.Breakers p.Closed j).length : Nat) : Int)) default = some (((feeds b.Breakers p.Closed j).length : Nat) : Int) := rfl
  rw [e3]
  simp only [Option.bind_some]
  refine Ok.next ?_
  simp; omega
 ·rintro s rfl
  exact Ok.pure rfl
theorem within_iff (x lo hi : Int) : F112 x lo hi = true ↔ lo <= x /\ x <= hi := by
 simp [F112]
theorem exists_iff {b : api_Board} (h : BoardOk b) (x : api_Part) : F71 b x = true ↔ PartIn b x := by
 have h1 := h.buses
 have h2 := h.brl
 have h3 := h.sol
 have h4 := h.col
 unfold F71 PartIn
 rw [wI (n := (b.Sources.length : Int) - 1) (by omega), wI (n := (b.Breakers.length : Int) - 1) (by omega), wI (n := b.Buses - 1) (by omega), wI (n := (b.Consumers.length : Int) - 1) (by omega)]
 by_cases k1 : x.Kind = 1
 ·rw [beq_iff_eq.2 k1, cond_true, within_iff]; omega
 rw [beq_eq_false_iff_ne.2 k1, cond_false]
 by_cases k2 : x.Kind = 2
 ·rw [beq_iff_eq.2 k2, cond_true, within_iff]; omega
 rw [beq_eq_false_iff_ne.2 k2, cond_false]
 by_cases k3 : x.Kind = 3
 ·rw [beq_iff_eq.2 k3, cond_true, within_iff]; omega
 rw [beq_eq_false_iff_ne.2 k3, cond_false]
 by_cases k4 : x.Kind = 4
 ·rw [beq_iff_eq.2 k4, cond_true, within_iff]; omega
 ·rw [beq_eq_false_iff_ne.2 k4]
  simp only [cond_false, Bool.false_eq_true, false_iff]
  omega
theorem feeds_le {l : List api_Breaker} : ∀ {c d : List Bool}, c.length = d.length -> (∀ k : Nat, c[k]? = some true -> d[k]? = some true) -> ∀ i, (feeds l c i).length <= (feeds l d i).length := by
 induction l with
 | nil => intro c d _ _ i; simp [feeds]
 | cons x l ih =>
  intro c d hl h i
  cases c with
  | nil => simp [feeds]
  | cons v c => cases d with
   | nil => simp at hl
   | cons u d =>
    have := ih (c := c) (d := d) (by simpa using hl) (fun k hk => by have := h (k + 1) (by simpa using hk); simpa using this) i
    have h0 : v = true -> u = true := fun e => by have := h 0 (by simp [e]); simpa using this
    unfold feeds at this ⊢
    simp only [List.zip_cons_cons, List.filter_cons]
    cases hk : (x.Kind == 3 && x.B == (i : Int)) with
    | false => simpa using this
    | true =>
     cases v with
     | false => cases u <;> simp <;> omega
     | true => rw [h0 rfl]; simp; omega
theorem power_l0 {b : api_Board} (h : BoardOk b) {s0 : dynposmake_Src} (hs0 : SrcOk s0) :
  Ok (whileN (F132s1_l0 b) 1152921504606846976 (0, s0.L, s0.At, ([] : List Bool))) (EndsSo (fun s => SrcOk ⟨s.2.1, s.2.2.1⟩ /\ s.2.2.2.length = b.Breakers.length) (fun (_ : Unit) => False)) := by
 have hb := h.brl
 refine Ok.whileN (fun s => (0 <= s.1 /\ s.1 <= (b.Breakers.length : Int)) /\ SrcOk ⟨s.2.1, s.2.2.1⟩ /\ (s.2.2.2.length : Int) = s.1) (fun s => ((b.Breakers.length : Int) - s.1).toNat) _ _ ?_ ?_ ?_
 ·exact ⟨by dsimp only; omega, hs0, by simp⟩
 ·dsimp only; omega
 ·rintro ⟨i, L, a, l⟩ ⟨⟨h1, h2⟩, h4, h5⟩
  dsimp only at h1 h2 h4 h5
  unfold F132s1_l0 c132s1_1
  refine Ok.cond (fun h => ?_) (fun h => ?_)
  ·simp only [decide_eq_true_eq] at h
   have e : w64 (i + 1) = i + 1 := wI (by omega)
   dsimp only
   rw [e]
   refine (N_pos h4 2 (by omega) (by omega)).bind fun u hu => (Ok.appI (by simp; omega)).bind fun m hm => Ok.next ?_
   subst hm
   exact ⟨⟨by dsimp only; omega, hu.1, by simp; omega⟩, by dsimp only; omega⟩
  ·simp only [decide_eq_false_iff_not] at h
   exact Ok.brk ⟨h4, by dsimp only; omega⟩
theorem gN {α : Type} {l : List α} {j : Nat} {x : α} (h : l[j]? = some x) : getI l (j : Int) = some x := by unfold getI; simp [h]
theorem setI_nat {α : Type} {l : List α} {j : Nat} {x : α} (h : j < l.length) : setI l (j : Int) x = some (l.set j x) := by
 unfold setI
 have h1 : decide ((0 : Int) <= (j : Int)) = true := by simp
 have h2 : decide ((j : Int) < (l.length : Int)) = true := by simp; omega
 rw [h1, h2]; simp
theorem power_l2 {b : api_Board} (h : BoardOk b) {n : Int} {i : Nat} (hn : n = (i : Int)) {c : List Bool} (hc : c.length = b.Breakers.length) (w : Int × List Bool) (hw : w.1 = n) :
  Ok (fI (F132s1_l2 w) b.Breakers 0 (true, c)) (EndsSo (fun s => s.2.length = b.Breakers.length /\ (∀ k : Nat, s.2[k]? = some true -> c[k]? = some true) /\ (feeds b.Breakers s.2 i).length <= 1) (fun (_ : Unit) => False)) := by
 have hb := h.brl
 refine Ok.foldI0 (I := fun j s => s.2.length = b.Breakers.length /\ (∀ k : Nat, s.2[k]? = some true -> c[k]? = some true) /\ (s.1 = true -> feeds (b.Breakers.take j) (s.2.take j) i = []) /\ (feeds (b.Breakers.take j) (s.2.take j) i).length <= 1) ?_ (fun j x s hx hs => ?_) fun s hs => ?_
 ·exact ⟨hc, fun _ h => h, fun _ => by simp [feeds], by simp [feeds]⟩
 ·obtain ⟨f, d⟩ := s
  obtain ⟨h1, h2, h3, h4⟩ := hs
  dsimp only at h1 h2 h3 h4
  have hj := (List.getElem?_eq_some_iff.1 hx).1
  obtain ⟨v, hv⟩ : ∃ v, d[j]? = some v := ⟨_, List.getElem?_eq_getElem (by omega)⟩
  have hcnt : cnt 0 j = (j : Int) := cnt0 (by omega)
  unfold F132s1_l2 c132s1_12
  dsimp only
  rw [hcnt, gN hv, setI_nat (by omega), hw, hn]
  cases hk : (x.Kind == 3 && x.B == (i : Int)) with
  | false =>
   simp only [guardO, allEqB, Bool.false_and]
   refine Ok.next ⟨h1, h2, fun e => ?_, ?_⟩ <;> dsimp only <;> rw [feeds_take hx hv, hk]
   ·simpa using h3 e
   ·simpa using h4
  | true =>
   simp only [guardO, allEqB, Bool.true_and]
   cases v with
   | false =>
    refine Ok.next ⟨h1, h2, fun e => ?_, ?_⟩ <;> dsimp only <;> rw [feeds_take hx hv, hk]
    ·simpa using h3 e
    ·simpa using h4
   | true =>
    have hset : (d.set j f)[j]? = some f := by rw [List.getElem?_set_self (by omega)]
    have htake : (d.set j f).take j = d.take j := by rw [List.take_set_of_le (Nat.le_refl j)]
    refine Ok.next ⟨by simpa using h1, fun k hk2 => ?_, fun e => ?_, ?_⟩
    ·dsimp only at hk2
     rw [List.getElem?_set] at hk2
     split at hk2
     ·rename_i e; subst e; exact h2 _ hv
     ·exact h2 _ hk2
    ·cases e
    ·dsimp only
     rw [feeds_take hx hset, hk, htake]
     cases f with
     | false => simpa using h4
     | true => simp [h3 rfl]
 ·rw [List.take_length] at hs
  obtain ⟨h1, h2, h3, h4⟩ := hs
  have : s.2.take b.Breakers.length = s.2 := List.take_of_length_le (by omega)
  rw [this] at h4
  exact ⟨h1, h2, h4⟩
theorem power_l1 {b : api_Board} (h : BoardOk b) {c : List Bool} (hc : c.length = b.Breakers.length) :
  Ok (whileN (F132s1_l1 b) 1152921504606846976 (0, c)) (EndsSo (fun s => s.2.length = b.Breakers.length /\ ∀ i, i < b.Consumers.length -> (feeds b.Breakers s.2 i).length <= 1) (fun (_ : Unit) => False)) := by
 have hco := h.col
 refine Ok.whileN (fun s => (0 <= s.1 /\ s.1 <= (b.Consumers.length : Int)) /\ s.2.length = b.Breakers.length /\ ∀ i : Nat, (i : Int) < s.1 -> (feeds b.Breakers s.2 i).length <= 1) (fun s => ((b.Consumers.length : Int) - s.1).toNat) _ _ ?_ ?_ ?_
 ·exact ⟨by dsimp only; omega, hc, fun i hi => by dsimp only at hi; omega⟩
 ·dsimp only; omega
 ·rintro ⟨n, d⟩ ⟨⟨h1, h2⟩, h3, h4⟩
  dsimp only at h1 h2 h3 h4
  unfold F132s1_l1 c132s1_9
  refine Ok.cond (fun hq => ?_) (fun hq => ?_)
  ·simp only [decide_eq_true_eq] at hq
   have e : w64 (n + 1) = n + 1 := wI (by omega)
   dsimp only
   refine (power_l2 h (n := n) (i := n.toNat) (by omega) h3 (n, d) rfl).inner (fun s hs => ?_) (fun _ h => h.elim)
   rw [e]
   obtain ⟨g1, g2, g3⟩ := hs
   refine Ok.next ⟨⟨by dsimp only; omega, g1, fun i hi => ?_⟩, by dsimp only; omega⟩
   dsimp only at hi ⊢
   by_cases e : (i : Int) = n
   ·have : i = n.toNat := by omega
    subst this; exact g3
   ·exact Nat.le_trans (feeds_le (by omega) g2 i) (h4 i (by omega))
  ·simp only [decide_eq_false_iff_not] at hq
   exact Ok.brk ⟨h3, fun i hi => h4 i (by omega)⟩
theorem power_l3 {b : api_Board} (h : BoardOk b) {s0 : dynposmake_Src} (hs0 : SrcOk s0) :
  Ok (whileN (F132s1_l3 b) 1152921504606846976 (0, s0.L, s0.At, ([] : List api_Running))) (EndsSo (fun s => SrcOk ⟨s.2.1, s.2.2.1⟩ /\ s.2.2.2.length = b.Sources.length /\ ∀ x, x ∈ s.2.2.2 -> RunOk x) (fun (_ : Unit) => False)) := by
 have hb := h.sol
 refine Ok.whileN (fun s => (0 <= s.1 /\ s.1 <= (b.Sources.length : Int)) /\ SrcOk ⟨s.2.1, s.2.2.1⟩ /\ (s.2.2.2.length : Int) = s.1 /\ ∀ x, x ∈ s.2.2.2 -> RunOk x) (fun s => ((b.Sources.length : Int) - s.1).toNat) _ _ ?_ ?_ ?_
 ·exact ⟨by dsimp only; omega, hs0, by simp, fun x hx => by simp at hx⟩
 ·dsimp only; omega
 ·rintro ⟨i, L, a, l⟩ ⟨⟨h1, h2⟩, h4, h5, h6⟩
  dsimp only at h1 h2 h4 h5 h6
  unfold F132s1_l3 c132s1_14
  refine Ok.cond (fun h => ?_) (fun h => ?_)
  ·simp only [decide_eq_true_eq] at h
   have e : w64 (i + 1) = i + 1 := wI (by omega)
   dsimp only
   rw [e]
   refine (Pick_ok h4 _ (by simp) (by simp)).bind fun u hu => (N_pos hu.1 5 (by omega) (by omega)).bind fun v hv => (Pick_ok hv.1 _ (by simp) (by simp)).bind fun p hp => (Pick_ok hp.1 _ (by simp) (by simp)).bind fun q hq => (Ok.appI (by simp; omega)).bind fun m hm => Ok.next ?_
   subst hm
   have g1 : u.1 = 0 \/ u.1 = 1 \/ u.1 = 2 \/ u.1 = 2 \/ u.1 = 2 \/ u.1 = 3 := by simpa using hu.2
   have g2 := hv.2
   have g3 : p.1 = 5000 \/ p.1 = 5000 \/ p.1 = 5005 \/ p.1 = 4950 := by simpa using hp.2
   have g4 : q.1 = 0 \/ q.1 = 0 \/ q.1 = 40 \/ q.1 = 1800 \/ q.1 = 3590 := by simpa using hq.2
   refine ⟨⟨by dsimp only; omega, hq.1, by simp; omega, fun x hx => ?_⟩, by dsimp only; omega⟩
   rcases List.mem_append.1 hx with hx | hx
   ·exact h6 x hx
   ·simp at hx; subst hx
    exact ⟨by dsimp only; omega, by dsimp only; omega, by dsimp only; omega, by dsimp only; omega⟩
  ·simp only [decide_eq_false_iff_not] at h
   exact Ok.brk ⟨h4, by dsimp only; omega, h6⟩
theorem power_l4 {b : api_Board} (h : BoardOk b) {s0 : dynposmake_Src} (hs0 : SrcOk s0) :
  Ok (fI F132s1_l4 b.Consumers 0 (s0.L, s0.At, ([] : List Int))) (EndsSo (fun s => SrcOk ⟨s.1, s.2.1⟩ /\ s.2.2.length = b.Consumers.length /\ ∀ (i : Nat) n c, s.2.2[i]? = some n -> b.Consumers[i]? = some c -> 0 <= n /\ n <= c.Load) (fun (_ : Unit) => False)) := by
 have hb := h.col
 refine Ok.foldI0 (I := fun j s => SrcOk ⟨s.1, s.2.1⟩ /\ s.2.2.length = j /\ ∀ (i : Nat) n c, s.2.2[i]? = some n -> b.Consumers[i]? = some c -> 0 <= n /\ n <= c.Load) ?_ (fun j x s hx hs => ?_) fun s hs => hs
 ·exact ⟨hs0, rfl, fun i n c hn => by simp at hn⟩
 ·obtain ⟨L, a, l⟩ := s
  obtain ⟨h1, h2, h3⟩ := hs
  dsimp only at h1 h2 h3
  have hj := (List.getElem?_eq_some_iff.1 hx).1
  unfold F132s1_l4
  dsimp only
  refine (Pick_ok h1 _ (by simp) (by simp)).bind fun u hu => (Ok.appI (by simp; omega)).bind fun m hm => Ok.next ⟨hu.1, ?_, fun i n c hn hc => ?_⟩
  ·subst hm; simp [h2]
  ·dsimp only at hn
   subst hm
   rw [List.getElem?_append] at hn
   split at hn
   ·exact h3 i n c hn hc
   ·rename_i hi
    have hlt := (List.getElem?_eq_some_iff.1 hn).1
    simp at hlt
    have : i = j := by omega
    subst this
    rw [hx] at hc; cases hc
    rw [h2] at hn
    simp at hn; subst hn
    obtain ⟨g1, g2, _⟩ := h.co _ x hx
    have g3 := third_in (x := x.Load) (by omega) (by omega)
    have g4 : u.1 = x.Load \/ u.1 = x.Load \/ u.1 = x.Least \/ u.1 = w64 (Int.tdiv x.Load 3) := by simpa using hu.2
    omega
theorem power_l5 {b : api_Board} (h : BoardOk b) {s0 : dynposmake_Src} (hs0 : SrcOk s0) :
  Ok (whileN (F132s1_l5 b) 7 (1, s0.L, s0.At, ([] : List api_Part))) (EndsSo (fun s => SrcOk ⟨s.2.1, s.2.2.1⟩ /\ BrokenOk b s.2.2.2 /\ s.2.2.2.length <= 4) (fun (_ : Unit) => False)) := by
 refine Ok.whileN (fun s => (1 <= s.1 /\ s.1 <= 5) /\ SrcOk ⟨s.2.1, s.2.2.1⟩ /\ ((s.2.2.2.length : Int) < s.1) /\ (∀ x, x ∈ s.2.2.2 -> PartIn b x /\ x.Kind < s.1) /\ ∀ (j : Nat) x y, s.2.2.2[j]? = some x -> s.2.2.2[j + 1]? = some y -> PartLt x y) (fun s => (5 - s.1).toNat) _ _ ?_ ?_ ?_
 ·exact ⟨by dsimp only; omega, hs0, by simp, fun x hx => by simp at hx, fun j x y hx => by simp at hx⟩
 ·dsimp only; omega
 ·rintro ⟨i, L, a, l⟩ ⟨⟨h1, h2⟩, h4, h5, h6, h7⟩
  dsimp only at h1 h2 h4 h5 h6 h7
  unfold F132s1_l5
  refine Ok.cond (fun hq => ?_) (fun hq => ?_)
  ·simp only [decide_eq_true_eq] at hq
   have e : w64 (i + 1) = i + 1 := wI (by omega)
   dsimp only
   rw [e]
   have skip : ∀ {u : dynposmake_Src}, SrcOk u -> Ok (some (.next (i + 1, u.L, u.At, l)) : Option (Ctl (Int × List Int × Int × List api_Part) Unit)) (RoundSo (fun s => ((1 <= s.1 /\ s.1 <= 5) /\ SrcOk ⟨s.2.1, s.2.2.1⟩ /\ ((s.2.2.2.length : Int) < s.1) /\ (∀ x, x ∈ s.2.2.2 -> PartIn b x /\ x.Kind < s.1) /\ ∀ (j : Nat) x y, s.2.2.2[j]? = some x -> s.2.2.2[j + 1]? = some y -> PartLt x y) /\ (5 - s.1).toNat < (5 - i).toNat) (fun s => SrcOk ⟨s.2.1, s.2.2.1⟩ /\ BrokenOk b s.2.2.2 /\ s.2.2.2.length <= 4) (fun _ => False)) := fun hu =>
    Ok.next ⟨⟨by dsimp only; omega, hu, by dsimp only; omega, fun x hx => ⟨(h6 x hx).1, by have := (h6 x hx).2; dsimp only; omega⟩, h7⟩, by dsimp only; omega⟩
   refine (N_pos h4 5 (by omega) (by omega)).bind fun u hu => Ok.cond (fun _ => ?_) (fun _ => skip hu.1)
   refine (N_pos hu.1 4 (by omega) (by omega)).bind fun v hv => Ok.cond (fun he => ?_) (fun _ => skip hv.1)
   rw [exists_iff h] at he
   refine (Ok.appI (by simp; omega)).bind fun m hm => Ok.next ?_
   subst hm
   refine ⟨⟨by dsimp only; omega, hv.1, by simp; omega, fun x hx => ?_, fun j x y hx hy => ?_⟩, by dsimp only; omega⟩
   ·rcases List.mem_append.1 hx with hx | hx
    ·exact ⟨(h6 x hx).1, by have := (h6 x hx).2; dsimp only; omega⟩
    ·simp at hx; subst hx; exact ⟨he, by dsimp only; omega⟩
   ·dsimp only at hx hy
    have hyl := (List.getElem?_eq_some_iff.1 hy).1
    simp at hyl
    rw [List.getElem?_append_left (by omega)] at hx
    rw [List.getElem?_append] at hy
    split at hy
    ·exact h7 j x y hx hy
    ·rename_i hn
     have e0 : j + 1 - l.length = 0 := by omega
     rw [e0] at hy
     simp at hy; subst hy
     exact .inl (h6 x (List.mem_of_getElem? hx)).2
  ·simp only [decide_eq_false_iff_not] at hq
   exact Ok.brk ⟨h4, ⟨by dsimp only; omega, fun x hx => (h6 x hx).1, h7⟩, by dsimp only; omega⟩
theorem Power_ok {b : api_Board} (h : BoardOk b) {s : dynposmake_Src} (hs : SrcOk s) : Ok (F132s1 s b) fun y => (StateOk b y.1 /\ y.1.Broken.length <= 4) /\ SrcOk y.2 := by
 unfold F132s1
 refine (power_l0 h hs).andThen (fun s0 h0 => ?_) (fun _ h => h.elim)
 refine (power_l1 h h0.2).andThen (fun s1 h1 => ?_) (fun _ h => h.elim)
 refine (power_l3 h h0.1).andThen (fun s3 h3 => ?_) (fun _ h => h.elim)
 refine (power_l4 h h3.1).andThen (fun s4 h4 => ?_) (fun _ h => h.elim)
 refine (power_l5 h h4.1).andThen (fun s5 h5 => ?_) (fun _ h => h.elim)
 exact Ok.pure ⟨⟨⟨h1.1, h3.2.1, h4.2.1, h3.2.2, h4.2.2, h1.2, h5.2.1⟩, h5.2.2⟩, h5.1⟩
def ledO (b : api_Board) (p : api_Power) (k i : Int) : Option Int := ((b.Breakers.zip p.Closed).find? fun z => (z.1.Kind == k && z.1.B == i) && z.2).map (·.1.A)
def flag (o : Option Int) : Int × Bool := match o with
 | some a => (a, true)
 | none => (0, false)
theorem led_from {p : api_Power} {k i : Int} : ∀ (l : List api_Breaker) (c : List Bool) (n : Nat), n + l.length <= 9223372036854775807 -> l.length = c.length -> p.Closed.drop n = c ->
  fI (F195_l0 p k i) l n () = match ((l.zip c).find? fun z => (z.1.Kind == k && z.1.B == i) && z.2) with
   | some z => some (.ret (z.1.A, true))
   | none => some (.next ())
 | [], c, n, _, _, _ => by simp [fI]
 | x :: l, [], n, _, h, _ => by simp at h
 | x :: l, v :: c, n, hn, h, hd => by
  simp only [List.length_cons] at hn h
  have hv : p.Closed[n]? = some v := by
   have := congrArg (·[0]?) hd
   simpa [List.getElem?_drop] using this
  have hd' : p.Closed.drop (n + 1) = c := by rw [← List.drop_drop, hd]; rfl
  have ih := led_from (p := p) (k := k) (i := i) l c (n + 1) (by omega) (by omega) hd'
  have hcnt : cnt 0 n = (n : Int) := cnt0 (by omega)
  simp only [fI, F195_l0, c195_1, hcnt, gN hv, List.zip_cons_cons, List.find?_cons]
  cases hk : (x.Kind == k && x.B == i) with
  | false => simpa [guardO, allEqB] using ih
  | true =>
   cases v with
   | false => simpa [guardO, allEqB] using ih
   | true => simp [guardO, allEqB]
theorem led_eq {b : api_Board} (h : BoardOk b) {p : api_Power} (hc : p.Closed.length = b.Breakers.length) (k i : Int) : F195 b p k i = some (flag (ledO b p k i)) := by
 have hb := h.brl
 unfold F195
 rw [led_from b.Breakers p.Closed 0 (by omega) (by omega) rfl]
 unfold ledO
 cases (b.Breakers.zip p.Closed).find? fun z => (z.1.Kind == k && z.1.B == i) && z.2 with
 | none => rfl
 | some z => rfl
theorem fed_eq {b : api_Board} (h : BoardOk b) {p : api_Power} (hc : p.Closed.length = b.Breakers.length) (i : Int) : F144 b p i = some (flag (ledO b p 3 i)) := by
 unfold F144
 rw [led_eq h hc]; rfl
def conO (b : api_Board) (p : api_Power) (i : Int) : Option Int :=
 if 0 <= i /\ i < p.Sources.length /\ (p.Sources.getD i.toNat default).State = 2 then ledO b p 2 i else none
theorem connected_eq {b : api_Board} (h : BoardOk b) {p : api_Power} (hp : StateOk b p) (i : Int) : F143 b p i = some (flag (conO b p i)) := by
 have hs := h.sol
 have hn := hp.nso
 refine Ok.eq ?_
 unfold F143
 have e1 : w64 ((p.Sources.length : Int) - 1) = (p.Sources.length : Int) - 1 := wI (by omega)
 by_cases hi : 0 <= i /\ i < p.Sources.length
 ·have hin : F99 i 0 (w64 ((p.Sources.length : Int) - 1)) = true := by rw [e1]; exact in_t (by omega)
  obtain ⟨x, hx⟩ : ∃ x, p.Sources[i.toNat]? = some x := ⟨_, List.getElem?_eq_getElem (by omega)⟩
  have hg : getI p.Sources i = some x := by have := gN hx; rwa [Int.toNat_of_nonneg hi.1] at this
  have hd : p.Sources.getD i.toNat default = x := by simp [List.getD, hx]
  rw [hin, hg]
  refine Ok.bind (P := fun y => y = x) (Ok.guard (fun _ => Ok.pure rfl) fun hn => (hn ⟨rfl, trivial⟩).elim) fun y hy => ?_
  subst hy
  unfold conO
  refine Ok.cond (fun hc => ?_) (fun hc => ?_)
  ·simp only [c143_0, hin, Bool.or_eq_true, Bool.not_true, Bool.false_eq_true, false_or, bne_iff_ne, ne_eq] at hc
   rw [hd, if_neg (fun hh => hc hh.2.2)]
   exact Ok.pure rfl
  ·have hc := ff hc
   simp only [c143_0, hin, Bool.or_eq_true, Bool.not_true, Bool.false_eq_true, false_or, bne_iff_ne, ne_eq, Decidable.not_not] at hc
   rw [hd, if_pos ⟨hi.1, hi.2, hc⟩, led_eq h hp.ncl]
   exact Ok.pure rfl
 ·have hin : F99 i 0 (w64 ((p.Sources.length : Int) - 1)) = false := by
   cases hq : F99 i 0 (w64 ((p.Sources.length : Int) - 1)) with
   | false => rfl
   | true => rw [in_iff, e1] at hq; omega
  rw [hin]
  unfold conO
  rw [if_neg (fun hh => hi ⟨hh.1, hh.2.1⟩)]
  refine Ok.bind (P := fun _ => True) (Ok.guard (fun hg => absurd hg.1 (by simp)) fun _ => trivial) fun y _ => ?_
  refine Ok.cond (fun _ => Ok.pure rfl) (fun hc => ?_)
  simp [c143_0, hin] at hc
theorem ledO_bus {b : api_Board} (h : BoardOk b) {p : api_Power} {k i a : Int} (e : ledO b p k i = some a) : 0 <= a /\ a < b.Buses := by
 unfold ledO at e
 rw [Option.map_eq_some_iff] at e
 obtain ⟨z, hz, rfl⟩ := e
 exact (h.br z.1 (List.of_mem_zip (List.mem_of_find?_eq_some hz)).1).1
theorem conO_bus {b : api_Board} (h : BoardOk b) {p : api_Power} {i a : Int} (e : conO b p i = some a) : 0 <= a /\ a < b.Buses := by
 unfold conO at e
 split at e
 ·exact ledO_bus h e
 ·cases e
def gstep (s : List Int) (z : api_Breaker × Bool) : List Int :=
 if z.1.Kind = 1 /\ z.2 = true then (s.set z.1.A.toNat (min (s.getD z.1.A.toNat 0) (s.getD z.1.B.toNat 0))).set z.1.B.toNat (min (s.getD z.1.A.toNat 0) (s.getD z.1.B.toNat 0)) else s
def ground (l : List (api_Breaker × Bool)) (s : List Int) : List Int := l.foldl gstep s
def rangeI (n : Nat) : List Int := (List.range n).map fun (i : Nat) => (i : Int)
def groups (b : api_Board) (p : api_Power) : List Int := (List.range b.Buses.toNat).foldl (fun s _ => ground (b.Breakers.zip p.Closed) s) (rangeI b.Buses.toNat)
theorem gstep_length (s : List Int) (z : api_Breaker × Bool) : (gstep s z).length = s.length := by
 unfold gstep; split <;> simp
theorem ground_length (l : List (api_Breaker × Bool)) : ∀ s : List Int, (ground l s).length = s.length := by
 induction l with
 | nil => intro s; rfl
 | cons z l ih => intro s; show (ground l (gstep s z)).length = _; rw [ih, gstep_length]
theorem groups_from {b : api_Board} {p : api_Power} {n : Nat} : ∀ (xs : List Nat) (s : List Int), s.length = n -> (xs.foldl (fun s _ => ground (b.Breakers.zip p.Closed) s) s).length = n
 | [], s, h => h
 | _ :: xs, s, h => groups_from xs _ (by rw [ground_length]; exact h)
theorem groups_length (b : api_Board) (p : api_Power) : (groups b p).length = b.Buses.toNat := groups_from _ _ (by simp [rangeI])
theorem group_l2 {b : api_Board} (h : BoardOk b) {p : api_Power} (hc : p.Closed.length = b.Breakers.length) {s : List Int} (hs : s.length = b.Buses.toNat) :
  Ok (fI (F142_l2 p) b.Breakers 0 s) (EndsSo (fun r => r = ground (b.Breakers.zip p.Closed) s) (fun (_ : Unit) => False)) := by
 have hb := h.brl
 have hbu := h.buses
 refine Ok.foldI0 (I := fun j r => r = ground ((b.Breakers.take j).zip (p.Closed.take j)) s) (by simp [ground]) (fun j x r hx hr => ?_) fun r hr => ?_
 ·have hj := (List.getElem?_eq_some_iff.1 hx).1
  obtain ⟨v, hv⟩ : ∃ v, p.Closed[j]? = some v := ⟨_, List.getElem?_eq_getElem (by omega)⟩
  have hcnt : cnt 0 j = (j : Int) := cnt0 (by omega)
  have hl : r.length = b.Buses.toNat := by rw [hr, ground_length, hs]
  have hnext : ground ((b.Breakers.take (j + 1)).zip (p.Closed.take (j + 1))) s = gstep r (x, v) := by
   rw [take_succ' hx, take_succ' hv, List.zip_append (by simp; omega)]
   unfold ground at hr ⊢
   rw [List.foldl_append, ← hr]; rfl
  rw [hnext]
  unfold F142_l2
  rw [hcnt, gN hv]
  obtain ⟨⟨a0, a1⟩, hk⟩ := h.br x (List.mem_of_getElem? hx)
  by_cases k1 : x.Kind = 1
  ·rw [beq_iff_eq.2 k1]
   refine Ok.bind (P := fun y => y = v) (Ok.guard (fun _ => Ok.pure rfl) fun hn => (hn ⟨rfl, trivial⟩).elim) fun y hy => ?_
   subst hy
   have hB : x.A < x.B /\ x.B < b.Buses := by omega
   cases y with
   | false =>
    refine Ok.cond (fun hq => by simp at hq) (fun _ => Ok.next ?_)
    simp [gstep]
   | true =>
    refine Ok.cond (fun _ => ?_) (fun hq => by simp at hq)
    refine (Ok.getI a0 (by omega)).bind fun u hu => (Ok.getI (by omega) (by omega)).bind fun w hw => (Ok.setI a0 (by omega)).bind fun t ht => ?_
    subst ht
    refine (Ok.getI (by omega) (by simp; omega)).bind fun _ _ => (Ok.setI (by omega) (by simp; omega)).bind fun t ht => Ok.next ?_
    subst ht
    simp [gstep, k1, List.getD, hu, hw]
  ·rw [beq_eq_false_iff_ne.2 k1]
   refine Ok.bind (P := fun _ => True) (Ok.guard (fun hg => absurd hg.1 (by simp)) fun _ => trivial) fun y _ => ?_
   refine Ok.cond (fun hq => by simp at hq) (fun _ => Ok.next ?_)
   simp [gstep, k1]
 ·rw [List.take_length, ← hc, List.take_length] at hr
  exact hr
theorem groups_eq {b : api_Board} (h : BoardOk b) {p : api_Power} (hc : p.Closed.length = b.Breakers.length) : F142 b p = some (groups b p) := by
 have hbu := h.buses
 refine Ok.eq ?_
 unfold F142
 refine (Ok.mkI (by omega) (by omega)).bind fun y hy => ?_
 refine Ok.andThen (A := fun s => s = rangeI b.Buses.toNat) (B := fun (_ : Unit) => False) ?_ ?_ (fun _ h => h.elim)
 ·refine Ok.foldI0 (I := fun j s => s = (List.range b.Buses.toNat).map fun i => if i < j then (i : Int) else 0) ?_ (fun j x s hx hs => ?_) fun s hs => ?_
  ·rw [hy, rep_range]
   exact List.map_congr_left fun i _ => by simp
  ·have hj := (List.getElem?_eq_some_iff.1 hx).1
   have hjl : j < b.Buses.toNat := by rw [hy] at hj; simpa using hj
   have hcnt : cnt 0 j = (j : Int) := cnt0 (by omega)
   subst hs
   unfold F142_l0
   rw [hcnt]
   refine (Ok.getR (by omega) (by omega)).bind fun _ _ => (Ok.setR (by omega) (by omega)).bind fun z hz => Ok.next ?_
   rw [hz]
   refine List.map_congr_left fun i _ => ?_
   by_cases e : i = j
   ·subst e; simp
   ·have : ((j : Int)).toNat = j := by omega
    rw [this, if_neg e]
    by_cases e2 : i < j
    ·rw [if_pos e2, if_pos (by omega)]
    ·rw [if_neg e2, if_neg (by omega)]
  ·rw [hs]
   unfold rangeI
   refine List.map_congr_left fun i hi => ?_
   rw [hy]
   simp at hi
   simp [hi]
 ·rintro s rfl
  refine Ok.andThen (A := fun s => s = groups b p) (B := fun (_ : Unit) => False) ?_ (fun s hs => Ok.pure hs) (fun _ h => h.elim)
  refine Ok.foldI0 (I := fun j s => s = (List.range j).foldl (fun s _ => ground (b.Breakers.zip p.Closed) s) (rangeI b.Buses.toNat)) rfl (fun j x s hx hs => ?_) fun s hs => ?_
  ·unfold F142_l1
   have hl : s.length = b.Buses.toNat := by rw [hs]; exact groups_from _ _ (by simp [rangeI])
   refine (group_l2 h hc hl).inner (fun r hr => Ok.next ?_) (fun _ h => h.elim)
   rw [hr, List.range_succ, List.foldl_append, ← hs]; rfl
  ·rw [hs]
   unfold groups
   congr 2
   simp [rangeI]
theorem gstep_lo {s : List Int} (h : ∀ (i : Nat) v, s[i]? = some v -> 0 <= v /\ v <= i) {z : api_Breaker × Bool} (hz : z.1.Kind = 1 -> 0 <= z.1.A /\ z.1.A < z.1.B /\ z.1.B < s.length) : ∀ (i : Nat) v, (gstep s z)[i]? = some v -> 0 <= v /\ v <= i := by
 unfold gstep
 split
 ·rename_i hk
  obtain ⟨h1, h2, h3⟩ := hz hk.1
  have ga : s[z.1.A.toNat]? = some (s.getD z.1.A.toNat 0) := by rw [List.getElem?_eq_getElem (by omega)]; simp [List.getD, List.getElem?_eq_getElem (show z.1.A.toNat < s.length by omega)]
  have gb : s[z.1.B.toNat]? = some (s.getD z.1.B.toNat 0) := by rw [List.getElem?_eq_getElem (by omega)]; simp [List.getD, List.getElem?_eq_getElem (show z.1.B.toNat < s.length by omega)]
  have ha := h _ _ ga
  have hb := h _ _ gb
  intro i v hv
  rw [List.getElem?_set] at hv
  split at hv
  ·rename_i e; subst e
   split at hv
   ·cases hv; omega
   ·cases hv
  ·rw [List.getElem?_set] at hv
   split at hv
   ·rename_i e; subst e
    split at hv
    ·cases hv; omega
    ·cases hv
   ·exact h i v hv
 ·exact h
theorem ground_lo {n : Nat} : ∀ (l : List (api_Breaker × Bool)) (s : List Int), s.length = n -> (∀ z, z ∈ l -> z.1.Kind = 1 -> 0 <= z.1.A /\ z.1.A < z.1.B /\ z.1.B < n) -> (∀ (i : Nat) v, s[i]? = some v -> 0 <= v /\ v <= i) -> ∀ (i : Nat) v, (ground l s)[i]? = some v -> 0 <= v /\ v <= i
 | [], s, _, _, h => h
 | z :: l, s, hs, hz, h => ground_lo l (gstep s z) (by rw [gstep_length]; exact hs) (fun y hy => hz y (List.mem_cons_of_mem _ hy)) (gstep_lo h (by rw [hs]; exact hz z List.mem_cons_self))
theorem groups_lo {b : api_Board} (h : BoardOk b) (p : api_Power) : ∀ (i : Nat) v, (groups b p)[i]? = some v -> 0 <= v /\ v <= i := by
 have hbu := h.buses
 have hz : ∀ z, z ∈ b.Breakers.zip p.Closed -> z.1.Kind = 1 -> 0 <= z.1.A /\ z.1.A < z.1.B /\ z.1.B < (b.Buses.toNat : Int) := by
  intro z hz hk
  have := h.br z.1 (List.of_mem_zip hz).1
  unfold BrOk at this
  omega
 have key : ∀ (xs : List Nat) (s : List Int), s.length = b.Buses.toNat -> (∀ (i : Nat) v, s[i]? = some v -> 0 <= v /\ v <= i) -> ∀ (i : Nat) v, (xs.foldl (fun s _ => ground (b.Breakers.zip p.Closed) s) s)[i]? = some v -> 0 <= v /\ v <= i := by
  intro xs
  induction xs with
  | nil => intro s _ h; exact h
  | cons x xs ih => intro s hl h; exact ih _ (by rw [ground_length]; exact hl) (ground_lo _ s hl hz h)
 refine key _ _ (by simp [rangeI]) ?_
 intro i v hv
 simp only [rangeI, List.getElem?_map] at hv
 cases hr : (List.range b.Buses.toNat)[i]? with
 | none => rw [hr] at hv; cases hv
 | some k =>
  rw [hr] at hv
  have := List.getElem?_eq_some_iff.1 hr
  simp at this
  obtain ⟨_, rfl⟩ := this
  cases hv; dsimp only; omega
def full (x : api_Island) : Bool := !((x.Buses.length : Int) == 0)
theorem delI_idx (l : List api_Island) (h : l.length <= 9223372036854775807) : F141s0 l = some (idxI (fun x => (x.Buses.length : Int) == 0) l) := by
 unfold F141s0
 exact search_eq (fun x : api_Island => (x.Buses.length : Int) == 0) (fun i y => rfl) l h
theorem delI_eq (l : List api_Island) (hl : l.length <= 1000) : F145s1 l = some (l.filter full) := by
 refine Ok.eq ?_
 unfold F145s1
 rw [delI_idx l (by omega)]
 simp only [Option.bind_some]
 unfold idxI
 cases hf : l.findIdx? fun x => (x.Buses.length : Int) == 0 with
 | none =>
  rw [List.findIdx?_eq_none_iff] at hf
  refine Ok.cond (fun _ => Ok.pure ?_) (fun hc => by simp at hc)
  rw [eq_comm, List.filter_eq_self]
  intro x hx
  simp only [full, hf x hx]; rfl
 | some i =>
  rw [List.findIdx?_eq_some_iff_getElem] at hf
  obtain ⟨hi, hp, hn⟩ := hf
  refine Ok.cond (fun hc => ?_) (fun _ => ?_)
  ·simp only [beq_iff_eq] at hc; omega
  have e1 : w64 ((i : Int) + 1) = (i : Int) + 1 := wI (by omega)
  simp only [e1]
  refine Ok.andThen (A := fun s => 0 <= s.1 /\ s.1 <= (l.length : Int) /\ s.2.2.length = l.length /\ s.2.2.take s.1.toNat = l.filter full) (B := fun (_ : Unit) => False) ?_ ?_ (fun _ h => h.elim)
  ·refine Ok.whileN (fun s => (0 <= s.1 /\ s.1 < s.2.1 /\ s.2.1 <= (l.length : Int)) /\ s.2.2.length = l.length /\ s.2.2.take s.1.toNat = (l.take s.2.1.toNat).filter full /\ s.2.2.drop s.2.1.toNat = l.drop s.2.1.toNat) (fun s => ((l.length : Int) - s.2.1).toNat) _ _ ?_ ?_ ?_
   ·refine ⟨by dsimp only; omega, rfl, ?_, rfl⟩
    dsimp only
    have e2 : ((i : Int) + 1).toNat = i + 1 := by omega
    rw [e2, Int.toNat_natCast, take_succ' (List.getElem?_eq_getElem hi), List.filter_append]
    have h1 : (l.take i).filter full = l.take i := by
     rw [List.filter_eq_self]
     intro x hx
     obtain ⟨j, hj, rfl⟩ := List.getElem_of_mem hx
     simp only [List.length_take] at hj
     rw [List.getElem_take]
     have := hn j (by omega)
     simp only [full]
     simpa using this
    have h2 : full l[i] = false := by simp only [full, hp]; rfl
    rw [h1]
    simp [h2]
   ·dsimp only; omega
   ·rintro ⟨a, j, m⟩ ⟨⟨h1, h2, h3⟩, h4, h5, h6⟩
    dsimp only at h1 h2 h3 h4 h5 h6
    unfold F145s1_l0 c145s1_2
    dsimp only
    refine Ok.cond (fun hq => ?_) (fun hq => ?_)
    ·simp only [decide_eq_true_eq] at hq
     have e1 : w64 (j + 1) = j + 1 := wI (by omega)
     have e2 : w64 (a + 1) = a + 1 := wI (by omega)
     have e3 : (j + 1).toNat = j.toNat + 1 := by omega
     have e4 : (a + 1).toNat = a.toNat + 1 := by omega
     refine (Ok.getI (by omega) (by omega)).bind fun y hy => ?_
     have hyl : l[j.toNat]? = some y := by
      have := congrArg (·[0]?) h6
      simp only [List.getElem?_drop, Nat.add_zero] at this
      rw [← this]; exact hy
     have hdrop : ∀ (q : List api_Island), q.drop j.toNat = l.drop j.toNat -> q.drop (j.toNat + 1) = l.drop (j.toNat + 1) := fun q hq => by
      rw [← List.drop_drop, hq, List.drop_drop]
     refine Ok.cond (fun hf => ?_) (fun hf => ?_)
     ·refine (Ok.getI (by omega) (by omega)).bind fun _ _ => (Ok.setI (by omega) (by omega)).bind fun z hz => ?_
      rw [e1, e2]
      subst hz
      refine Ok.next ⟨⟨by dsimp only; omega, by simpa using h4, ?_, ?_⟩, by dsimp only; omega⟩
      ·dsimp only
       rw [e3, e4, take_succ' hyl, List.filter_append, ← h5]
       have hfl : full y = true := hf
       rw [take_succ' (x := y) (by rw [List.getElem?_set_self (by omega)])]
       simp [hfl, List.take_set_of_le]
      ·dsimp only
       rw [e3, List.drop_set_of_lt (by omega)]
       exact hdrop m h6
     ·rw [e1]
      refine Ok.next ⟨⟨by dsimp only; omega, h4, ?_, ?_⟩, by dsimp only; omega⟩
      ·dsimp only
       have hfl : full y = false := hf
       rw [e3, take_succ' hyl, List.filter_append, ← h5]
       simp [hfl]
      ·dsimp only
       rw [e3]; exact hdrop m h6
    ·simp only [decide_eq_false_iff_not] at hq
     have e : j.toNat = l.length := by omega
     refine Ok.brk ⟨h1, by dsimp only; omega, h4, ?_⟩
     dsimp only
     rw [h5, e, List.take_length]
  ·rintro ⟨a, j, m⟩ ⟨h1, h2, h3, h4⟩
   dsimp only at h1 h2 h3 h4 ⊢
   have hc : (clrI m a.toNat ((Int.toNat (m.length : Int)) - a.toNat) (⟨([] : List Int), ([] : List Int), ([] : List Int)⟩ : api_Island)).length = l.length := by
    simp [clrI]; omega
   refine (Ok.bndI h1 (by omega) (by omega)).bind fun _ _ => (Ok.bndI (by omega) h1 (by rw [hc]; omega)).bind fun _ _ => Ok.pure ?_
   rw [← h4]
   unfold clrI
   rw [Nat.sub_zero, List.take_append_of_le_length (by simp; omega), List.take_take, Nat.min_self]
def grpOf (b : api_Board) (p : api_Power) (o : Option Int) : Option Int := o.map fun a => (groups b p).getD a.toNat 0
def busesOf (b : api_Board) (p : api_Power) (n f : Nat) : List Int := ((List.range n).filter fun (i : Nat) => (groups b p).getD i 0 == (f : Int)).map fun (i : Nat) => (i : Int)
def srcsOf (b : api_Board) (p : api_Power) (n f : Nat) : List Int := ((List.range n).filter fun (i : Nat) => grpOf b p (conO b p (i : Int)) == some (f : Int)).map fun (i : Nat) => (i : Int)
def consOf (b : api_Board) (p : api_Power) (n f : Nat) : List Int := ((List.range n).filter fun (i : Nat) => grpOf b p (ledO b p 3 (i : Int)) == some (f : Int)).map fun (i : Nat) => (i : Int)
def isl (b : api_Board) (p : api_Power) (f : Nat) : api_Island := ⟨busesOf b p b.Buses.toNat f, srcsOf b p b.Sources.length f, consOf b p b.Consumers.length f⟩
def islands (b : api_Board) (p : api_Power) : List api_Island := ((List.range b.Buses.toNat).map (isl b p)).filter full
theorem filt_succ (q : Nat -> Bool) (n : Nat) : ((List.range (n + 1)).filter q).map (fun (i : Nat) => (i : Int)) = ((List.range n).filter q).map (fun (i : Nat) => (i : Int)) ++ if q n = true then [(n : Int)] else [] := by
 rw [List.range_succ, List.filter_append, List.map_append]
 congr 1
 cases h : q n <;> simp [h]
theorem filt_len (q : Nat -> Bool) (n : Nat) : (((List.range n).filter q).map (fun (i : Nat) => (i : Int))).length <= n := by
 have := List.length_filter_le q (List.range n)
 simpa using this
theorem islands_eq {b : api_Board} (h : BoardOk b) {p : api_Power} (hp : StateOk b p) : F89 b p = some (islands b p) := by
 have hbu := h.buses
 have hso := h.sol
 have hco := h.col
 have hgl := groups_length b p
 have hglo := groups_lo h p
 refine Ok.eq ?_
 unfold F89
 rw [state_ok h hp]
 simp only [Option.bind_some]
 refine Ok.cond (fun hc => by simp at hc) (fun _ => ?_)
 rw [groups_eq h hp.ncl]
 simp only [Option.bind_some]
 refine (Ok.mkI (by omega) (by omega)).bind fun y hy => ?_
 have hget : ∀ (i : Nat), i < b.Buses.toNat -> (groups b p)[i]? = some ((groups b p).getD i 0) := fun i hi => by
  have : i < (groups b p).length := by omega
  simp [List.getD, List.getElem?_eq_getElem this]
 refine Ok.andThen (A := fun s => s = (List.range b.Buses.toNat).map fun f => (⟨busesOf b p b.Buses.toNat f, [], []⟩ : api_Island)) (B := fun (_ : Unit) => False) ?_ ?_ (fun _ h => h.elim)
 ·refine Ok.foldI0 (I := fun j s => s = (List.range b.Buses.toNat).map fun f => (⟨busesOf b p j f, [], []⟩ : api_Island)) ?_ (fun j x s hx hs => ?_) fun s hs => ?_
  ·rw [hy, rep_range]; rfl
  ·subst hs
   have hj : j < b.Buses.toNat := by have := (List.getElem?_eq_some_iff.1 hx).1; omega
   have hlo := hglo j x hx
   have hxe : (groups b p).getD j 0 = x := by simp [List.getD, hx]
   have hcnt : cnt 0 j = (j : Int) := cnt0 (by omega)
   unfold F89_l0
   rw [hcnt]
   refine (Ok.getR (by omega) (by omega)).bind fun u hu => ?_
   subst hu
   have hl : (busesOf b p j x.toNat).length <= j := filt_len _ _
   refine (Ok.appI (by simp; omega)).bind fun v hv => (Ok.setR (by omega) (by omega)).bind fun w hw => Ok.next ?_
   rw [hw]
   refine List.map_congr_left fun f _ => ?_
   unfold busesOf
   rw [filt_succ, hxe]
   by_cases e : f = x.toNat
   ·subst e
    rw [if_pos rfl, if_pos (by simp; omega), hv]
    rfl
   ·rw [if_neg e, if_neg (by simp; omega), List.append_nil]
  ·rw [hgl] at hs; exact hs
 ·rintro s rfl
  refine Ok.andThen (A := fun s => s.2 = (List.range b.Buses.toNat).map fun f => (⟨busesOf b p b.Buses.toNat f, srcsOf b p b.Sources.length f, []⟩ : api_Island)) (B := fun (_ : Unit) => False) ?_ ?_ (fun _ h => h.elim)
  ·refine Ok.whileN (fun s => (0 <= s.1 /\ s.1 <= (b.Sources.length : Int)) /\ s.2 = (List.range b.Buses.toNat).map fun f => (⟨busesOf b p b.Buses.toNat f, srcsOf b p s.1.toNat f, []⟩ : api_Island)) (fun s => ((b.Sources.length : Int) - s.1).toNat) _ _ ?_ ?_ ?_
   ·exact ⟨by dsimp only; omega, rfl⟩
   ·dsimp only; omega
   ·rintro ⟨i, s⟩ ⟨⟨h1, h2⟩, h3⟩
    dsimp only at h1 h2 h3
    subst h3
    unfold F89_l1 c89_1
    dsimp only
    refine Ok.cond (fun hq => ?_) (fun hq => ?_)
    ·simp only [decide_eq_true_eq] at hq
     have e1 : w64 (i + 1) = i + 1 := wI (by omega)
     have e2 : (i + 1).toNat = i.toNat + 1 := by omega
     have e3 : ((i.toNat : Nat) : Int) = i := by omega
     rw [connected_eq h hp]
     simp only [Option.bind_some]
     cases hcn : conO b p i with
     | none =>
      refine Ok.cond (fun hc => by simp [flag] at hc) (fun _ => ?_)
      rw [e1]
      refine Ok.next ⟨⟨by dsimp only; omega, ?_⟩, by dsimp only; omega⟩
      dsimp only
      rw [e2]
      refine List.map_congr_left fun f _ => ?_
      unfold srcsOf
      rw [filt_succ, e3, hcn, if_neg (by simp [grpOf]), List.append_nil]
     | some a =>
      have hab := conO_bus h hcn
      have hga := hget a.toNat (by omega)
      have hgla := hglo _ _ hga
      refine Ok.cond (fun _ => ?_) (fun hc => by simp [flag] at hc)
      have hg2 : getI (groups b p) a = some ((groups b p).getD a.toNat 0) := by have := gN hga; rwa [Int.toNat_of_nonneg hab.1] at this
      simp only [flag, hg2, Option.bind_some]
      generalize hge : (groups b p).getD a.toNat 0 = ga at hgla
      refine (Ok.getR (by omega) (by omega)).bind fun u hu => ?_
      subst hu
      have hl : (srcsOf b p i.toNat ga.toNat).length <= i.toNat := filt_len _ _
      refine (Ok.appI (by simp; omega)).bind fun v hv => (Ok.setR (by omega) (by omega)).bind fun w hw => ?_
      rw [e1]
      refine Ok.next ⟨⟨by dsimp only; omega, ?_⟩, by dsimp only; omega⟩
      dsimp only
      rw [hw, e2]
      refine List.map_congr_left fun f _ => ?_
      unfold srcsOf
      rw [filt_succ, e3, hcn]
      simp only [grpOf, Option.map_some, hge]
      by_cases e : f = ga.toNat
      ·subst e
       rw [if_pos rfl, if_pos (by simp; omega), hv]
       rfl
      ·rw [if_neg e, if_neg (by simp; omega), List.append_nil]
    ·simp only [decide_eq_false_iff_not] at hq
     have e : i.toNat = b.Sources.length := by omega
     rw [e]
     exact Ok.brk rfl
  ·rintro ⟨i0, s⟩ hs
   dsimp only at hs
   subst hs
   dsimp only
   refine Ok.andThen (A := fun s => s.2 = (List.range b.Buses.toNat).map (isl b p)) (B := fun (_ : Unit) => False) ?_ ?_ (fun _ h => h.elim)
   ·refine Ok.whileN (fun s => (0 <= s.1 /\ s.1 <= (b.Consumers.length : Int)) /\ s.2 = (List.range b.Buses.toNat).map fun f => (⟨busesOf b p b.Buses.toNat f, srcsOf b p b.Sources.length f, consOf b p s.1.toNat f⟩ : api_Island)) (fun s => ((b.Consumers.length : Int) - s.1).toNat) _ _ ?_ ?_ ?_
    ·exact ⟨by dsimp only; omega, rfl⟩
    ·dsimp only; omega
    ·rintro ⟨i, s⟩ ⟨⟨h1, h2⟩, h3⟩
     dsimp only at h1 h2 h3
     subst h3
     unfold F89_l2 c89_3
     dsimp only
     refine Ok.cond (fun hq => ?_) (fun hq => ?_)
     ·simp only [decide_eq_true_eq] at hq
      have e1 : w64 (i + 1) = i + 1 := wI (by omega)
      have e2 : (i + 1).toNat = i.toNat + 1 := by omega
      have e3 : ((i.toNat : Nat) : Int) = i := by omega
      rw [fed_eq h hp.ncl]
      simp only [Option.bind_some]
      cases hcn : ledO b p 3 i with
      | none =>
       refine Ok.cond (fun hc => by simp [flag] at hc) (fun _ => ?_)
       rw [e1]
       refine Ok.next ⟨⟨by dsimp only; omega, ?_⟩, by dsimp only; omega⟩
       dsimp only
       rw [e2]
       refine List.map_congr_left fun f _ => ?_
       unfold consOf
       rw [filt_succ, e3, hcn, if_neg (by simp [grpOf]), List.append_nil]
      | some a =>
       have hab := ledO_bus h hcn
       have hga := hget a.toNat (by omega)
       have hgla := hglo _ _ hga
       refine Ok.cond (fun _ => ?_) (fun hc => by simp [flag] at hc)
       have hg2 : getI (groups b p) a = some ((groups b p).getD a.toNat 0) := by have := gN hga; rwa [Int.toNat_of_nonneg hab.1] at this
       simp only [flag, hg2, Option.bind_some]
       generalize hge : (groups b p).getD a.toNat 0 = ga at hgla
       refine (Ok.getR (by omega) (by omega)).bind fun u hu => ?_
       subst hu
       have hl : (consOf b p i.toNat ga.toNat).length <= i.toNat := filt_len _ _
       refine (Ok.appI (by simp; omega)).bind fun v hv => (Ok.setR (by omega) (by omega)).bind fun w hw => ?_
       rw [e1]
       refine Ok.next ⟨⟨by dsimp only; omega, ?_⟩, by dsimp only; omega⟩
       dsimp only
       rw [hw, e2]
       refine List.map_congr_left fun f _ => ?_
       unfold consOf
       rw [filt_succ, e3, hcn]
       simp only [grpOf, Option.map_some, hge]
       by_cases e : f = ga.toNat
       ·subst e
        rw [if_pos rfl, if_pos (by simp; omega), hv]
        rfl
       ·rw [if_neg e, if_neg (by simp; omega), List.append_nil]
     ·simp only [decide_eq_false_iff_not] at hq
      have e : i.toNat = b.Consumers.length := by omega
      rw [e]
      exact Ok.brk rfl
   ·rintro ⟨i1, s⟩ hs
    dsimp only at hs
    subst hs
    dsimp only
    rw [delI_eq _ (by simp; omega)]
    exact Ok.pure rfl
theorem app0 {α : Type} {B : Nat} {l : List α} (h : l.length * B <= 140737488355328) : appI B [] l = some l := by
 unfold appI
 have : decide ((([] : List α).length + l.length) * B <= 140737488355328) = true := by simpa using h
 rw [this]; rfl
structure Lens (p : api_Power) : Prop where
 c : p.Closed.length <= 1000
 s : p.Sources.length <= 1000
 l : p.Limits.length <= 1000
 k : p.Broken.length <= 1000
theorem StateOk.lens {b : api_Board} (h : BoardOk b) {p : api_Power} (hp : StateOk b p) : Lens p := by
 have h1 := hp.ncl
 have h2 := hp.nso
 have h3 := hp.nli
 have h4 := hp.brk.len
 have h5 := h.brl
 have h6 := h.sol
 have h7 := h.col
 exact ⟨by omega, by omega, by omega, by omega⟩
def tune (like x : api_Running) : api_Running := ⟨x.State, x.Since, like.Frequency, like.Phase⟩
def setL (like : api_Running) (idx : List Int) (ss : List api_Running) : List api_Running := idx.foldl (fun s i => s.set i.toNat (tune like (s.getD i.toNat default))) ss
theorem setL_length (like : api_Running) : ∀ (idx : List Int) (ss : List api_Running), (setL like idx ss).length = ss.length
 | [], _ => rfl
 | i :: idx, ss => by
  show (setL like idx _).length = _
  rw [setL_length like idx, List.length_set]
theorem setL_take {like : api_Running} {idx : List Int} {j : Nat} {i : Int} (h : idx[j]? = some i) (ss : List api_Running) : setL like (idx.take (j + 1)) ss = (setL like (idx.take j) ss).set i.toNat (tune like ((setL like (idx.take j) ss).getD i.toNat default)) := by
 unfold setL
 rw [take_succ' h, List.foldl_append]; rfl
def followL (b : api_Board) (p : api_Power) : List api_Running := (islands b p).foldl (fun s x => match x.Sources with | [] => s | i :: _ => setL (p.Sources.getD i.toNat default) x.Sources s) p.Sources
theorem isl_src {b : api_Board} {p : api_Power} {x : api_Island} (h : x ∈ islands b p) : ∀ i, i ∈ x.Sources -> 0 <= i /\ i < b.Sources.length := by
 unfold islands at h
 obtain ⟨f, _, rfl⟩ := List.mem_map.1 (List.mem_filter.1 h).1
 intro i hi
 obtain ⟨k, hk, rfl⟩ := List.mem_map.1 hi
 have := List.mem_range.1 (List.mem_filter.1 hk).1
 omega
def fstep (p : api_Power) (s : List api_Running) (x : api_Island) : List api_Running := match x.Sources with
 | [] => s
 | i :: _ => setL (p.Sources.getD i.toNat default) x.Sources s
theorem fstep_length (p : api_Power) (s : List api_Running) (x : api_Island) : (fstep p s x).length = s.length := by
 unfold fstep; split
 ·rfl
 ·rw [setL_length]
theorem fold_length (p : api_Power) : ∀ (l : List api_Island) (s : List api_Running), (l.foldl (fstep p) s).length = s.length
 | [], _ => rfl
 | x :: l, s => by show (l.foldl (fstep p) _).length = _; rw [fold_length p l, fstep_length]
theorem followL_length (b : api_Board) (p : api_Power) : (followL b p).length = p.Sources.length := fold_length p _ _
def AllOpen (p : api_Power) : Prop := ∀ c, c ∈ p.Closed -> c = false
structure TableOk (y : api_Table) : Prop where
 stop : 1 <= y.Stop /\ y.Stop <= 99
 start : y.Stop < y.Start /\ y.Start <= 100
 delay : 0 <= y.Delay /\ y.Delay <= 600
theorem Table_ok {s : dynposmake_Src} (hs : SrcOk s) : Ok (F30 s) fun y => TableOk y.1 /\ SrcOk y.2 := by
 unfold F30
 refine (Pick_ok hs _ (by simp) (by simp)).bind fun u hu => (Pick_ok hu.1 _ (by simp) (by simp)).bind fun v hv => (Pick_ok hv.1 _ (by simp) (by simp)).bind fun w hw => Ok.pure ⟨?_, hw.1⟩
 have g1 : u.1 = 60 \/ u.1 = 80 \/ u.1 = 100 := by simpa using hu.2
 have g2 : v.1 = 1 \/ v.1 = 30 \/ v.1 = 50 := by simpa using hv.2
 have g3 : w.1 = 0 \/ w.1 = 1 \/ w.1 = 3 := by simpa using hw.2
 exact ⟨by dsimp only; omega, by dsimp only; omega, by dsimp only; omega⟩
def idleR : api_Roster := ⟨-1, -1⟩
def offR : api_Running := ⟨0, 0, 5000, 0⟩
def newPower (b : api_Board) : api_Power := ⟨List.replicate b.Breakers.length false, List.replicate b.Sources.length offR, b.Consumers.map (·.Load), []⟩
def newP (b : api_Board) : api_Plant := ⟨0, newPower b, List.replicate b.Buses.toNat idleR, []⟩
def RosOk (t : Int) (x : api_Roster) : Prop := (-1 <= x.High /\ x.High <= t) /\ -1 <= x.Low /\ x.Low <= t
structure PlantOk (b : api_Board) (y : api_Table) (p : api_Plant) : Prop where
 st : StateOk b p.Power
 fol : followL b p.Power = p.Power.Sources
 time : 0 <= p.Time /\ p.Time <= 2147483648
 nro : p.Rosters.length = b.Buses.toNat
 ros : ∀ x, x ∈ p.Rosters -> RosOk p.Time x
def brk (l : List api_Part) (k n : Int) : Bool := l.any fun x => k == x.Kind && n == x.Number
theorem broken_eq {p : api_Power} (h : p.Broken.length <= 1000) (k n : Int) : F103 p k n = some (brk p.Broken k n) := by
 unfold F103 F157 F200
 rw [search_eq (fun x : api_Part => (k == x.Kind) && ((n == x.Number) && true)) (fun i y => rfl) p.Broken (by omega)]
 simp only [Option.bind_some, idxI_any, brk, Bool.and_true]
def brkOf (b : api_Board) (i : Int) : Int := idxI (fun x : api_Breaker => x.Kind == 2 && x.B == i) b.Breakers
def soundB (b : api_Board) (l : List api_Part) (i : Int) : Bool :=
 let x := b.Breakers.getD i.toNat default
 (!brk l 2 i && !brk l 3 x.A) && ((x.Kind != 1) || !brk l 3 x.B)
def usableB (b : api_Board) (p : api_Power) (i : Int) : Bool := (soundB b p.Broken (brkOf b i) && !brk p.Broken 1 i) && ((p.Sources.getD i.toNat default).State != 3)
def lit (b : api_Board) (u : Int -> Bool) (s : List Bool) (i : Nat) : List Bool := if u (i : Int) then s.set (b.Breakers.getD (brkOf b (i : Int)).toNat default).A.toNat true else s
def spread (sd : Int -> Bool) (s : List Bool) (z : api_Breaker × Nat) : List Bool :=
 if z.1.Kind = 1 /\ sd (z.2 : Int) = true then (s.set z.1.A.toNat (s.getD z.1.A.toNat false || s.getD z.1.B.toNat false)).set z.1.B.toNat (s.getD z.1.A.toNat false || s.getD z.1.B.toNat false) else s
def round1 (sd : Int -> Bool) (l : List (api_Breaker × Nat)) (s : List Bool) : List Bool := l.foldl (spread sd) s
def lits (b : api_Board) (u : Int -> Bool) : List Bool := (List.range b.Sources.length).foldl (lit b u) (List.replicate b.Buses.toNat false)
def goalL (b : api_Board) (u sd : Int -> Bool) : List Bool := (List.range b.Buses.toNat).foldl (fun s _ => round1 sd b.Breakers.zipIdx s) (lits b u)
def LeB (s t : List Bool) : Prop := s.length = t.length /\ ∀ i : Nat, s[i]? = some true -> t[i]? = some true
def ks (x : api_Part) : Int := x.Kind * 1000 + x.Number
def PartSmall (x : api_Part) : Prop := (1 <= x.Kind /\ x.Kind <= 4) /\ 0 <= x.Number /\ x.Number <= 100
def Sorted (l : List api_Part) : Prop := ∀ (j k : Nat) x y, j < k -> l[j]? = some x -> l[k]? = some y -> ks x < ks y
structure At (l : List api_Part) (x : api_Part) (n : Nat) : Prop where
 le : n <= l.length
 lo : ∀ (j : Nat) y, j < n -> l[j]? = some y -> ks y < ks x
 hi : ∀ (j : Nat) y, n <= j -> l[j]? = some y -> ks x <= ks y
def insP (l : List api_Part) (n : Nat) (x : api_Part) : List api_Part := l.take n ++ (x :: l.drop n)
def isSrc (x : api_Part) : Bool := x.Kind == 1
def failS (ss : List api_Running) (x : api_Part) (st : Int) : List api_Running := if x.Kind = 1 then ss.set x.Number.toNat ⟨st, (ss.getD x.Number.toNat default).Since, (ss.getD x.Number.toNat default).Frequency, (ss.getD x.Number.toNat default).Phase⟩ else ss
def failedP (p : api_Power) (x : api_Part) (n : Nat) : api_Power := ⟨p.Closed, failS p.Sources x 3, p.Limits, insP p.Broken n x⟩
def mendedP (p : api_Power) (x : api_Part) : api_Power := ⟨p.Closed, failS (failS p.Sources x 3) x 0, p.Limits, p.Broken⟩
theorem copy_eq {b : api_Board} (h : BoardOk b) {p : api_Power} (hp : StateOk b p) : F65 p = some p := by
 have hl := hp.lens h
 have h1 := hl.c
 have h2 := hl.s
 have h3 := hl.l
 have h4 := hl.k
 unfold F65
 rw [app0 (by omega), app0 (by omega), app0 (by omega), app0 (by omega)]
 rfl
theorem Ok.gT {α : Type} {l : List (Bool × Bool)} {x : Option α} {d : α} {P : α -> Prop} (hx : AllEq l -> Ok x fun _ => True) (hr : ∀ y, P y) : Ok (guardO l x d) P :=
 Ok.guard (fun h => (hx h).mono fun y _ => hr y) fun _ => hr d
theorem Ok.triv {α : Type} {x : Option α} {v : α} (h : x = some v) : Ok x fun _ => True := ⟨v, h, trivial⟩
theorem tune_ok {x like : api_Running} (hx : RunOk x) (hl : RunOk like) : RunOk (tune like x) := ⟨hx.1, hx.2.1, hl.2.2.1, hl.2.2.2⟩
theorem set_run {ss : List api_Running} (h : ∀ x, x ∈ ss -> RunOk x) {n : Nat} {y : api_Running} (hy : RunOk y) : ∀ x, x ∈ ss.set n y -> RunOk x := fun x hx => by
 rcases List.mem_or_eq_of_mem_set hx with hx | hx
 ·exact h x hx
 ·exact hx ▸ hy
theorem getD_run {ss : List api_Running} (h : ∀ x, x ∈ ss -> RunOk x) {n : Nat} (hn : n < ss.length) : RunOk (ss.getD n default) := by
 have : ss.getD n default = ss[n] := by simp [List.getD, List.getElem?_eq_getElem hn]
 rw [this]; exact h _ (List.getElem_mem hn)
theorem setL_run {like : api_Running} (hl : RunOk like) : ∀ (idx : List Int) (ss : List api_Running), (∀ i, i ∈ idx -> 0 <= i /\ i < ss.length) -> (∀ x, x ∈ ss -> RunOk x) -> ∀ x, x ∈ setL like idx ss -> RunOk x
 | [], _, _, h => h
 | i :: idx, ss, hi, h => by
  have h0 := hi i List.mem_cons_self
  refine setL_run hl idx _ (fun j hj => ?_) (set_run h (tune_ok (getD_run h (by omega)) hl))
  have := hi j (List.mem_cons_of_mem _ hj)
  simpa using this
theorem fold_run {b : api_Board} {p : api_Power} (hp : StateOk b p) : ∀ (l : List api_Island) (s : List api_Running), (∀ x, x ∈ l -> ∀ i, i ∈ x.Sources -> 0 <= i /\ i < b.Sources.length) -> s.length = p.Sources.length -> (∀ x, x ∈ s -> RunOk x) -> ∀ x, x ∈ l.foldl (fstep p) s -> RunOk x
 | [], _, _, _, h => h
 | y :: l, s, hi, hs, h => by
  refine fold_run hp l _ (fun x hx => hi x (List.mem_cons_of_mem _ hx)) (by rw [fstep_length, hs]) ?_
  have h0 := hi y List.mem_cons_self
  have hn := hp.nso
  unfold fstep
  split
  ·exact h
  ·rename_i i r e
   rw [e] at h0
   have h1 := h0 i List.mem_cons_self
   rw [e]
   exact setL_run (getD_run hp.run (by omega)) _ _ (fun j hj => by have := h0 j hj; omega) h
theorem follow_run {b : api_Board} {p : api_Power} (hp : StateOk b p) : ∀ x, x ∈ followL b p -> RunOk x :=
 fold_run hp _ _ (fun _ hx => isl_src hx) rfl hp.run
theorem withS {b : api_Board} {p : api_Power} (hp : StateOk b p) {ss : List api_Running} (hl : ss.length = p.Sources.length) (hr : ∀ x, x ∈ ss -> RunOk x) : StateOk b ⟨p.Closed, ss, p.Limits, p.Broken⟩ where
 ncl := hp.ncl
 nso := hl.trans hp.nso
 nli := hp.nli
 run := hr
 lim := hp.lim
 one := hp.one
 brk := hp.brk
theorem Ok.getB {α : Type} {l : List α} {i : Int} (h0 : 0 <= i) (h1 : i < l.length) : Ok (getI l i) fun _ => True := (Ok.getI h0 h1).mono fun _ _ => trivial
def ActSo (b : api_Board) (y : Int × restore_worker) : Prop := y.1 ≠ 0 \/ StateOk b y.2.power
theorem bet {x lo hi : Int} (h : lo <= x /\ x <= hi) : F112 x lo hi = true := (within_iff x lo hi).2 h
def ofL (b : api_Board) (q : api_Breaker -> Bool) : List Int := (b.Breakers.zipIdx.filter fun z => q z.1).map fun z => (z.2 : Int)
theorem of15 {b : api_Board} (h : BoardOk b) (k i : Int) : F77 b k i = some (ofL b fun x => c77_2 k i x) := by
 have hb := h.brl
 refine Ok.eq ?_
 unfold F77
 refine Ok.andThen (A := fun s => s = ofL b fun x => c77_2 k i x) (B := fun (_ : Unit) => False) ?_ (fun s hs => Ok.pure hs) (fun _ h => h.elim)
 refine Ok.foldI0 (I := fun j s => s = ((b.Breakers.zipIdx.take j).filter fun z => c77_2 k i z.1).map fun z => (z.2 : Int)) rfl (fun j x s hx hs => ?_) fun s hs => ?_
 ·have hj := (List.getElem?_eq_some_iff.1 hx).1
  have hcnt : cnt 0 j = (j : Int) := cnt0 (by omega)
  have hz : b.Breakers.zipIdx[j]? = some (x, j) := by rw [List.getElem?_zipIdx, hx]; simp
  have hsl : s.length <= j := by
   rw [hs, List.length_map]
   exact Nat.le_trans (List.length_filter_le _ _) (by simp; omega)
  unfold F77_l0
  rw [hcnt, take_succ' hz, List.filter_append, List.map_append, ← hs]
  refine Ok.cond (fun hq => ?_) (fun hq => Ok.next (by simp [hq]))
  exact (Ok.appI (by simp; omega)).bind fun y hy => Ok.next (by rw [hy]; simp [hq])
 ·rw [hs, show b.Breakers.length = b.Breakers.zipIdx.length from by simp, List.take_length]; rfl
theorem zf_len (q : api_Breaker -> Bool) : ∀ (l : List api_Breaker) (k : Nat), ((l.zipIdx k).filter fun z => q z.1).length = (l.filter q).length
 | [], _ => rfl
 | x :: l, k => by
  simp only [List.zipIdx_cons, List.filter_cons]
  split <;> simp [zf_len q l (k + 1)]
theorem ofL_len (b : api_Board) (q : api_Breaker -> Bool) : (ofL b q).length = (b.Breakers.filter q).length := by
 unfold ofL
 rw [List.length_map, zf_len]
theorem q_eq (k : Int) (hk : k ≠ 1) (i : Int) (x : api_Breaker) : c77_2 k i x = (x.Kind == k && x.B == i) := by
 unfold c77_2
 have : (k == 1) = false := beq_eq_false_iff_ne.2 hk
 rw [this]; simp
theorem ofL_brs {b : api_Board} {k : Int} (hk : k ≠ 1) (i : Nat) : (ofL b fun x => c77_2 k (i : Int) x).length = (brs b.Breakers k i).length := by
 rw [ofL_len]
 unfold brs
 congr 1
 exact List.filter_congr fun x _ => q_eq k hk i x
theorem ref_breakers {b : api_Board} (h : BoardOk b) : F163 b = some true := by
 have hs := h.sol
 have hc := h.col
 have hb := h.buses
 have hbl := h.brl
 refine Ok.eq ?_
 unfold F163
 rw [all_fold b.Breakers 0 fun j x hj => ?_]
 ·rw [show ∀ (f : Unit -> Option Bool), andThen (some (Ctl.next ()) : Option (Ctl Unit Bool)) some f = f () from fun _ => rfl]
  refine Ok.andThen (A := fun _ => True) (B := fun (_ : Bool) => False) ?_ (fun _ _ => ?_) (fun _ h => h.elim)
  ·refine Ok.whileN (fun s => 0 <= s /\ s <= (b.Sources.length : Int)) (fun s => ((b.Sources.length : Int) - s).toNat) _ (0 : Int) (by omega) (by omega) ?_
   rintro i ⟨h1, h2⟩
   unfold F163_l2 c163_11
   refine Ok.cond (fun hq => ?_) (fun _ => Ok.brk trivial)
   simp only [decide_eq_true_eq] at hq
   obtain ⟨n, rfl⟩ : ∃ n : Nat, i = (n : Int) := ⟨i.toNat, by omega⟩
   rw [of15 h]
   simp only [Option.bind_some]
   have hone := h.one n (by omega)
   rw [ofL_brs (by decide), hone, wI (by omega)]
   refine Ok.cond (fun hc => by simp at hc) (fun _ => Ok.next ⟨by omega, by omega⟩)
  ·refine Ok.andThen (A := fun _ => True) (B := fun (_ : Bool) => False) ?_ (fun _ _ => Ok.pure rfl) (fun _ h => h.elim)
   refine Ok.whileN (fun s => 0 <= s /\ s <= (b.Consumers.length : Int)) (fun s => ((b.Consumers.length : Int) - s).toNat) _ (0 : Int) (by omega) (by omega) ?_
   rintro i ⟨h1, h2⟩
   unfold F163_l3 c163_13
   refine Ok.cond (fun hq => ?_) (fun _ => Ok.brk trivial)
   simp only [decide_eq_true_eq] at hq
   obtain ⟨n, rfl⟩ : ∃ n : Nat, i = (n : Int) := ⟨i.toNat, by omega⟩
   rw [of15 h]
   simp only [Option.bind_some]
   have hany := h.any n (by omega)
   have hpos : 0 < (brs b.Breakers 3 n).length := List.length_pos_iff.2 hany
   rw [ofL_brs (by decide), wI (by omega)]
   refine Ok.cond (fun hc => ?_) (fun _ => Ok.next ⟨by omega, by omega⟩)
   simp only [decide_eq_true_eq] at hc; omega
 ·have hjl := (List.getElem?_eq_some_iff.1 hj).1
  obtain ⟨⟨a0, a1⟩, hk⟩ := h.br x (List.mem_of_getElem? hj)
  rw [Nat.zero_add]
  have hcnt : cnt 0 j = (j : Int) := cnt0 (by omega)
  have e1 : w64 (b.Buses - 1) = b.Buses - 1 := wI (by omega)
  have e2 : w64 (x.A + 1) = x.A + 1 := wI (by omega)
  have e3 : w64 ((b.Sources.length : Int) - 1) = (b.Sources.length : Int) - 1 := wI (by omega)
  have e4 : w64 ((b.Consumers.length : Int) - 1) = (b.Consumers.length : Int) - 1 := wI (by omega)
  unfold F163_l0 c163_5 c163_6 c163_7
  rw [e1, e2, e3, e4, hcnt, bet (x := x.A) (by omega)]
  simp only [Bool.not_true, cond_false]
  rcases hk with ⟨hk, h1, h2⟩ | ⟨hk, h1, h2⟩ | ⟨hk, h1, h2⟩
  ·rw [hk, bet (x := x.B) (lo := x.A + 1) (by omega)]; rfl
  ·rw [hk, bet (x := x.B) (lo := 0) (hi := (b.Sources.length : Int) - 1) (by omega)]; rfl
  ·rw [hk, bet (x := x.B) (lo := 0) (hi := (b.Consumers.length : Int) - 1) (by omega)]
   have hcut : cutI b.Breakers 0 (j : Int) = some (b.Breakers.take j) := by
    refine Ok.eq ((Ok.cutI (by omega) (by omega) (by omega)).mono fun y hy => ?_)
    rw [hy]; simp
   show ((cutI b.Breakers 0 (j : Int)).bind fun y9 => andThen (fI (F163_l1 x) y9 0 ()) (fun v => some (Ctl.ret v)) fun z1 => some (Ctl.next ())) = some (Ctl.next ())
   rw [hcut]
   simp only [Option.bind_some]
   rw [all_fold _ 0 fun m y hy => ?_]
   ·rfl
   ·have hml : m < j := by
     have := (List.getElem?_eq_some_iff.1 hy).1
     simp only [List.length_take] at this; omega
    have hyb : b.Breakers[m]? = some y := by
     rw [List.getElem?_take, if_pos hml] at hy; exact hy
    unfold F163_l1
    have hne : c163_9 x y = false := by
     unfold c163_9
     rw [Bool.eq_false_iff]
     intro e
     simp only [Bool.and_true, Bool.and_eq_true, beq_iff_eq] at e
     obtain ⟨e1, e2, e3⟩ := e
     have hn := h.nodup x.B.toNat
     have hsplit : b.Breakers = b.Breakers.take j ++ (x :: b.Breakers.drop (j + 1)) := by
      conv => lhs; rw [← List.take_append_drop j b.Breakers]
      rw [List.drop_eq_getElem_cons hjl]
      have : b.Breakers[j] = x := by
       rw [List.getElem?_eq_getElem hjl] at hj; cases hj; rfl
      rw [this]
     rw [hsplit, brs_append, List.map_append] at hn
     have hBn : x.B = (x.B.toNat : Int) := by omega
     have hmem1 : y.A ∈ (brs (b.Breakers.take j) 3 x.B.toNat).map (·.A) := by
      refine List.mem_map.2 ⟨y, ?_, rfl⟩
      unfold brs
      refine List.mem_filter.2 ⟨List.mem_of_getElem? hy, ?_⟩
      rw [e1, hk, e3, ← hBn]; simp
     have hmem2 : x.A ∈ (brs (x :: b.Breakers.drop (j + 1)) 3 x.B.toNat).map (·.A) := by
      refine List.mem_map.2 ⟨x, ?_, rfl⟩
      unfold brs
      refine List.mem_filter.2 ⟨List.mem_cons_self, ?_⟩
      rw [hk, ← hBn]; simp
     exact (List.nodup_append.1 hn).2.2 _ hmem1 _ hmem2 e2
    rw [hne]; rfl
theorem ref_sources {b : api_Board} (h : BoardOk b) : F164 b = some true := by
 unfold F164
 rw [all_fold b.Sources 0 fun j x hj => ?_]
 ·rfl
 ·obtain ⟨h1, h2, h3⟩ := h.so x (List.mem_of_getElem? hj)
  unfold F164_l0 c164_1
  rw [bet h1, bet h2, bet h3]; rfl
theorem ref_consumers {b : api_Board} (h : BoardOk b) : F165 b = some true := by
 have hcl := h.col
 unfold F165
 rw [all_fold b.Consumers 0 fun j x hj => ?_]
 ·rfl
 ·obtain ⟨h1, h2, h3, h4, h5, h6, h7⟩ := h.co j x hj
  have hjl := (List.getElem?_eq_some_iff.1 hj).1
  rw [Nat.zero_add]
  have hcnt : cnt 0 j = (j : Int) := cnt0 (by omega)
  unfold F165_l0 c165_3
  rw [bet h1, bet h2, bet h3, bet h4]
  have hd : decide ((x.Needs.length : Int) > 4) = false := by simp; omega
  rw [hd]
  simp only [Bool.not_true, Bool.or_false, cond_false]
  rw [all_fold x.Needs 0 fun m n hm => ?_]
  ·rfl
  ·have hml := (List.getElem?_eq_some_iff.1 hm).1
   rw [Nat.zero_add]
   have hcm : cnt 0 m = (m : Int) := cnt0 (by omega)
   have hn := h6 n (List.mem_of_getElem? hm)
   unfold F165_l1 c165_5
   rw [hcnt, hcm, wI (n := (j : Int) - 1) (by omega), bet (x := n) (by omega)]
   cases m with
   | zero => rfl
   | succ m =>
    obtain ⟨a, ha⟩ : ∃ a, x.Needs[m]? = some a := ⟨_, List.getElem?_eq_getElem (by omega)⟩
    have hlt := h7 m a n ha hm
    have e : w64 (((m + 1 : Nat) : Int) - 1) = (m : Int) := by rw [wI (by omega)]; omega
    have hp : decide (((m + 1 : Nat) : Int) > 0) = true := decide_eq_true (by omega)
    have hq : decide (a >= n) = false := by simp; omega
    rw [e, gN ha, hp]
    simp [guardO, allEqB, hq]
theorem refCheck {b : api_Board} (h : BoardOk b) : F111 b = some 0 := by
 have h1 := h.buses
 have h2 := h.brl
 have h3 := h.sol
 have h4 := h.col
 have h5 := h.phase
 have h6 := h.freq
 unfold F111
 rw [ref_breakers h, ref_sources h, ref_consumers h]
 have e : c111_0 b = false := by
  rw [Bool.eq_false_iff]; intro e
  simp [c111_0] at e; omega
 have e2 : c111_1 b true true true = false := by
  rw [Bool.eq_false_iff]; intro e
  simp [c111_1] at e; omega
 rw [e]
 simp only [cond_false, Option.bind_some]
 have g1 : (guardO [(!true, false)] (some true) default : Option Bool) = some true := rfl
 have g2 : (guardO [(!true || !true, false)] (some true) default : Option Bool) = some true := rfl
 rw [g1, Option.bind_some, g2, Option.bind_some, e2]; rfl
theorem zip_feeds (i : Nat) (C : List Bool) : ∀ (l : List api_Breaker) (c : List Bool) (k : Nat), C.drop k = c -> l.length = c.length ->
  (((l.zipIdx k).filter fun z => z.1.Kind == 3 && z.1.B == (i : Int)).filter fun z => C.getD z.2 false).length = (feeds l c i).length
 | [], _, _, _, _ => by simp [feeds]
 | x :: l, [], _, _, h => by simp at h
 | x :: l, v :: c, k, hd, h => by
  have hv : C[k]? = some v := by
   have := congrArg (·[0]?) hd
   simpa [List.getElem?_drop] using this
  have hd' : C.drop (k + 1) = c := by rw [← List.drop_drop, hd]; rfl
  have ih := zip_feeds i C l c (k + 1) hd' (by simpa using h)
  have hg : C.getD k false = v := by simp [List.getD, hv]
  simp only [List.zipIdx_cons, List.filter_cons, feeds, List.zip_cons_cons] at ih ⊢
  cases hq : (x.Kind == 3 && x.B == (i : Int)) with
  | false => simpa only [Bool.false_and, Bool.false_eq_true, if_false] using ih
  | true =>
   simp only [if_true, List.filter_cons, hg]
   cases v with
   | false => simpa only [Bool.and_false, Bool.false_eq_true, if_false] using ih
   | true => simpa only [Bool.and_self, if_true, List.length_cons, Nat.add_right_cancel_iff] using ih
theorem refState {b : api_Board} (h : BoardOk b) {p : api_Power} (hp : StateOk b p) : F53 b p = some 0 := by
 have h3 := h.sol
 have h4 := h.col
 have hbl := h.brl
 have hncl := hp.ncl
 have hnso := hp.nso
 have hnli := hp.nli
 refine Ok.eq ?_
 unfold F53
 rw [refCheck h]
 simp only [Option.bind_some]
 refine Ok.cond (fun hc => by simp at hc) (fun _ => Ok.cond (fun hc => ?_) (fun _ => ?_))
 ·simp [c53_0, hncl, hnso, hnli] at hc
 rw [all_fold p.Sources 0 fun j x hj => ?_]
 ·rw [show ∀ (f : Unit -> Option Int), andThen (some (Ctl.next ()) : Option (Ctl Unit Int)) some f = f () from fun _ => rfl]
  rw [all_fold p.Limits 0 fun j x hj => ?_]
  ·rw [show ∀ (f : Unit -> Option Int), andThen (some (Ctl.next ()) : Option (Ctl Unit Int)) some f = f () from fun _ => rfl]
   have hlen := hp.brk.len
   refine Ok.cond (fun hc => ?_) (fun _ => ?_)
   ·simp only [decide_eq_true_eq] at hc; omega
   rw [all_fold p.Broken 0 fun j x hj => ?_]
   ·rw [show ∀ (f : Unit -> Option Int), andThen (some (Ctl.next ()) : Option (Ctl Unit Int)) some f = f () from fun _ => rfl]
    refine Ok.andThen (A := fun _ => True) (B := fun (_ : Int) => False) ?_ (fun _ _ => Ok.pure rfl) (fun _ h => h.elim)
    refine Ok.whileN (fun s => 0 <= s /\ s <= (b.Consumers.length : Int)) (fun s => ((b.Consumers.length : Int) - s).toNat) _ (0 : Int) (by omega) (by omega) ?_
    rintro i ⟨g1, g2⟩
    unfold F53_l3 c53_6
    refine Ok.cond (fun hq => ?_) (fun _ => Ok.brk trivial)
    simp only [decide_eq_true_eq] at hq
    obtain ⟨n, rfl⟩ : ∃ n : Nat, i = (n : Int) := ⟨i.toNat, by omega⟩
    rw [of15 h]
    simp only [Option.bind_some]
    have hone := hp.one n (by omega)
    have hz : ofL b (fun x => c77_2 3 (n : Int) x) = ((b.Breakers.zipIdx.filter fun z => z.1.Kind == 3 && z.1.B == (n : Int)).map fun z => (z.2 : Int)) := by
     unfold ofL
     congr 1
     exact List.filter_congr fun z _ => q_eq 3 (by decide) n z.1
    have hzf := zip_feeds n p.Closed b.Breakers p.Closed 0 rfl (by omega)
    rw [hz]
    have hin : ∀ z, z ∈ (b.Breakers.zipIdx.filter fun z => z.1.Kind == 3 && z.1.B == (n : Int)) -> z.2 < p.Closed.length := by
     rintro ⟨x, j⟩ hm
     have := (List.mem_filter.1 hm).1
     rw [List.mem_zipIdx_iff_getElem?] at this
     have := (List.getElem?_eq_some_iff.1 this).1
     dsimp only; omega
    have hsz : (b.Breakers.zipIdx.filter fun z => z.1.Kind == 3 && z.1.B == (n : Int)).length <= 24 := Nat.le_trans (List.length_filter_le _ _) (by simpa using hbl)
    generalize hm : (b.Breakers.zipIdx.filter fun z => z.1.Kind == 3 && z.1.B == (n : Int)) = m at hin hsz hzf
    refine (Ok.foldI0 (xs := m.map fun z => (z.2 : Int)) (I := fun j s => s = (((m.take j).filter fun z => p.Closed.getD z.2 false).length : Int)) (A := fun s => s = ((m.filter fun z => p.Closed.getD z.2 false).length : Int)) (B := fun (_ : Unit) => False) rfl (fun j x s hx hs => ?_) fun s hs => ?_).inner (fun s hs => ?_) (fun _ h => h.elim)
    ·rw [List.getElem?_map, Option.map_eq_some_iff] at hx
     obtain ⟨z, hz, rfl⟩ := hx
     have hzl := hin z (List.mem_of_getElem? hz)
     obtain ⟨v, hv⟩ : ∃ v, p.Closed[z.2]? = some v := ⟨_, List.getElem?_eq_getElem hzl⟩
     have hg : p.Closed.getD z.2 false = v := by simp [List.getD, hv]
     have hle : ((m.take j).filter fun z => p.Closed.getD z.2 false).length <= 24 := Nat.le_trans (List.length_filter_le _ _) (by simp; omega)
     unfold F53_l4
     rw [gN hv, take_succ' hz, List.filter_append]
     simp only [Option.bind_some]
     refine Ok.cond (fun hq => Ok.next ?_) (fun hq => Ok.next ?_)
     ·rw [hs, wI (by omega), List.filter_cons, hg, if_pos hq]
      simp
     ·rw [hs, List.filter_cons, hg, if_neg (ff hq)]
      simp
    ·rw [List.length_map, List.take_length] at hs; exact hs
    ·rw [hs, hzf, wI (by omega)]
     refine Ok.cond (fun hc => ?_) (fun _ => Ok.next ⟨by omega, by omega⟩)
     simp only [decide_eq_true_eq] at hc; omega
   ·have hjl := (List.getElem?_eq_some_iff.1 hj).1
    rw [Nat.zero_add]
    have hcnt : cnt 0 j = (j : Int) := cnt0 (by omega)
    unfold F53_l2 c53_4
    rw [(exists_iff h x).2 (hp.brk.mem x (List.mem_of_getElem? hj)), hcnt]
    cases j with
    | zero => rfl
    | succ j =>
     obtain ⟨a, ha⟩ : ∃ a, p.Broken[j]? = some a := ⟨_, List.getElem?_eq_getElem (by omega)⟩
     have hlt := hp.brk.asc j a x ha hj
     have e : w64 (((j + 1 : Nat) : Int) - 1) = (j : Int) := by rw [wI (by omega)]; omega
     have hpz : decide (((j + 1 : Nat) : Int) > 0) = true := decide_eq_true (by omega)
     have hb : F113 a x = true := by
      unfold F113
      unfold PartLt at hlt
      simp only [Bool.or_eq_true, Bool.and_eq_true, decide_eq_true_eq, beq_iff_eq]
      exact hlt
     rw [e, gN ha, hpz]
     simp [guardO, allEqB, hb]
  ·have hjl := (List.getElem?_eq_some_iff.1 hj).1
   rw [Nat.zero_add]
   have hcnt : cnt 0 j = (j : Int) := cnt0 (by omega)
   obtain ⟨c, hc⟩ : ∃ c, b.Consumers[j]? = some c := ⟨_, List.getElem?_eq_getElem (by omega)⟩
   unfold F53_l1
   rw [hcnt, gN hc]
   simp only [Option.bind_some]
   rw [bet (hp.lim j x c hj hc)]; rfl
 ·have hr := hp.run x (List.mem_of_getElem? hj)
  unfold F53_l0 c53_2
  rw [bet hr.1, bet hr.2.1, bet hr.2.2.1, bet hr.2.2.2]; rfl
def emptyP : api_Power := ⟨[], [], [], []⟩
def IslOk (b : api_Board) (x : api_Island) : Prop := ∀ i, i ∈ x.Sources -> 0 <= i /\ i < b.Sources.length

abbrev TieL := List (api_Breaker × Bool)
def Tie (L : TieL) (i j : Nat) : Prop := ∃ z, z ∈ L /\ z.1.Kind = 1 /\ z.2 = true /\ ((z.1.A.toNat = i /\ z.1.B.toNat = j) \/ (z.1.A.toNat = j /\ z.1.B.toNat = i))
theorem Tie.symm {L : TieL} {i j : Nat} (h : Tie L i j) : Tie L j i := by
 obtain ⟨z, h1, h2, h3, h4⟩ := h
 exact ⟨z, h1, h2, h3, h4.symm⟩
inductive ConnN (L : TieL) (i : Nat) : Nat -> Nat -> Prop
 | refl : ConnN L i 0 i
 | stay {r j : Nat} : ConnN L i r j -> ConnN L i (r + 1) j
 | step {r j k : Nat} : ConnN L i r j -> Tie L j k -> ConnN L i (r + 1) k
def Conn (L : TieL) (i j : Nat) : Prop := ∃ r, ConnN L i r j
theorem Conn.refl (L : TieL) (i : Nat) : Conn L i i := ⟨0, .refl⟩
theorem Conn.tie {L : TieL} {i j k : Nat} (h : Conn L i j) (t : Tie L j k) : Conn L i k := by
 obtain ⟨r, h⟩ := h; exact ⟨r + 1, h.step t⟩
theorem Conn.trans {L : TieL} {i j k : Nat} (h : Conn L i j) (h2 : Conn L j k) : Conn L i k := by
 obtain ⟨r, h2⟩ := h2
 induction h2 with
 | refl => exact h
 | stay _ ih => exact ih
 | step _ t ih => exact ih.tie t
theorem Conn.symm {L : TieL} {i j : Nat} (h : Conn L i j) : Conn L j i := by
 obtain ⟨r, h⟩ := h
 induction h with
 | refl => exact .refl L i
 | stay _ ih => exact ih
 | step _ t ih => exact (Conn.tie (.refl L _) t.symm).trans ih
theorem ConnN.le {L : TieL} {i j r s : Nat} (h : ConnN L i r j) (hs : r <= s) : ConnN L i s j := by
 induction s with
 | zero =>
  have : r = 0 := by omega
  subst this; exact h
 | succ s ih =>
  by_cases e : r = s + 1
  ·subst e; exact h
  ·exact (ih (by omega)).stay
open Classical in
noncomputable def cn (p : Nat -> Prop) : Nat -> Nat
 | 0 => 0
 | n + 1 => cn p n + if p n then 1 else 0
theorem cn_le (p : Nat -> Prop) : ∀ n, cn p n <= n
 | 0 => Nat.le_refl _
 | n + 1 => by have := cn_le p n; unfold cn; split <;> omega
theorem cn_mono {p q : Nat -> Prop} : ∀ n, (∀ k, k < n -> p k -> q k) -> cn p n <= cn q n
 | 0, _ => Nat.le_refl _
 | n + 1, h => by
  have := cn_mono n fun k hk => h k (by omega)
  have h1 := h n (by omega)
  unfold cn
  by_cases hp : p n
  ·rw [if_pos hp, if_pos (h1 hp)]; omega
  ·rw [if_neg hp]; split <;> omega
theorem cn_eq {p q : Nat -> Prop} : ∀ n, (∀ k, k < n -> p k -> q k) -> cn p n = cn q n -> ∀ k, k < n -> q k -> p k
 | 0, _, _, k, hk, _ => by omega
 | n + 1, h, e, k, hk, hq => by
  have hm := cn_mono n fun k hk => h k (by omega)
  have h1 := h n (by omega)
  unfold cn at e
  by_cases hp : p n
  ·rw [if_pos hp, if_pos (h1 hp)] at e
   by_cases ek : k = n
   ·subst ek; exact hp
   ·exact cn_eq n (fun k hk => h k (by omega)) (by omega) k (by omega) hq
  ·rw [if_neg hp] at e
   by_cases hqn : q n
   ·rw [if_pos hqn] at e; omega
   ·rw [if_neg hqn] at e
    by_cases ek : k = n
    ·subst ek; exact absurd hq hqn
    ·exact cn_eq n (fun k hk => h k (by omega)) (by omega) k (by omega) hq
def TieLt (L : TieL) (n : Nat) : Prop := ∀ i j, Tie L i j -> i < n /\ j < n
theorem conn_bound {L : TieL} {n i j : Nat} (hL : TieLt L n) (_ : i < n) (h : Conn L i j) : ConnN L i n j := by
 have hst : ∃ r, r <= n /\ ∀ k, k < n -> ConnN L i (r + 1) k -> ConnN L i r k := by
  by_cases hex : ∃ r, r <= n /\ ∀ k, k < n -> ConnN L i (r + 1) k -> ConnN L i r k
  ·exact hex
  exfalso
  have hgrow : ∀ r, r <= n -> cn (ConnN L i r) n < cn (ConnN L i (r + 1)) n := by
   intro r hr
   have hm := cn_mono (p := ConnN L i r) (q := ConnN L i (r + 1)) n fun k _ h => h.stay
   rcases Nat.lt_or_eq_of_le hm with h | h
   ·exact h
   ·exact absurd ⟨r, hr, cn_eq n (fun k _ h => h.stay) h⟩ hex
  have hge : ∀ r, r <= n + 1 -> r <= cn (ConnN L i r) n := by
   intro r
   induction r with
   | zero => intro _; omega
   | succ r ih => intro hr; have := ih (by omega); have := hgrow r (by omega); omega
  have h1 := hge (n + 1) (Nat.le_refl _)
  have h2 := cn_le (ConnN L i (n + 1)) n
  omega
 obtain ⟨r, hr, hs⟩ := hst
 obtain ⟨s, h⟩ := h
 have key : ∀ s k, ConnN L i s k -> ConnN L i r k := by
  intro s k h
  induction h with
  | refl => exact ConnN.refl.le (by omega)
  | stay _ ih => exact ih
  | step h0 t ih => exact hs _ (hL _ _ t).2 (ih.step t)
 exact (key s j h).le hr
def tiesOf (b : api_Board) (p : api_Power) : TieL := b.Breakers.zip p.Closed
theorem ties_lt {b : api_Board} (h : BoardOk b) (p : api_Power) : TieLt (tiesOf b p) b.Buses.toNat := by
 rintro i j ⟨z, hz, hk, _, he⟩
 have := h.br z.1 (List.of_mem_zip hz).1
 unfold BrOk at this
 omega
theorem gget {s : List Int} {i : Nat} (h : i < s.length) : s[i]? = some (s.getD i 0) := by
 rw [List.getElem?_eq_getElem h]; simp [List.getD, List.getElem?_eq_getElem h]
theorem gstep_val {s : List Int} {z : api_Breaker × Bool} {i : Nat} (hi : i < s.length) : (gstep s z).getD i 0 = if (z.1.Kind = 1 /\ z.2 = true) /\ (i = z.1.A.toNat \/ i = z.1.B.toNat) then min (s.getD z.1.A.toNat 0) (s.getD z.1.B.toNat 0) else s.getD i 0 := by
 unfold gstep
 by_cases hk : z.1.Kind = 1 /\ z.2 = true
 ·rw [if_pos hk]
  by_cases hB : i = z.1.B.toNat
  ·rw [if_pos ⟨hk, .inr hB⟩]
   simp [List.getD, ← hB, hi]
  ·by_cases hA : i = z.1.A.toNat
   ·rw [if_pos ⟨hk, .inl hA⟩]
    have h1 : ¬ z.1.B.toNat = i := fun e => hB e.symm
    simp only [List.getD, List.getElem?_set_ne h1]
    rw [← hA, List.getElem?_set_self hi]; rfl
   ·rw [if_neg (fun e => e.2.elim hA hB)]
    have h1 : ¬ z.1.B.toNat = i := fun e => hB e.symm
    have h2 : ¬ z.1.A.toNat = i := fun e => hA e.symm
    simp only [List.getD, List.getElem?_set_ne h1, List.getElem?_set_ne h2]
 ·rw [if_neg hk, if_neg (fun e => hk e.1)]
def Lab (L : TieL) (s : List Int) : Prop := ∀ i, i < s.length -> Conn L (s.getD i 0).toNat i
theorem gstep_lab {L : TieL} {s : List Int} (h : Lab L s) {z : api_Breaker × Bool} (hz : z ∈ L) (hr : z.1.Kind = 1 -> z.1.A.toNat < s.length /\ z.1.B.toNat < s.length) : Lab L (gstep s z) := by
 intro i hi
 rw [gstep_length] at hi
 rw [gstep_val hi]
 split
 ·rename_i hc
  obtain ⟨⟨hk, hv⟩, hab⟩ := hc
  obtain ⟨ha, hb⟩ := hr hk
  have tAB : Tie L z.1.A.toNat z.1.B.toNat := ⟨z, hz, hk, hv, .inl ⟨rfl, rfl⟩⟩
  have c1 := h _ ha
  have c2 := h _ hb
  rcases Int.le_total (s.getD z.1.A.toNat 0) (s.getD z.1.B.toNat 0) with e | e
  ·rw [Int.min_eq_left e]
   rcases hab with rfl | rfl
   ·exact c1
   ·exact c1.tie tAB
  ·rw [Int.min_eq_right e]
   rcases hab with rfl | rfl
   ·exact c2.tie tAB.symm
   ·exact c2
 ·exact h i hi
theorem ground_lab {L : TieL} {n : Nat} : ∀ (l : TieL) (s : List Int), s.length = n -> (∀ z, z ∈ l -> z ∈ L /\ (z.1.Kind = 1 -> z.1.A.toNat < n /\ z.1.B.toNat < n)) -> Lab L s -> Lab L (ground l s)
 | [], _, _, _, h => h
 | z :: l, s, hs, hz, h => ground_lab l (gstep s z) (by rw [gstep_length]; exact hs) (fun y hy => hz y (List.mem_cons_of_mem _ hy)) (gstep_lab h (hz z List.mem_cons_self).1 (by rw [hs]; exact (hz z List.mem_cons_self).2))
theorem gstep_dec {s : List Int} (z : api_Breaker × Bool) {i : Nat} (hi : i < s.length) : (gstep s z).getD i 0 <= s.getD i 0 := by
 rw [gstep_val hi]
 split
 ·rename_i hc
  rcases hc.2 with rfl | rfl
  ·exact Int.min_le_left _ _
  ·exact Int.min_le_right _ _
 ·exact Int.le_refl _
theorem ground_dec : ∀ (l : TieL) (s : List Int) {i : Nat}, i < s.length -> (ground l s).getD i 0 <= s.getD i 0
 | [], _, _, _ => Int.le_refl _
 | z :: l, s, i, hi => Int.le_trans (ground_dec l (gstep s z) (by rw [gstep_length]; exact hi)) (gstep_dec z hi)
theorem ground_tie : ∀ (l : TieL) (s : List Int) {z : api_Breaker × Bool}, z ∈ l -> z.1.Kind = 1 -> z.2 = true -> z.1.A.toNat < s.length -> z.1.B.toNat < s.length -> ∀ i, i = z.1.A.toNat \/ i = z.1.B.toNat -> (ground l s).getD i 0 <= min (s.getD z.1.A.toNat 0) (s.getD z.1.B.toNat 0)
 | [], _, _, h, _, _, _, _, _, _ => by cases h
 | y :: l, s, z, hz, hk, hv, ha, hb, i, hi => by
  show (ground l (gstep s y)).getD i 0 <= _
  have hil : i < s.length := by rcases hi with rfl | rfl <;> assumption
  by_cases e : z = y
  ·subst e
   refine Int.le_trans (ground_dec l _ (by rw [gstep_length]; exact hil)) ?_
   rw [gstep_val hil, if_pos ⟨⟨hk, hv⟩, hi⟩]
   exact Int.le_refl _
  ·have hz' : z ∈ l := by
    rcases List.mem_cons.1 hz with h | h
    ·exact absurd h e
    ·exact h
   refine Int.le_trans (ground_tie l (gstep s y) hz' hk hv (by rw [gstep_length]; exact ha) (by rw [gstep_length]; exact hb) i hi) ?_
   have h1 := gstep_dec y ha
   have h2 := gstep_dec y hb
   omega
theorem range_get {n i : Nat} (h : i < n) : (rangeI n).getD i 0 = (i : Int) := by
 simp [rangeI, List.getD, List.getElem?_range h]
theorem groups_low {L : TieL} {n : Nat} (hL : TieLt L n) : ∀ r i j, i < n -> j < n -> ConnN L j r i -> ((List.range r).foldl (fun s _ => ground L s) (rangeI n)).getD i 0 <= (j : Int) := by
 intro r
 have hlen : ∀ r, ((List.range r).foldl (fun s _ => ground L s) (rangeI n)).length = n := by
  intro r
  induction r with
  | zero => simp [rangeI]
  | succ r ih => rw [List.range_succ, List.foldl_append]; simp only [List.foldl_cons, List.foldl_nil, ground_length]; exact ih
 induction r with
 | zero =>
  intro i j hi hj h
  cases h
  show (rangeI n).getD i 0 <= _
  rw [range_get hi]
  exact Int.le_refl _
 | succ r ih =>
  intro i j hi hj h
  have hrl := hlen r
  rw [List.range_succ, List.foldl_append]
  simp only [List.foldl_cons, List.foldl_nil]
  generalize (List.range r).foldl (fun s _ => ground L s) (rangeI n) = s at *
  cases h with
  | stay h => exact Int.le_trans (ground_dec L s (by omega)) (ih i j hi hj h)
  | step h t =>
   rename_i k
   have hk := hL _ _ t
   have h1 := ih k j hk.1 hj h
   obtain ⟨z, hz, hz1, hz2, he⟩ := t
   have hA : z.1.A.toNat < s.length := by omega
   have hB : z.1.B.toNat < s.length := by omega
   have h2 := ground_tie L s hz hz1 hz2 hA hB i (by omega)
   rcases he with ⟨e1, e2⟩ | ⟨e1, e2⟩
   ·rw [e1] at h2; omega
   ·rw [e2] at h2; omega
theorem groups_iff {b : api_Board} (h : BoardOk b) (p : api_Power) {i j : Nat} (hi : i < b.Buses.toNat) (hj : j < b.Buses.toNat) : (groups b p).getD i 0 = (groups b p).getD j 0 ↔ Conn (tiesOf b p) i j := by
 have hL := ties_lt h p
 have hlen := groups_length b p
 have hlab : Lab (tiesOf b p) (groups b p) := by
  have hz : ∀ z, z ∈ tiesOf b p -> z ∈ tiesOf b p /\ (z.1.Kind = 1 -> z.1.A.toNat < b.Buses.toNat /\ z.1.B.toNat < b.Buses.toNat) := by
   intro z hz
   refine ⟨hz, fun hk => ?_⟩
   have := h.br z.1 (List.of_mem_zip hz).1
   unfold BrOk at this
   omega
  have key : ∀ (xs : List Nat) (s : List Int), s.length = b.Buses.toNat -> Lab (tiesOf b p) s -> Lab (tiesOf b p) (xs.foldl (fun s _ => ground (b.Breakers.zip p.Closed) s) s) := by
   intro xs
   induction xs with
   | nil => intro s _ h; exact h
   | cons x xs ih => intro s hl h; exact ih _ (by rw [ground_length]; exact hl) (ground_lab _ s hl hz h)
  refine key _ _ (by simp [rangeI]) ?_
  intro k hk
  have hk' : k < b.Buses.toNat := by simpa [rangeI] using hk
  rw [range_get hk']
  exact .refl _ k
 have hlow : ∀ i j, i < b.Buses.toNat -> j < b.Buses.toNat -> Conn (tiesOf b p) j i -> (groups b p).getD i 0 <= (j : Int) := fun i j hi hj hc => groups_low hL _ i j hi hj (conn_bound hL hj hc)
 have hlo := groups_lo h p
 have hrange : ∀ i, i < b.Buses.toNat -> 0 <= (groups b p).getD i 0 /\ ((groups b p).getD i 0).toNat < b.Buses.toNat := by
  intro i hi
  have := hlo i _ (gget (by omega))
  omega
 constructor
 ·intro e
  have c1 := hlab i (by omega)
  have c2 := hlab j (by omega)
  rw [e] at c1
  exact c1.symm.trans c2
 ·intro hc
  have r1 := hrange i hi
  have r2 := hrange j hj
  have c1 := hlab i (by omega)
  have c2 := hlab j (by omega)
  have l1 := hlow j _ hj r1.2 (c1.trans hc)
  have l2 := hlow i _ hi r2.2 (c2.trans hc.symm)
  omega
def rstep (s : List Bool) (z : api_Breaker × Bool) : List Bool :=
 if (z.1.Kind = 1 /\ z.2 = true) /\ (s.getD z.1.A.toNat false || s.getD z.1.B.toNat false) = true then (s.set z.1.A.toNat true).set z.1.B.toNat true else s
theorem rstep_length (s : List Bool) (z : api_Breaker × Bool) : (rstep s z).length = s.length := by unfold rstep; split <;> simp
def rround (L : TieL) (s : List Bool) : List Bool := L.foldl rstep s
theorem rround_length : ∀ (l : TieL) (s : List Bool), (rround l s).length = s.length
 | [], _ => rfl
 | z :: l, s => by show (rround l (rstep s z)).length = _; rw [rround_length l, rstep_length]
theorem rset {s : List Bool} {m i : Nat} (hi : i < s.length) : (s.set m true).getD i false = (decide (m = i) || s.getD i false) := by
 by_cases e : m = i
 ·subst e; simp [List.getD, hi]
 ·simp [List.getD, List.getElem?_set_ne e, e]
theorem rstep_val {s : List Bool} {z : api_Breaker × Bool} {i : Nat} (hi : i < s.length) : (rstep s z).getD i false = true ↔ s.getD i false = true \/ (((z.1.Kind = 1 /\ z.2 = true) /\ (s.getD z.1.A.toNat false || s.getD z.1.B.toNat false) = true) /\ (i = z.1.A.toNat \/ i = z.1.B.toNat)) := by
 unfold rstep
 split
 ·rename_i hc
  rw [rset (by simpa using hi), rset hi, Bool.or_eq_true, Bool.or_eq_true, decide_eq_true_iff, decide_eq_true_iff]
  constructor
  ·rintro (e | e | e)
   ·exact .inr ⟨hc, .inr e.symm⟩
   ·exact .inr ⟨hc, .inl e.symm⟩
   ·exact .inl e
  ·rintro (e | ⟨_, e | e⟩)
   ·exact .inr (.inr e)
   ·exact .inr (.inl e.symm)
   ·exact .inl e.symm
 ·rename_i hc
  exact ⟨.inl, fun e => e.elim id fun e => absurd e.1 hc⟩
def Got (L : TieL) (n : Nat) (s : List Bool) : Prop := ∀ i, i < s.length -> s.getD i false = true -> Conn L n i
theorem rstep_got {L : TieL} {n : Nat} {s : List Bool} (h : Got L n s) {z : api_Breaker × Bool} (hz : z ∈ L) (hr : z.1.Kind = 1 -> z.1.A.toNat < s.length /\ z.1.B.toNat < s.length) : Got L n (rstep s z) := by
 intro i hi e
 rw [rstep_length] at hi
 rcases (rstep_val hi).1 e with e | ⟨⟨⟨hk, hv⟩, ho⟩, hab⟩
 ·exact h i hi e
 ·obtain ⟨ha, hb⟩ := hr hk
  have t : Tie L z.1.A.toNat z.1.B.toNat := ⟨z, hz, hk, hv, .inl ⟨rfl, rfl⟩⟩
  simp only [Bool.or_eq_true] at ho
  rcases ho with ho | ho
  ·have c := h _ ha ho
   rcases hab with rfl | rfl
   ·exact c
   ·exact c.tie t
  ·have c := h _ hb ho
   rcases hab with rfl | rfl
   ·exact c.tie t.symm
   ·exact c
theorem rround_got {L : TieL} {n m : Nat} : ∀ (l : TieL) (s : List Bool), s.length = m -> (∀ z, z ∈ l -> z ∈ L /\ (z.1.Kind = 1 -> z.1.A.toNat < m /\ z.1.B.toNat < m)) -> Got L n s -> Got L n (rround l s)
 | [], _, _, _, h => h
 | z :: l, s, hs, hz, h => rround_got l (rstep s z) (by rw [rstep_length]; exact hs) (fun y hy => hz y (List.mem_cons_of_mem _ hy)) (rstep_got h (hz z List.mem_cons_self).1 (by rw [hs]; exact (hz z List.mem_cons_self).2))
theorem rround_inc : ∀ (l : TieL) (s : List Bool) {i : Nat}, i < s.length -> s.getD i false = true -> (rround l s).getD i false = true
 | [], _, _, _, h => h
 | z :: l, s, _, hi, h => rround_inc l (rstep s z) (by rw [rstep_length]; exact hi) ((rstep_val hi).2 (.inl h))
theorem rround_tie : ∀ (l : TieL) (s : List Bool) {z : api_Breaker × Bool}, z ∈ l -> z.1.Kind = 1 -> z.2 = true -> z.1.A.toNat < s.length -> z.1.B.toNat < s.length -> (s.getD z.1.A.toNat false || s.getD z.1.B.toNat false) = true -> ∀ i, i = z.1.A.toNat \/ i = z.1.B.toNat -> (rround l s).getD i false = true
 | [], _, _, h, _, _, _, _, _, _, _ => by cases h
 | y :: l, s, z, hz, hk, hv, ha, hb, ho, i, hi => by
  show (rround l (rstep s y)).getD i false = true
  have hil : i < s.length := by rcases hi with rfl | rfl <;> assumption
  by_cases e : z = y
  ·subst e
   exact rround_inc l _ (by rw [rstep_length]; exact hil) ((rstep_val hil).2 (.inr ⟨⟨⟨hk, hv⟩, ho⟩, hi⟩))
  ·have hz' : z ∈ l := by
    rcases List.mem_cons.1 hz with h | h
    ·exact absurd h e
    ·exact h
   refine rround_tie l (rstep s y) hz' hk hv (by rw [rstep_length]; exact ha) (by rw [rstep_length]; exact hb) ?_ i hi
   simp only [Bool.or_eq_true] at ho ⊢
   exact ho.imp (fun e => (rstep_val ha).2 (.inl e)) (fun e => (rstep_val hb).2 (.inl e))
def rounds (L : TieL) (r : Nat) (s : List Bool) : List Bool := (List.range r).foldl (fun s _ => rround L s) s
theorem rounds_succ (L : TieL) (r : Nat) (s : List Bool) : rounds L (r + 1) s = rround L (rounds L r s) := by
 unfold rounds; rw [List.range_succ, List.foldl_append]; rfl
theorem rounds_len (L : TieL) (s : List Bool) : ∀ r, (rounds L r s).length = s.length
 | 0 => rfl
 | r + 1 => by rw [rounds_succ, rround_length, rounds_len L s r]
theorem rounds_low {L : TieL} {n m : Nat} (hL : TieLt L m) {s : List Bool} (hs : s.length = m) (hn : s.getD n false = true) : ∀ r i, i < m -> ConnN L n r i -> (rounds L r s).getD i false = true := by
 intro r
 induction r with
 | zero => intro i _ h; cases h; exact hn
 | succ r ih =>
  intro i hi h
  rw [rounds_succ]
  have hl := rounds_len L s r
  cases h with
  | stay h => exact rround_inc L _ (by omega) (ih i hi h)
  | step h t =>
   rename_i k
   have hk := hL _ _ t
   have h1 := ih k hk.1 h
   obtain ⟨z, hz, hz1, hz2, he⟩ := t
   refine rround_tie L _ hz hz1 hz2 (by omega) (by omega) ?_ i (by omega)
   rcases he with ⟨e1, _⟩ | ⟨_, e2⟩
   ·rw [e1, h1]; rfl
   ·rw [e2, h1]; simp
def sameL (b : api_Board) (p : api_Power) (n : Nat) : List Int := ((List.range b.Buses.toNat).filter fun i => (groups b p).getD i 0 == (groups b p).getD n 0).map fun (i : Nat) => (i : Int)
theorem reach_eq {b : api_Board} (h : BoardOk b) {p : api_Power} (hp : StateOk b p) {n : Nat} (hn : n < b.Buses.toNat) : F114 b p (n : Int) = some (sameL b p n) := by
 have hbu := h.buses
 have hbl := h.brl
 have hncl := hp.ncl
 have hL := ties_lt h p
 refine Ok.eq ?_
 unfold F114
 refine (Ok.mkI (by omega) (by omega)).bind fun y hy => ?_
 have hyl : y.length = b.Buses.toNat := by rw [hy]; simp
 refine (Ok.getB (by omega) (by omega)).bind fun _ _ => (Ok.setI (by omega) (by omega)).bind fun z hz => ?_
 rw [Int.toNat_natCast] at hz
 have hzl : z.length = b.Buses.toNat := by rw [hz]; simpa using hyl
 have hzn : z.getD n false = true := by rw [hz]; simp [List.getD, hyl, hn]
 have hzg : Got (tiesOf b p) n z := by
  intro i hi e
  have hiy : i < y.length := by omega
  rw [hz, rset hiy] at e
  simp only [Bool.or_eq_true, decide_eq_true_eq] at e
  rcases e with e | e
  ·subst e; exact .refl _ _
  ·rw [hy] at e; simp [List.getD, show i < b.Buses.toNat by omega] at e
 clear hz
 refine Ok.andThen (A := fun s => s = rounds (tiesOf b p) b.Buses.toNat z) (B := fun (_ : Unit) => False) ?_ (fun s hs => ?_) (fun _ h => h.elim)
 ·refine Ok.foldI0 (I := fun j s => s = rounds (tiesOf b p) j z) rfl (fun j x s hx hs => ?_) fun s hs => by rw [hs, hzl]
  unfold F114_l0
  have hsl : s.length = b.Buses.toNat := by rw [hs, rounds_len, hzl]
  refine (Ok.foldI0 (I := fun k r => r = rround ((tiesOf b p).take k) s) (A := fun r => r = rround (tiesOf b p) s) (B := fun (_ : Unit) => False) rfl (fun k u r hu hr => ?_) fun r hr => ?_).inner (fun r hr => Ok.next (by rw [hr, hs, rounds_succ])) (fun _ h => h.elim)
  ·have hk := (List.getElem?_eq_some_iff.1 hu).1
   have hcnt : cnt 0 k = (k : Int) := cnt0 (by omega)
   have hrl : r.length = b.Buses.toNat := by rw [hr, rround_length, hsl]
   obtain ⟨⟨a0, a1⟩, hkind⟩ := h.br u (List.mem_of_getElem? hu)
   obtain ⟨v, hv⟩ : ∃ v, p.Closed[k]? = some v := ⟨_, List.getElem?_eq_getElem (by omega)⟩
   have hzk : (tiesOf b p)[k]? = some (u, v) := by unfold tiesOf; rw [List.getElem?_zip_eq_some]; exact ⟨hu, hv⟩
   have hnext : rround ((tiesOf b p).take (k + 1)) s = rstep r (u, v) := by
    rw [take_succ' hzk, rround, List.foldl_append, hr]; rfl
   rw [hnext]
   have hB : u.Kind = 1 -> 0 <= u.B /\ u.B < b.Buses := fun e => by omega
   unfold F114_l1
   rw [hcnt, gN hv]
   by_cases k1 : u.Kind = 1
   ·have h2 := hB k1
    obtain ⟨ga, hga⟩ : ∃ ga, r[u.A.toNat]? = some ga := ⟨_, List.getElem?_eq_getElem (by omega)⟩
    obtain ⟨gb, hgb⟩ : ∃ gb, r[u.B.toNat]? = some gb := ⟨_, List.getElem?_eq_getElem (by omega)⟩
    have hda : r.getD u.A.toNat false = ga := by simp [List.getD, hga]
    have hdb : r.getD u.B.toNat false = gb := by simp [List.getD, hgb]
    have ea : getI r u.A = some ga := by have := gN hga; rwa [Int.toNat_of_nonneg a0] at this
    have eb : getI r u.B = some gb := by have := gN hgb; rwa [Int.toNat_of_nonneg h2.1] at this
    rw [beq_iff_eq.2 k1]
    refine Ok.bind (P := fun w => w = v) (Ok.guard (fun _ => Ok.pure rfl) fun hn => (hn ⟨rfl, trivial⟩).elim) fun w hw => ?_
    subst hw
    cases w with
    | false =>
     refine Ok.bind (P := fun _ => True) (Ok.gT (fun _ => Ok.getB a0 (by omega)) fun _ => trivial) fun _ _ => ?_
     refine Ok.bind (P := fun _ => True) (Ok.gT (fun _ => Ok.getB h2.1 (by omega)) fun _ => trivial) fun _ _ => ?_
     refine Ok.cond (fun hq => by simp [c114_8] at hq) (fun _ => Ok.next ?_)
     unfold rstep
     rw [if_neg (by simp)]
    | true =>
     rw [ea, eb]
     refine Ok.bind (P := fun w => w = ga) (Ok.guard (fun _ => Ok.pure rfl) fun hn => (hn ⟨rfl, trivial⟩).elim) fun w hw => ?_
     subst hw
     refine Ok.bind (P := fun x => (w || x) = (w || gb)) (Ok.guard (fun _ => Ok.pure rfl) fun hn => ?_) fun x hx => ?_
     ·cases w with
      | true => rfl
      | false => exact (hn ⟨rfl, rfl, trivial⟩).elim
     have hc8 : c114_8 u true w x = (w || gb) := by
      unfold c114_8
      rw [hx, beq_iff_eq.2 k1]; rfl
     rw [hc8]
     refine Ok.cond (fun hq => ?_) (fun hq => Ok.next ?_)
     ·refine Ok.bind (P := fun _ => True) (Ok.triv rfl) fun _ _ => (Ok.setI a0 (by omega)).bind fun r1 e1 => ?_
      refine (Ok.getB h2.1 (by rw [e1]; simp; omega)).bind fun _ _ => (Ok.setI h2.1 (by rw [e1]; simp; omega)).bind fun r2 e2 => Ok.next ?_
      rw [e2, e1]
      unfold rstep
      rw [if_pos ⟨⟨k1, rfl⟩, by rw [hda, hdb]; exact hq⟩]
     ·unfold rstep
      rw [if_neg (fun e => by have := e.2; rw [hda, hdb, hq] at this; cases this)]
   ·have k0 : (u.Kind == 1) = false := beq_eq_false_iff_ne.2 k1
    rw [k0]
    refine Ok.bind (P := fun _ => True) (Ok.guard (fun hg => absurd hg.1 (by simp)) fun _ => trivial) fun y7 _ => ?_
    refine Ok.bind (P := fun _ => True) (Ok.guard (fun hg => absurd hg.1 (by simp)) fun _ => trivial) fun y9 _ => ?_
    refine Ok.bind (P := fun _ => True) (Ok.guard (fun hg => absurd hg.1 (by simp)) fun _ => trivial) fun y11 _ => ?_
    refine Ok.cond (fun hq => by simp [c114_8, k0] at hq) (fun _ => Ok.next ?_)
    unfold rstep
    rw [if_neg (fun e => k1 e.1.1)]
  ·have : b.Breakers.length = (tiesOf b p).length := by unfold tiesOf; rw [List.length_zip]; omega
   rw [hr, this, List.take_length]
 ·have hsl : s.length = b.Buses.toNat := by rw [hs, rounds_len, hzl]
  have hval : ∀ i, i < b.Buses.toNat -> s.getD i false = ((groups b p).getD i 0 == (groups b p).getD n 0) := by
   intro i hi
   rw [Bool.eq_iff_iff, beq_iff_eq, groups_iff h p hi hn]
   have hg : ∀ r, Got (tiesOf b p) n (rounds (tiesOf b p) r z) := by
    intro r
    induction r with
    | zero => exact hzg
    | succ r ih =>
     rw [rounds_succ]
     refine rround_got (m := b.Buses.toNat) _ _ (by rw [rounds_len, hzl]) (fun y hy => ⟨hy, fun hk => ?_⟩) ih
     have := h.br y.1 (List.of_mem_zip hy).1
     unfold BrOk at this
     omega
   constructor
   ·intro e
    rw [hs] at e
    exact (hg _ i (by rw [rounds_len, hzl]; exact hi) e).symm
   ·intro c
    rw [hs]
    exact rounds_low hL hzl hzn _ i hi (conn_bound hL hn c.symm)
  refine Ok.andThen (A := fun y => y = sameL b p n) (B := fun (_ : Unit) => False) ?_ (fun y hy => Ok.pure hy) (fun _ h => h.elim)
  refine Ok.foldI0 (I := fun j y => y = ((List.range j).filter fun i => (groups b p).getD i 0 == (groups b p).getD n 0).map fun (i : Nat) => (i : Int)) rfl (fun j x y hx hy => ?_) fun y hy => ?_
  ·have hj := (List.getElem?_eq_some_iff.1 hx).1
   have hcnt : cnt 0 j = (j : Int) := cnt0 (by omega)
   have hv := hval j (by omega)
   have hxd : s.getD j false = x := by simp [List.getD, hx]
   rw [hxd] at hv
   have hyl2 : y.length <= j := by rw [hy]; exact filt_len _ j
   rw [filt_succ, ← hy]
   unfold F114_l2
   refine Ok.cond (fun hq => ?_) (fun hq => Ok.next ?_)
   ·refine (Ok.appI (by simp; omega)).bind fun w hw => Ok.next ?_
    rw [hw, hcnt, if_pos (by rw [← hv]; exact hq)]
   ·rw [if_neg (by rw [← hv, hq]; simp), List.append_nil]
  ·rw [hy, hsl]; rfl
def ofZ (b : api_Board) (k i : Int) : List (api_Breaker × Nat) := b.Breakers.zipIdx.filter fun z => z.1.Kind == k && z.1.B == i
theorem ofL_Z {b : api_Board} {k : Int} (hk : k ≠ 1) (i : Int) : (ofL b fun x => c77_2 k i x) = (ofZ b k i).map fun z => (z.2 : Int) := by
 unfold ofL ofZ
 congr 1
 exact List.filter_congr fun z _ => q_eq k hk i z.1
theorem ofZ_mem {b : api_Board} {k i : Int} {z : api_Breaker × Nat} (h : z ∈ ofZ b k i) : b.Breakers[z.2]? = some z.1 := by
 have := (List.mem_filter.1 h).1
 rwa [List.mem_zipIdx_iff_getElem?] at this
theorem zip_find (q : api_Breaker -> Bool) (C : List Bool) : ∀ (l : List api_Breaker) (c : List Bool) (k : Nat), C.drop k = c -> l.length = c.length ->
  (((l.zipIdx k).filter fun z => q z.1).find? fun z => C.getD z.2 false).map (·.1) = ((l.zip c).find? fun z => q z.1 && z.2).map (·.1)
 | [], _, _, _, _ => by simp
 | x :: l, [], _, _, h => by simp at h
 | x :: l, v :: c, k, hd, h => by
  have hv : C[k]? = some v := by
   have := congrArg (·[0]?) hd
   simpa [List.getElem?_drop] using this
  have hd' : C.drop (k + 1) = c := by rw [← List.drop_drop, hd]; rfl
  have ih := zip_find q C l c (k + 1) hd' (by simpa using h)
  have hg : C.getD k false = v := by simp [List.getD, hv]
  simp only [List.zipIdx_cons, List.filter_cons, List.zip_cons_cons, List.find?_cons]
  cases hq : q x with
  | false => simpa only [Bool.false_and, Bool.false_eq_true, if_false] using ih
  | true =>
   simp only [if_true, List.find?_cons, hg, Bool.true_and]
   cases v with
   | false => exact ih
   | true => rfl
theorem ledO_Z {b : api_Board} {p : api_Power} (hc : p.Closed.length = b.Breakers.length) (k i : Int) : ledO b p k i = ((ofZ b k i).find? fun z => p.Closed.getD z.2 false).map (·.1.A) := by
 have := zip_find (fun x => x.Kind == k && x.B == i) p.Closed b.Breakers p.Closed 0 rfl (by omega)
 unfold ledO ofZ
 have h2 := congrArg (Option.map (·.A)) this
 simp only [Option.map_map] at h2
 exact h2.symm
theorem closed_get {b : api_Board} {p : api_Power} (hc : p.Closed.length = b.Breakers.length) {k i : Int} {z : api_Breaker × Nat} (h : z ∈ ofZ b k i) : p.Closed[z.2]? = some (p.Closed.getD z.2 false) := by
 have := (List.getElem?_eq_some_iff.1 (ofZ_mem h)).1
 rw [List.getElem?_eq_getElem (by omega)]
 simp [List.getD, List.getElem?_eq_getElem (show z.2 < p.Closed.length by omega)]
theorem connected15_eq {b : api_Board} (h : BoardOk b) {p : api_Power} (hp : StateOk b p) (i : Int) : F27 b p i = some (flag (conO b p i)) := by
 have hn := hp.nso
 have hc := hp.ncl
 refine Ok.eq ?_
 unfold F27
 rw [refState h hp]
 simp only [Option.bind_some]
 by_cases hi : 0 <= i /\ i < b.Sources.length
 ·obtain ⟨x, hx⟩ : ∃ x, p.Sources[i.toNat]? = some x := ⟨_, List.getElem?_eq_getElem (by omega)⟩
  have hg : getI p.Sources i = some x := by have := gN hx; rwa [Int.toNat_of_nonneg hi.1] at this
  have hd : p.Sources.getD i.toNat default = x := by simp [List.getD, hx]
  have hcond : ((((0 : Int) != 0) || (decide (i < 0))) || (decide (i >= (b.Sources.length : Int)))) = false := by
   rw [Bool.eq_false_iff]; intro e; simp at e; omega
  rw [hcond, hg]
  refine Ok.bind (P := fun y => y = x) (Ok.guard (fun _ => Ok.pure rfl) fun hn => (hn ⟨rfl, trivial⟩).elim) fun y hy => ?_
  subst hy
  refine Ok.cond (fun hq => Ok.pure ?_) (fun hq => ?_)
  ·simp only [c27_0, hcond, Bool.false_or, bne_iff_ne, ne_eq] at hq
   unfold conO
   rw [if_neg (fun e => by rw [hd] at e; exact hq e.2.2)]; rfl
  ·simp only [c27_0, hcond, Bool.false_or, bne_eq_false_iff_eq] at hq
   have hcon : conO b p i = ledO b p 2 i := by
    unfold conO
    rw [if_pos ⟨hi.1, by omega, by rw [hd]; exact hq⟩]
   rw [of15 h, ofL_Z (by decide), hcon, ledO_Z hc]
   simp only [Option.bind_some]
   obtain ⟨n, rfl⟩ : ∃ n : Nat, i = (n : Int) := ⟨i.toNat, by omega⟩
   have hlen := ofL_brs (b := b) (k := 2) (by decide) n
   rw [ofL_Z (by decide), h.one n (by omega), List.length_map] at hlen
   obtain ⟨z, hz⟩ := List.length_eq_one_iff.1 hlen
   have hzm : z ∈ ofZ b 2 (n : Int) := by rw [hz]; exact List.mem_cons_self
   have hcz := closed_get hc hzm
   have hbz := ofZ_mem hzm
   rw [hz]
   show Ok ((getI [(z.2 : Int)] 0).bind _) _
   rw [show getI [(z.2 : Int)] 0 = some (z.2 : Int) from rfl]
   simp only [Option.bind_some, gN hcz, List.find?_cons, List.find?_nil]
   cases hv : p.Closed.getD z.2 false with
   | false => exact Ok.pure rfl
   | true =>
    simp only [Bool.not_true, cond_false, gN hbz, Option.bind_some]
    exact Ok.pure rfl
 ·refine Ok.bind (P := fun _ => True) (Ok.guard (fun hg => ?_) fun _ => trivial) fun y _ => ?_
  ·have := hg.1
   simp at this; omega
  refine Ok.cond (fun hq => Ok.pure ?_) (fun hq => ?_)
  ·unfold conO
   rw [if_neg (fun e => hi (by omega))]; rfl
  ·simp [c27_0] at hq; omega
theorem fed15_eq {b : api_Board} (h : BoardOk b) {p : api_Power} (hp : StateOk b p) {i : Int} (h0 : 0 <= i) (h1 : i < b.Consumers.length) : F48 b p i = some (flag (ledO b p 3 i)) := by
 have hc := hp.ncl
 refine Ok.eq ?_
 unfold F48
 rw [refState h hp]
 simp only [Option.bind_some]
 refine Ok.cond (fun hq => ?_) (fun _ => ?_)
 ·simp [c48_0] at hq; omega
 rw [of15 h, ofL_Z (by decide), ledO_Z hc]
 simp only [Option.bind_some]
 have key : ∀ (m : List (api_Breaker × Nat)) (k : Nat), (∀ z, z ∈ m -> b.Breakers[z.2]? = some z.1 /\ p.Closed[z.2]? = some (p.Closed.getD z.2 false)) ->
   fI (F48_l0 b p) (m.map fun z => (z.2 : Int)) k () = match m.find? fun z => p.Closed.getD z.2 false with
    | some z => some (.ret (z.1.A, true))
    | none => some (.next ()) := by
  intro m
  induction m with
  | nil => intro k _; rfl
  | cons z m ih =>
   intro k hm
   obtain ⟨e1, e2⟩ := hm z List.mem_cons_self
   simp only [List.map_cons, fI, F48_l0, gN e1, gN e2, Option.bind_some, List.find?_cons]
   cases p.Closed.getD z.2 false with
   | true => rfl
   | false => exact ih (k + 1) fun y hy => hm y (List.mem_cons_of_mem _ hy)
 rw [key _ 0 fun z hz => ⟨ofZ_mem hz, closed_get hc hz⟩]
 cases (ofZ b 3 i).find? fun z => p.Closed.getD z.2 false with
 | none => exact Ok.pure rfl
 | some z => exact Ok.pure rfl
theorem has_eq (l : List Int) (x : Int) : F55 l x = some (l.any (· == x)) := by
 unfold F55
 have : ∀ (l : List Int) (k : Nat), fI (F55_l0 x) l k () = bif l.any (· == x) then some (.ret true) else some (.next ()) := by
  intro l
  induction l with
  | nil => intro k; rfl
  | cons y l ih =>
   intro k
   simp only [fI, F55_l0, List.any_cons]
   cases hy : (y == x) with
   | true => rfl
   | false => simp only [cond_false, Bool.false_or]; exact ih (k + 1)
 rw [this]
 cases l.any (· == x) <;> rfl
theorem same_any {b : api_Board} {p : api_Power} {n : Nat} {a : Int} (h0 : 0 <= a) (h1 : a < b.Buses) : (sameL b p n).any (· == a) = ((groups b p).getD a.toNat 0 == (groups b p).getD n 0) := by
 rw [Bool.eq_iff_iff, List.any_eq_true]
 constructor
 ·rintro ⟨x, hx, e⟩
  rw [beq_iff_eq] at e; subst e
  obtain ⟨i, hi, rfl⟩ := List.mem_map.1 hx
  rw [Int.toNat_natCast]
  exact (List.mem_filter.1 hi).2
 ·intro e
  refine ⟨a, List.mem_map.2 ⟨a.toNat, List.mem_filter.2 ⟨List.mem_range.2 (by omega), e⟩, by omega⟩, by simp⟩
theorem groups_at {b : api_Board} (h : BoardOk b) (p : api_Power) {n : Nat} (hn : n < b.Buses.toNat) : 0 <= (groups b p).getD n 0 /\ ((groups b p).getD n 0).toNat <= n /\ (((groups b p).getD n 0).toNat : Int) = (groups b p).getD n 0 := by
 have := groups_lo h p n _ (gget (by rw [groups_length]; exact hn))
 omega
theorem of15_eq {b : api_Board} (h : BoardOk b) {p : api_Power} (hp : StateOk b p) {n : Nat} (hn : n < b.Buses.toNat) : F54 b p (n : Int) = some (isl b p ((groups b p).getD n 0).toNat, true) := by
 have hso := h.sol
 have hco := h.col
 have hg := groups_at h p hn
 refine Ok.eq ?_
 unfold F54
 rw [refState h hp]
 simp only [Option.bind_some]
 refine Ok.cond (fun hc => ?_) (fun _ => ?_)
 ·simp [c54_0] at hc; omega
 rw [reach_eq h hp hn]
 simp only [Option.bind_some]
 refine Ok.andThen (A := fun s => s.2 = srcsOf b p b.Sources.length ((groups b p).getD n 0).toNat) (B := fun (_ : Unit) => False) ?_ (fun s hs => ?_) (fun _ h => h.elim)
 ·refine Ok.whileN (fun s => (0 <= s.1 /\ s.1 <= (b.Sources.length : Int)) /\ s.2 = srcsOf b p s.1.toNat ((groups b p).getD n 0).toNat) (fun s => ((b.Sources.length : Int) - s.1).toNat) _ _ ?_ ?_ ?_
  ·exact ⟨by dsimp only; omega, rfl⟩
  ·dsimp only; omega
  ·rintro ⟨i, s⟩ ⟨⟨g1, g2⟩, g3⟩
   dsimp only at g1 g2 g3
   unfold F54_l0 c54_2
   dsimp only
   have hsl : s.length <= i.toNat := by rw [g3]; exact filt_len _ _
   refine Ok.cond (fun hq => ?_) (fun hq => Ok.brk ?_)
   ·simp only [decide_eq_true_eq] at hq
    have e1 : w64 (i + 1) = i + 1 := wI (by omega)
    have e2 : (i + 1).toNat = i.toNat + 1 := by omega
    have e3 : ((i.toNat : Nat) : Int) = i := by omega
    rw [e1, connected15_eq h hp]
    simp only [Option.bind_some, has_eq]
    have hnext : srcsOf b p (i.toNat + 1) ((groups b p).getD n 0).toNat = s ++ if (grpOf b p (conO b p i) == some (((groups b p).getD n 0).toNat : Int)) = true then [i] else [] := by
     unfold srcsOf at g3 ⊢
     rw [filt_succ, ← g3, e3]
    have hskip : (grpOf b p (conO b p i) == some (((groups b p).getD n 0).toNat : Int)) = false -> Ok (some (.next (i + 1, s)) : Option (Ctl (Int × List Int) Unit)) (RoundSo (fun s' => ((0 <= s'.1 /\ s'.1 <= (b.Sources.length : Int)) /\ s'.2 = srcsOf b p s'.1.toNat ((groups b p).getD n 0).toNat) /\ ((b.Sources.length : Int) - s'.1).toNat < ((b.Sources.length : Int) - i).toNat) (fun s => s.2 = srcsOf b p b.Sources.length ((groups b p).getD n 0).toNat) (fun _ => False)) := by
     intro hf
     refine Ok.next ⟨⟨by dsimp only; omega, ?_⟩, by dsimp only; omega⟩
     dsimp only
     rw [e2, hnext, hf]; simp
    cases hco : conO b p i with
    | none =>
     refine Ok.bind (P := fun _ => True) (Ok.guard (fun hg => absurd hg.1 (by simp [flag])) fun _ => trivial) fun y _ => ?_
     refine Ok.cond (fun hq => by simp [flag] at hq) (fun _ => hskip (by rw [hco]; rfl))
    | some a =>
     have ha := conO_bus h hco
     refine Ok.bind (P := fun y => y = (sameL b p n).any (· == a)) (Ok.guard (fun _ => Ok.pure rfl) fun hn => (hn ⟨rfl, trivial⟩).elim) fun y hy => ?_
     rw [same_any ha.1 ha.2] at hy
     have hgr : (grpOf b p (conO b p i) == some (((groups b p).getD n 0).toNat : Int)) = ((groups b p).getD a.toNat 0 == (groups b p).getD n 0) := by
      rw [hco, hg.2.2]; rfl
     refine Ok.cond (fun hq => ?_) (fun hq => ?_)
     ·simp only [flag, Bool.true_and] at hq
      refine (Ok.appI (by simp; omega)).bind fun w hw => Ok.next ⟨⟨by dsimp only; omega, ?_⟩, by dsimp only; omega⟩
      dsimp only
      rw [e2, hnext, hgr, ← hy, hq, hw]; rfl
     ·simp only [flag, Bool.true_and] at hq
      exact hskip (by rw [hgr, ← hy, hq])
   ·simp only [decide_eq_false_iff_not] at hq
    dsimp only
    rw [g3]
    have : i.toNat = b.Sources.length := by omega
    rw [this]
 ·refine Ok.andThen (A := fun s => s.2 = consOf b p b.Consumers.length ((groups b p).getD n 0).toNat) (B := fun (_ : Unit) => False) ?_ (fun t ht => Ok.pure ?_) (fun _ h => h.elim)
  ·refine Ok.whileN (fun s => (0 <= s.1 /\ s.1 <= (b.Consumers.length : Int)) /\ s.2 = consOf b p s.1.toNat ((groups b p).getD n 0).toNat) (fun s => ((b.Consumers.length : Int) - s.1).toNat) _ _ ?_ ?_ ?_
   ·exact ⟨by dsimp only; omega, rfl⟩
   ·dsimp only; omega
   ·rintro ⟨i, s⟩ ⟨⟨g1, g2⟩, g3⟩
    dsimp only at g1 g2 g3
    unfold F54_l1 c54_4
    dsimp only
    have hsl : s.length <= i.toNat := by rw [g3]; exact filt_len _ _
    refine Ok.cond (fun hq => ?_) (fun hq => Ok.brk ?_)
    ·simp only [decide_eq_true_eq] at hq
     have e1 : w64 (i + 1) = i + 1 := wI (by omega)
     have e2 : (i + 1).toNat = i.toNat + 1 := by omega
     have e3 : ((i.toNat : Nat) : Int) = i := by omega
     rw [e1, fed15_eq h hp g1 hq]
     simp only [Option.bind_some, has_eq]
     have hnext : consOf b p (i.toNat + 1) ((groups b p).getD n 0).toNat = s ++ if (grpOf b p (ledO b p 3 i) == some (((groups b p).getD n 0).toNat : Int)) = true then [i] else [] := by
      unfold consOf at g3 ⊢
      rw [filt_succ, ← g3, e3]
     have hskip : (grpOf b p (ledO b p 3 i) == some (((groups b p).getD n 0).toNat : Int)) = false -> Ok (some (.next (i + 1, s)) : Option (Ctl (Int × List Int) Unit)) (RoundSo (fun s' => ((0 <= s'.1 /\ s'.1 <= (b.Consumers.length : Int)) /\ s'.2 = consOf b p s'.1.toNat ((groups b p).getD n 0).toNat) /\ ((b.Consumers.length : Int) - s'.1).toNat < ((b.Consumers.length : Int) - i).toNat) (fun s => s.2 = consOf b p b.Consumers.length ((groups b p).getD n 0).toNat) (fun _ => False)) := by
      intro hf
      refine Ok.next ⟨⟨by dsimp only; omega, ?_⟩, by dsimp only; omega⟩
      dsimp only
      rw [e2, hnext, hf]; simp
     cases hco : ledO b p 3 i with
     | none =>
      refine Ok.bind (P := fun _ => True) (Ok.guard (fun hg => absurd hg.1 (by simp [flag])) fun _ => trivial) fun y _ => ?_
      refine Ok.cond (fun hq => by simp [flag] at hq) (fun _ => hskip (by rw [hco]; rfl))
     | some a =>
      have ha := ledO_bus h hco
      refine Ok.bind (P := fun y => y = (sameL b p n).any (· == a)) (Ok.guard (fun _ => Ok.pure rfl) fun hn => (hn ⟨rfl, trivial⟩).elim) fun y hy => ?_
      rw [same_any ha.1 ha.2] at hy
      have hgr : (grpOf b p (ledO b p 3 i) == some (((groups b p).getD n 0).toNat : Int)) = ((groups b p).getD a.toNat 0 == (groups b p).getD n 0) := by
       rw [hco, hg.2.2]; rfl
      refine Ok.cond (fun hq => ?_) (fun hq => ?_)
      ·simp only [flag, Bool.true_and] at hq
       refine (Ok.appI (by simp; omega)).bind fun w hw => Ok.next ⟨⟨by dsimp only; omega, ?_⟩, by dsimp only; omega⟩
       dsimp only
       rw [e2, hnext, hgr, ← hy, hq, hw]; rfl
      ·simp only [flag, Bool.true_and] at hq
       exact hskip (by rw [hgr, ← hy, hq])
    ·simp only [decide_eq_false_iff_not] at hq
     dsimp only
     rw [g3]
     have : i.toNat = b.Consumers.length := by omega
     rw [this]
  ·rw [hs, ht]
   unfold isl busesOf sameL
   rw [hg.2.2]
def isLead (b : api_Board) (p : api_Power) (f : Nat) : Bool := (groups b p).getD f 0 == (f : Int)
theorem group_of_group {b : api_Board} (h : BoardOk b) (p : api_Power) {n : Nat} (hn : n < b.Buses.toNat) : isLead b p ((groups b p).getD n 0).toNat = true := by
 have hg := groups_at h p hn
 unfold isLead
 rw [beq_iff_eq, hg.2.2]
 have hm : ((groups b p).getD n 0).toNat < b.Buses.toNat := by omega
 have hL := ties_lt h p
 have hself : Conn (tiesOf b p) ((groups b p).getD n 0).toNat n := by
  have hlab : ∀ (xs : List Nat) (s : List Int), s.length = b.Buses.toNat -> Lab (tiesOf b p) s -> Lab (tiesOf b p) (xs.foldl (fun s _ => ground (b.Breakers.zip p.Closed) s) s) := by
   intro xs
   induction xs with
   | nil => intro s _ h; exact h
   | cons x xs ih =>
    intro s hl h2
    refine ih _ (by rw [ground_length]; exact hl) (ground_lab _ s hl (fun z hz => ⟨hz, fun hk => ?_⟩) h2)
    have := h.br z.1 (List.of_mem_zip hz).1
    unfold BrOk at this
    omega
  refine hlab (List.range b.Buses.toNat) (rangeI b.Buses.toNat) (by simp [rangeI]) ?_ n ?_
  ·intro k hk
   rw [range_get (by simpa [rangeI] using hk)]
   exact .refl _ k
  ·have := groups_length b p
   unfold groups at this
   rw [this]; exact hn
 exact (groups_iff h p hm hn).2 hself
theorem full_isl {b : api_Board} (h : BoardOk b) (p : api_Power) {f : Nat} (hf : f < b.Buses.toNat) : full (isl b p f) = isLead b p f := by
 rw [Bool.eq_iff_iff]
 unfold full isl busesOf
 simp only [Bool.not_eq_true', beq_eq_false_iff_ne, ne_eq, List.length_map]
 constructor
 ·intro e
  have hne : (List.range b.Buses.toNat).filter (fun i => (groups b p).getD i 0 == (f : Int)) ≠ [] := fun e2 => e (by rw [e2]; rfl)
  obtain ⟨i, hi⟩ := List.exists_mem_of_ne_nil _ hne
  obtain ⟨h1, h2⟩ := List.mem_filter.1 hi
  rw [beq_iff_eq] at h2
  have := group_of_group h p (List.mem_range.1 h1)
  rw [h2, Int.toNat_natCast] at this
  exact this
 ·intro e e2
  have hm : f ∈ (List.range b.Buses.toNat).filter (fun i => (groups b p).getD i 0 == (f : Int)) := List.mem_filter.2 ⟨List.mem_range.2 hf, e⟩
  have := List.length_pos_iff.2 (List.ne_nil_of_mem hm)
  omega
def leads (b : api_Board) (p : api_Power) (n : Nat) : List Nat := (List.range n).filter (isLead b p)
theorem islands_leads {b : api_Board} (h : BoardOk b) (p : api_Power) : islands b p = (leads b p b.Buses.toNat).map (isl b p) := by
 unfold islands leads
 rw [List.filter_map]
 congr 1
 exact List.filter_congr fun f hf => full_isl h p (List.mem_range.1 hf)
theorem same_head {b : api_Board} (h : BoardOk b) (p : api_Power) {n : Nat} (hn : n < b.Buses.toNat) : ∃ m : Nat, (sameL b p n)[0]? = some (m : Int) /\ (m = n ↔ isLead b p n = true) := by
 have hg := groups_at h p hn
 have hm : ((groups b p).getD n 0).toNat < b.Buses.toNat := by omega
 have hgg := group_of_group h p hn
 unfold isLead at hgg
 rw [beq_iff_eq, hg.2.2] at hgg
 have hfind : (List.range b.Buses.toNat).find? (fun i => (groups b p).getD i 0 == (groups b p).getD n 0) = some ((groups b p).getD n 0).toNat := by
  rw [List.find?_range_eq_some]
  refine ⟨by rw [beq_iff_eq]; exact hgg, List.mem_range.2 hm, fun j hj => ?_⟩
  simp only [Bool.not_eq_true', beq_eq_false_iff_ne, ne_eq]
  intro e
  have := groups_at h p (n := j) (by omega)
  omega
 refine ⟨((groups b p).getD n 0).toNat, ?_, ?_⟩
 ·unfold sameL
  rw [List.getElem?_map, ← List.head?_eq_getElem?, List.head?_filter, hfind]; rfl
 ·unfold isLead
  rw [beq_iff_eq]; omega
theorem islands15_eq {b : api_Board} (h : BoardOk b) {p : api_Power} (hp : StateOk b p) : F25 b p = some (islands b p) := by
 have hbu := h.buses
 rw [islands_leads h]
 refine Ok.eq ?_
 unfold F25
 rw [refState h hp]
 simp only [Option.bind_some]
 refine Ok.cond (fun hc => by simp at hc) (fun _ => ?_)
 refine Ok.andThen (A := fun s => s.2 = (leads b p b.Buses.toNat).map (isl b p)) (B := fun (_ : Unit) => False) ?_ (fun s hs => Ok.pure hs) (fun _ h => h.elim)
 refine Ok.whileN (fun s => (0 <= s.1 /\ s.1 <= b.Buses) /\ s.2 = (leads b p s.1.toNat).map (isl b p)) (fun s => (b.Buses - s.1).toNat) _ _ ?_ ?_ ?_
 ·exact ⟨by dsimp only; omega, rfl⟩
 ·dsimp only; omega
 ·rintro ⟨i, s⟩ ⟨⟨g1, g2⟩, g3⟩
  dsimp only at g1 g2 g3
  unfold F25_l0
  dsimp only
  refine Ok.cond (fun hq => ?_) (fun hq => Ok.brk ?_)
  ·simp only [decide_eq_true_eq] at hq
   obtain ⟨n, rfl⟩ : ∃ n : Nat, i = (n : Int) := ⟨i.toNat, by omega⟩
   have hn : n < b.Buses.toNat := by omega
   have e1 : w64 ((n : Int) + 1) = (n : Int) + 1 := wI (by omega)
   have e2 : ((n : Int) + 1).toNat = n + 1 := by omega
   have hg := groups_at h p hn
   obtain ⟨m, hm, hmn⟩ := same_head h p hn
   have hbuses : (isl b p ((groups b p).getD n 0).toNat).Buses = sameL b p n := by
    unfold isl busesOf sameL
    rw [hg.2.2]
   rw [Int.toNat_natCast] at g3
   have hsl : s.length <= n := by
    rw [g3, List.length_map]
    exact Nat.le_trans (List.length_filter_le _ _) (by simp)
   have hnext : leads b p (n + 1) = leads b p n ++ if isLead b p n = true then [n] else [] := by
    unfold leads
    rw [List.range_succ, List.filter_append]
    congr 1
    cases hq : isLead b p n <;> simp [hq]
   rw [e1, of15_eq h hp hn]
   simp only [Option.bind_some, hbuses]
   have hg0 : getI (sameL b p n) 0 = some (m : Int) := gN (j := 0) hm
   rw [hg0]
   simp only [Option.bind_some]
   refine Ok.cond (fun hq => ?_) (fun hq => Ok.next ⟨⟨by dsimp only; omega, ?_⟩, by dsimp only; omega⟩)
   ·simp only [beq_iff_eq] at hq
    have hle := hmn.1 (by omega)
    refine (Ok.appI (by simp; omega)).bind fun w hw => Ok.next ⟨⟨by dsimp only; omega, ?_⟩, by dsimp only; omega⟩
    dsimp only
    have hgn : ((groups b p).getD n 0).toNat = n := by
     unfold isLead at hle
     rw [beq_iff_eq] at hle; omega
    rw [e2, hnext, if_pos hle, hw, g3, List.map_append, hgn]; rfl
   ·simp only [beq_eq_false_iff_ne, ne_eq] at hq
    have hle : ¬ isLead b p n = true := fun e => hq (by rw [hmn.2 e])
    dsimp only
    rw [e2, hnext, if_neg hle, List.append_nil, g3]
  ·simp only [decide_eq_false_iff_not] at hq
   dsimp only
   have : i.toNat = b.Buses.toNat := by omega
   rw [g3, this]
theorem follow16_eq {b : api_Board} (h : BoardOk b) {p : api_Power} (hp : StateOk b p) : F131 b p = some (⟨p.Closed, followL b p, p.Limits, p.Broken⟩, 0) := by
 have hn := hp.nso
 refine Ok.eq ?_
 unfold F131
 rw [refState h hp]
 simp only [Option.bind_some]
 refine Ok.cond (fun hc => by simp at hc) (fun _ => ?_)
 refine Ok.bind (P := fun y => y = ⟨p.Closed, followL b p, p.Limits, p.Broken⟩) ?_ fun y hy => Ok.pure (by rw [hy])
 unfold F127
 rw [copy_eq h hp, islands15_eq h hp]
 simp only [Option.bind_some]
 refine Ok.andThen (A := fun s => s = followL b p) (B := fun (_ : Unit) => False) ?_ (fun s hs => Ok.pure (by rw [hs])) (fun _ h => h.elim)
 refine Ok.foldI0 (I := fun j s => s = ((islands b p).take j).foldl (fstep p) p.Sources) rfl (fun j x s hx hs => ?_) fun s hs => ?_
 ·have hi := isl_src (List.mem_of_getElem? hx)
  have hl : s.length = p.Sources.length := by rw [hs, fold_length]
  have hnext : ((islands b p).take (j + 1)).foldl (fstep p) p.Sources = fstep p s x := by rw [take_succ' hx, List.foldl_append, ← hs]; rfl
  rw [hnext]
  unfold F127_l0
  cases hsrc : x.Sources with
  | nil => exact Ok.next (by unfold fstep; rw [hsrc])
  | cons m l =>
   have hm := hi m (by rw [hsrc]; exact List.mem_cons_self)
   obtain ⟨u, hu⟩ : ∃ u, p.Sources[m.toNat]? = some u := ⟨_, List.getElem?_eq_getElem (by omega)⟩
   have hgu : getI p.Sources m = some u := by have := gN hu; rwa [Int.toNat_of_nonneg hm.1] at this
   have hd : p.Sources.getD m.toNat default = u := by simp [List.getD, hu]
   have hf : fstep p s x = setL u (m :: l) s := by unfold fstep; rw [hsrc]; simp only [hd]
   rw [hf]
   have hin : ∀ k, k ∈ m :: l -> 0 <= k /\ k < p.Sources.length := fun k hk => by
    have := hi k (by rw [hsrc]; exact hk)
    omega
   refine (Ok.foldI0 (I := fun k r => r = setL u ((m :: l).take k) s) (A := fun r => r = setL u (m :: l) s) (B := fun (_ : Unit) => False) rfl (fun k n r hk hr => ?_) fun r hr => by rw [hr, List.take_length]).inner (fun r hr => Ok.next hr) (fun _ h => h.elim)
   have hnk := hin n (List.mem_of_getElem? hk)
   have hrl : r.length = p.Sources.length := by rw [hr, setL_length, hl]
   unfold F127_l1
   rw [hsrc, show getI (m :: l) 0 = some m from rfl]
   simp only [Option.bind_some, hgu]
   refine (Ok.getI hnk.1 (by omega)).bind fun v hv => (Ok.setI hnk.1 (by omega)).bind fun r1 e1 => ?_
   have hvg : r1[n.toNat]? = some (⟨v.State, v.Since, u.Frequency, v.Phase⟩ : api_Running) := by rw [e1, List.getElem?_set_self (by omega)]
   refine Ok.bind (P := fun w => w = (⟨v.State, v.Since, u.Frequency, v.Phase⟩ : api_Running)) ((Ok.getI hnk.1 (by rw [e1]; simp; omega)).mono fun w hw => by rw [hvg] at hw; cases hw; rfl) fun w hw => ?_
   refine (Ok.setI hnk.1 (by rw [e1]; simp; omega)).bind fun r2 e2 => Ok.next ?_
   have hdv : r.getD n.toNat default = v := by simp [List.getD, hv]
   rw [setL_take hk, ← hr, hdv, e2, e1, hw, List.set_set]; rfl
 ·rw [List.take_length] at hs; exact hs
theorem set_self {ss : List api_Running} {n : Nat} (h : n < ss.length) : ss.set n (ss.getD n default) = ss := by
 apply List.ext_getElem?
 intro i
 rw [List.getElem?_set]
 split
 ·rename_i e; subst e
  simp [List.getD, List.getElem?_eq_getElem h]
 ·rfl
theorem setL_same {like : api_Running} : ∀ (idx : List Int) (ss : List api_Running), (∀ i, i ∈ idx -> i.toNat < ss.length /\ tune like (ss.getD i.toNat default) = ss.getD i.toNat default) -> setL like idx ss = ss
 | [], _, _ => rfl
 | i :: idx, ss, h => by
  obtain ⟨h1, h2⟩ := h i List.mem_cons_self
  show setL like idx (ss.set i.toNat (tune like (ss.getD i.toNat default))) = ss
  rw [h2, set_self h1]
  exact setL_same idx ss fun j hj => h j (List.mem_cons_of_mem _ hj)
theorem getD_set {ss : List api_Running} {m n : Nat} {y : api_Running} : (ss.set m y).getD n default = if m = n /\ m < ss.length then y else ss.getD n default := by
 unfold List.getD
 rw [List.getElem?_set]
 by_cases e : m = n
 ·subst e
  by_cases hl : m < ss.length
  ·simp [hl]
  ·simp [hl]
 ·simp [e]
theorem setL_state (like : api_Running) : ∀ (idx : List Int) (ss : List api_Running) (n : Nat), ((setL like idx ss).getD n default).State = (ss.getD n default).State
 | [], _, _ => rfl
 | i :: idx, ss, n => by
  show ((setL like idx _).getD n default).State = _
  rw [setL_state like idx, getD_set]
  split
  ·rename_i e; rw [← e.1]; rfl
  ·rfl
theorem setL_off {like : api_Running} : ∀ (idx : List Int) (ss : List api_Running) {n : Nat}, (∀ i, i ∈ idx -> i.toNat ≠ n) -> (setL like idx ss).getD n default = ss.getD n default
 | [], _, _, _ => rfl
 | i :: idx, ss, n, h => by
  show (setL like idx _).getD n default = _
  rw [setL_off idx _ (fun j hj => h j (List.mem_cons_of_mem _ hj)), getD_set, if_neg (fun e => h i List.mem_cons_self e.1)]
theorem setL_on {like : api_Running} : ∀ (idx : List Int) (ss : List api_Running) {n : Nat}, n < ss.length -> (∃ i, i ∈ idx /\ i.toNat = n) -> ((setL like idx ss).getD n default).Frequency = like.Frequency /\ ((setL like idx ss).getD n default).Phase = like.Phase
 | [], _, _, _, h => by obtain ⟨_, h, _⟩ := h; cases h
 | i :: idx, ss, n, hn, h => by
  by_cases hr : ∃ j, j ∈ idx /\ j.toNat = n
  ·exact setL_on idx _ (by simpa using hn) hr
  ·have hi : i.toNat = n := by
    obtain ⟨j, hj, e⟩ := h
    rcases List.mem_cons.1 hj with rfl | hj
    ·exact e
    ·exact absurd ⟨j, hj, e⟩ hr
   have : (setL like (i :: idx) ss).getD n default = tune like (ss.getD i.toNat default) := by
    show (setL like idx _).getD n default = _
    rw [setL_off idx _ (fun j hj e => hr ⟨j, hj, e⟩), getD_set, if_pos ⟨hi, by omega⟩]
   rw [this]; exact ⟨rfl, rfl⟩
def AgreeP (b : api_Board) (p : api_Power) : Prop := ∀ x, x ∈ islands b p -> ∀ i j, i ∈ x.Sources -> j ∈ x.Sources ->
 (p.Sources.getD i.toNat default).Frequency = (p.Sources.getD j.toNat default).Frequency /\ (p.Sources.getD i.toNat default).Phase = (p.Sources.getD j.toNat default).Phase
theorem follow_agree {b : api_Board} {p : api_Power} (hn : p.Sources.length = b.Sources.length) (h : AgreeP b p) : followL b p = p.Sources := by
 have key : ∀ l : List api_Island, (∀ x, x ∈ l -> x ∈ islands b p) -> l.foldl (fstep p) p.Sources = p.Sources := by
  intro l
  induction l with
  | nil => intro _; rfl
  | cons x l ih =>
   intro hl
   have hx := hl x List.mem_cons_self
   have hst : fstep p p.Sources x = p.Sources := by
    unfold fstep
    split
    ·rfl
    ·rename_i i r e
     refine setL_same _ _ fun j hj => ?_
     have hj2 := isl_src hx j hj
     have ha := h x hx i j (by rw [e]; exact List.mem_cons_self) hj
     refine ⟨by omega, ?_⟩
     unfold tune
     rw [ha.1, ha.2]
   rw [List.foldl_cons, hst]
   exact ih fun y hy => hl y (List.mem_cons_of_mem _ hy)
 exact key _ fun _ hx => hx
theorem fstep_state (p : api_Power) (s : List api_Running) (x : api_Island) (n : Nat) : ((fstep p s x).getD n default).State = (s.getD n default).State := by
 unfold fstep
 split
 ·rfl
 ·exact setL_state _ _ _ _
theorem followL_state (b : api_Board) (p : api_Power) (n : Nat) : ((followL b p).getD n default).State = (p.Sources.getD n default).State := by
 have key : ∀ (l : List api_Island) (s : List api_Running), ((l.foldl (fstep p) s).getD n default).State = (s.getD n default).State := by
  intro l
  induction l with
  | nil => intro s; rfl
  | cons x l ih => intro s; rw [List.foldl_cons, ih, fstep_state]
 exact key _ _
theorem islands_congr {b : api_Board} {p q : api_Power} (hc : q.Closed = p.Closed) (hl : q.Sources.length = p.Sources.length) (hs : ∀ n : Nat, (q.Sources.getD n default).State = (p.Sources.getD n default).State) : islands b q = islands b p := by
 have hled : ∀ k i, ledO b q k i = ledO b p k i := fun k i => by unfold ledO; rw [hc]
 have hgr : groups b q = groups b p := by unfold groups; rw [hc]
 have hcon : ∀ i, conO b q i = conO b p i := fun i => by unfold conO; rw [hled, hl, hs]
 have hgo : ∀ o, grpOf b q o = grpOf b p o := fun o => by unfold grpOf; rw [hgr]
 have hisl : isl b q = isl b p := by
  funext f
  unfold isl busesOf srcsOf consOf
  simp only [hgr, hled, hcon, hgo]
 unfold islands
 rw [hisl]
theorem src_iff {b : api_Board} {p : api_Power} {f : Nat} {i : Int} : i ∈ (isl b p f).Sources ↔ ∃ k : Nat, i = (k : Int) /\ k < b.Sources.length /\ grpOf b p (conO b p (k : Int)) = some (f : Int) := by
 constructor
 ·intro h
  obtain ⟨k, hk, e⟩ := List.mem_map.1 h
  obtain ⟨h1, h2⟩ := List.mem_filter.1 hk
  exact ⟨k, e.symm, List.mem_range.1 h1, by rwa [beq_iff_eq] at h2⟩
 ·rintro ⟨k, e, h1, h2⟩
  exact List.mem_map.2 ⟨k, List.mem_filter.2 ⟨List.mem_range.2 h1, by rw [beq_iff_eq]; exact h2⟩, e.symm⟩
theorem src_disj {b : api_Board} {p : api_Power} {f g : Nat} (hfg : f ≠ g) {i j : Int} (hi : i ∈ (isl b p f).Sources) (hj : j ∈ (isl b p g).Sources) : i.toNat ≠ j.toNat := by
 obtain ⟨k, rfl, _, e1⟩ := src_iff.1 hi
 obtain ⟨m, rfl, _, e2⟩ := src_iff.1 hj
 rw [Int.toNat_natCast, Int.toNat_natCast]
 intro e; subst e
 rw [e1] at e2
 have := Option.some.inj e2
 exact hfg (by omega)
def leadR (b : api_Board) (p : api_Power) (f : Nat) : api_Running := p.Sources.getD ((isl b p f).Sources.headD 0).toNat default
theorem fold_off {b : api_Board} {p : api_Power} {n : Nat} : ∀ (fs : List Nat) (s : List api_Running), (∀ f, f ∈ fs -> ∀ i, i ∈ (isl b p f).Sources -> i.toNat ≠ n) -> ((fs.map (isl b p)).foldl (fstep p) s).getD n default = s.getD n default
 | [], _, _ => rfl
 | f :: fs, s, h => by
  rw [List.map_cons, List.foldl_cons, fold_off fs _ (fun g hg => h g (List.mem_cons_of_mem _ hg))]
  have hf := h f List.mem_cons_self
  unfold fstep
  split
  ·rfl
  ·exact setL_off _ _ hf
theorem fold_on {b : api_Board} {p : api_Power} (hn : p.Sources.length = b.Sources.length) : ∀ (fs : List Nat) (s : List api_Running), s.length = p.Sources.length -> fs.Nodup -> ∀ f, f ∈ fs -> ∀ i, i ∈ (isl b p f).Sources ->
  (((fs.map (isl b p)).foldl (fstep p) s).getD i.toNat default).Frequency = (leadR b p f).Frequency /\ (((fs.map (isl b p)).foldl (fstep p) s).getD i.toNat default).Phase = (leadR b p f).Phase
 | [], _, _, _, _, h, _, _ => by cases h
 | g :: fs, s, hs, hnd, f, hf, i, hi => by
  obtain ⟨h1, h2⟩ := List.nodup_cons.1 hnd
  rw [List.map_cons, List.foldl_cons]
  by_cases e : f = g
  ·subst e
   rw [fold_off fs _ (fun k hk j hj => src_disj (fun e => h1 (by rw [← e]; exact hk)) hj hi)]
   obtain ⟨k, rfl, hk, _⟩ := src_iff.1 hi
   unfold fstep
   split
   ·rename_i e; rw [e] at hi; cases hi
   ·rename_i m r e
    have : leadR b p f = p.Sources.getD m.toNat default := by unfold leadR; rw [e]; rfl
    rw [this]
    exact setL_on _ _ (by rw [Int.toNat_natCast]; omega) ⟨_, hi, rfl⟩
  ·rcases List.mem_cons.1 hf with h | hf
   ·exact absurd h e
   ·exact fold_on hn fs _ (by rw [fstep_length]; exact hs) h2 f hf i hi
theorem followed_agree {b : api_Board} (h : BoardOk b) {p : api_Power} (hn : p.Sources.length = b.Sources.length) : AgreeP b ⟨p.Closed, followL b p, p.Limits, p.Broken⟩ := by
 have hisl : islands b ⟨p.Closed, followL b p, p.Limits, p.Broken⟩ = islands b p := islands_congr rfl (followL_length b p) (followL_state b p)
 intro x hx i j hi hj
 rw [hisl, islands_leads h] at hx
 obtain ⟨f, hf, rfl⟩ := List.mem_map.1 hx
 have hnd : (leads b p b.Buses.toNat).Nodup := (List.nodup_range).sublist List.filter_sublist
 have hfl : followL b p = ((leads b p b.Buses.toNat).map (isl b p)).foldl (fstep p) p.Sources := by
  rw [← islands_leads h]; rfl
 have e1 := fold_on hn _ p.Sources rfl hnd f hf i hi
 have e2 := fold_on hn _ p.Sources rfl hnd f hf j hj
 dsimp only
 rw [hfl]
 exact ⟨e1.1.trans e2.1.symm, e1.2.trans e2.2.symm⟩
def liveB (b : api_Board) (p : api_Power) (n : Nat) : Bool := decide (((isl b p ((groups b p).getD n 0).toNat).Sources.length : Int) > 0)
theorem live15_eq {b : api_Board} (h : BoardOk b) {p : api_Power} (hp : StateOk b p) {n : Nat} (hn : n < b.Buses.toNat) : F28 b p (n : Int) = some (liveB b p n) := by
 unfold F28
 rw [of15_eq h hp hn]
 simp [liveB]
theorem buses_any {b : api_Board} {p : api_Power} {n f : Nat} (hn : n < b.Buses.toNat) : (isl b p f).Buses.any ((n : Int) == ·) = ((groups b p).getD n 0 == (f : Int)) := by
 rw [Bool.eq_iff_iff, List.any_eq_true]
 constructor
 ·rintro ⟨x, hx, e⟩
  rw [beq_iff_eq] at e; subst e
  obtain ⟨i, hi, e⟩ := List.mem_map.1 hx
  have : i = n := by omega
  subst this
  exact (List.mem_filter.1 hi).2
 ·intro e
  exact ⟨n, List.mem_map.2 ⟨n, List.mem_filter.2 ⟨List.mem_range.2 hn, e⟩, rfl⟩, by simp⟩
theorem of_eq {b : api_Board} (h : BoardOk b) {p : api_Power} (hp : StateOk b p) {n : Nat} (hn : n < b.Buses.toNat) : F156 b p (n : Int) = some (isl b p ((groups b p).getD n 0).toNat, true) := by
 have hg := groups_at h p hn
 have hbu := h.buses
 unfold F156
 rw [islands_eq h hp, islands_leads h]
 simp only [Option.bind_some]
 have key : ∀ (fs : List Nat) (k : Nat), fI (F156_l0 (n : Int)) (fs.map (isl b p)) k () = if ((groups b p).getD n 0).toNat ∈ fs then some (.ret (isl b p ((groups b p).getD n 0).toNat, true)) else some (.next ()) := by
  intro fs
  induction fs with
  | nil => intro k; rfl
  | cons f fs ih =>
   intro k
   have hbl : (isl b p f).Buses.length <= 9223372036854775807 := by
    have := filt_len (fun i => (groups b p).getD i 0 == (f : Int)) b.Buses.toNat
    simp only [isl, busesOf]
    omega
   simp only [List.map_cons, fI, F156_l0, contains_int _ _ hbl, Option.bind_some, buses_any hn]
   by_cases e : (groups b p).getD n 0 = (f : Int)
   ·have e2 : ((groups b p).getD n 0).toNat = f := by omega
    rw [beq_iff_eq.2 e, e2, if_pos List.mem_cons_self]; rfl
   ·have e2 : ((groups b p).getD n 0).toNat ≠ f := by omega
    rw [beq_eq_false_iff_ne.2 e]
    simp only [cond_false]
    rw [ih]
    by_cases hm : ((groups b p).getD n 0).toNat ∈ fs
    ·rw [if_pos hm, if_pos (List.mem_cons_of_mem _ hm)]
    ·rw [if_neg hm, if_neg (fun hh => (List.mem_cons.1 hh).elim e2 hm)]
 have hm : ((groups b p).getD n 0).toNat ∈ leads b p b.Buses.toNat := List.mem_filter.2 ⟨List.mem_range.2 (by omega), group_of_group h p hn⟩
 rw [key, if_pos hm]
 rfl
theorem live_eq {b : api_Board} (h : BoardOk b) {p : api_Power} (hp : StateOk b p) {n : Nat} (hn : n < b.Buses.toNat) : F102 b p (n : Int) = some (liveB b p n) := by
 unfold F102
 rw [of_eq h hp hn]
 simp [liveB]
theorem Followed_eq {b : api_Board} (h : BoardOk b) {s : dynposmake_Src} (hs : SrcOk s) : Ok (F79s1 s b) fun y => (StateOk b y.1 /\ AgreeP b y.1 /\ y.1.Broken.length <= 4) /\ SrcOk y.2 := by
 unfold F79s1
 refine (Power_ok h hs).bind fun y hy => ?_
 rw [follow16_eq h hy.1.1]
 exact Ok.pure ⟨⟨withS hy.1.1 (followL_length b _) (follow_run hy.1.1), followed_agree h hy.1.1.nso, hy.1.2⟩, hy.2⟩
theorem Plant_ok {b : api_Board} (h : BoardOk b) {s : dynposmake_Src} (hs : SrcOk s) : Ok (F31s1 s b) fun y => ((∀ t, PlantOk b t y.1) /\ (5 <= y.1.Time /\ y.1.Time <= 20) /\ y.1.Events = [] /\ y.1.Power.Broken.length <= 4) /\ SrcOk y.2 := by
 have hbu := h.buses
 unfold F31s1
 refine (Range_ok hs 5 20 (by omega) (by omega) (by omega)).bind fun y hy => (Followed_eq h hy.1).bind fun z hz => ?_
 refine Ok.andThen (A := fun s => SrcOk ⟨s.2.1, s.2.2.1⟩ /\ s.2.2.2.length = b.Buses.toNat /\ ∀ x, x ∈ s.2.2.2 -> (-1 <= x.High /\ x.High <= 4) /\ -1 <= x.Low /\ x.Low <= 4) (B := fun (_ : Unit) => False) ?_ (fun s hs => ?_) (fun _ h => h.elim)
 ·refine Ok.whileN (fun s => (0 <= s.1 /\ s.1 <= b.Buses) /\ SrcOk ⟨s.2.1, s.2.2.1⟩ /\ (s.2.2.2.length : Int) = s.1 /\ ∀ x, x ∈ s.2.2.2 -> (-1 <= x.High /\ x.High <= 4) /\ -1 <= x.Low /\ x.Low <= 4) (fun s => (b.Buses - s.1).toNat) _ _ ?_ ?_ ?_
  ·exact ⟨by dsimp only; omega, hz.2, by simp, fun x hx => by cases hx⟩
  ·dsimp only; omega
  ·rintro ⟨i, L, a, l⟩ ⟨⟨g1, g2⟩, g3, g4, g5⟩
   dsimp only at g1 g2 g3 g4 g5
   unfold F31s1_l0
   dsimp only
   refine Ok.cond (fun hq => ?_) (fun hq => Ok.brk ?_)
   ·simp only [decide_eq_true_eq] at hq
    have e1 : w64 (i + 1) = i + 1 := wI (by omega)
    rw [e1]
    refine (Range_ok g3 (-1) 4 (by omega) (by omega) (by omega)).bind fun u hu => (Range_ok hu.1 (-1) 4 (by omega) (by omega) (by omega)).bind fun v hv => (Ok.appI (by simp; omega)).bind fun w hw => Ok.next ?_
    refine ⟨⟨by dsimp only; omega, hv.1, by rw [hw]; simp; omega, fun x hx => ?_⟩, by dsimp only; omega⟩
    rw [hw] at hx
    rcases List.mem_append.1 hx with hx | hx
    ·exact g5 x hx
    ·simp only [List.mem_singleton] at hx
     subst hx
     exact ⟨hu.2, hv.2⟩
   ·simp only [decide_eq_false_iff_not] at hq
    exact ⟨g3, by dsimp only; omega, g5⟩
 ·refine Ok.pure ⟨⟨fun t => ?_, hy.2, rfl, hz.1.2.2⟩, hs.1⟩
  exact {
   st := hz.1.1
   fol := follow_agree hz.1.1.nso hz.1.2.1
   time := by have := hy.2; dsimp only; omega
   nro := hs.2.1
   ros := fun x hx => by
    have := hs.2.2 x hx
    have := hy.2
    unfold RosOk
    dsimp only
    omega }
theorem broken15_eq {p : api_Power} (k n : Int) : F49 p k n = some (brk p.Broken k n) := by
 unfold F49 brk
 have : ∀ (l : List api_Part) (i : Nat), fI (F49_l0 k n) l i () = bif l.any (fun x => k == x.Kind && n == x.Number) then some (.ret true) else some (.next ()) := by
  intro l
  induction l with
  | nil => intro i; rfl
  | cons x l ih =>
   intro i
   simp only [fI, F49_l0, c49_1, List.any_cons]
   have e : (x.Kind == k && x.Number == n) = (k == x.Kind && n == x.Number) := by
    rw [Bool.eq_iff_iff]; simp only [Bool.and_eq_true, beq_iff_eq]; omega
   rw [e]
   cases (k == x.Kind && n == x.Number) with
   | true => rfl
   | false => simp only [cond_false, Bool.false_or]; exact ih (i + 1)
 rw [this]
 cases p.Broken.any fun x => k == x.Kind && n == x.Number <;> rfl
def baseB (b : api_Board) (p : api_Power) (i : Nat) : Bool := match ledO b p 3 (i : Int) with
 | none => false
 | some a => (liveB b p a.toNat && !brk p.Broken 4 (i : Int)) && !decide (p.Limits.getD i 0 < (b.Consumers.getD i default).Least)
def svB (b : api_Board) (p : api_Power) : Nat -> Nat -> Bool
 | 0, _ => false
 | k + 1, i => baseB b p i && (b.Consumers.getD i default).Needs.all fun n => svB b p k n.toNat
theorem needs_all (f : Int -> Bool) (l : List Int) (k : Nat) (g : Nat -> Int -> Unit -> Option (Ctl Unit Bool)) (hg : ∀ i x, x ∈ l -> g i x () = bif !f x then some (.ret false) else some (.next ())) : fI g l k () = bif l.all f then some (.next ()) else some (.ret false) := by
 induction l generalizing k with
 | nil => rfl
 | cons x l ih =>
  simp only [fI, hg k x List.mem_cons_self, List.all_cons]
  cases f x with
  | true => simp only [Bool.not_true, cond_false, Bool.true_and]; exact ih (k + 1) fun i y hy => hg i y (List.mem_cons_of_mem _ hy)
  | false => rfl
theorem needs_idx {ρ : Type} (f : Int -> Bool) (l : List Int) (k : Nat) (g : Nat -> Int -> Unit -> Option (Ctl Unit ρ)) (r : Nat -> ρ) (hg : ∀ i x, x ∈ l -> g i x () = bif !f x then some (.ret (r i)) else some (.next ())) : (l.all f = true /\ fI g l k () = some (.next ())) \/ (l.all f = false /\ ∃ j, k <= j /\ j < k + l.length /\ fI g l k () = some (.ret (r j))) := by
 induction l generalizing k with
 | nil => exact .inl ⟨rfl, rfl⟩
 | cons x l ih =>
  simp only [fI, hg k x List.mem_cons_self, List.all_cons]
  cases f x with
  | true =>
   simp only [Bool.not_true, cond_false, Bool.true_and]
   rcases ih (k + 1) (fun i y hy => hg i y (List.mem_cons_of_mem _ hy)) with h | ⟨h, j, h1, h2, h3⟩
   ·exact .inl h
   ·exact .inr ⟨h, j, by omega, by simp only [List.length_cons]; omega, h3⟩
  | false => exact .inr ⟨rfl, k, by omega, by simp only [List.length_cons]; omega, rfl⟩
theorem cons_get {b : api_Board} {i : Nat} (h : i < b.Consumers.length) : b.Consumers[i]? = some (b.Consumers.getD i default) := by
 rw [List.getElem?_eq_getElem h]; simp [List.getD, List.getElem?_eq_getElem h]
theorem lim_get {p : api_Power} {i : Nat} (h : i < p.Limits.length) : p.Limits[i]? = some (p.Limits.getD i 0) := by
 rw [List.getElem?_eq_getElem h]; simp [List.getD, List.getElem?_eq_getElem h]
theorem served15 {b : api_Board} (h : BoardOk b) {p : api_Power} (hp : StateOk b p) : ∀ (k i : Nat), i < k -> i < b.Consumers.length -> F16f k b p (i : Int) = some (svB b p k i) := by
 intro k
 induction k with
 | zero => intro i hi; omega
 | succ k ih =>
  intro i hi hc
  have hnl := hp.nli
  have hcg := cons_get hc
  have hlg := lim_get (p := p) (i := i) (by omega)
  have hco := h.co i _ hcg
  refine Ok.eq ?_
  show Ok (F16b (F16f k) b p (i : Int)) _
  unfold F16b
  rw [fed15_eq h hp (by omega) (by omega), gN hlg, gN hcg]
  simp only [Option.bind_some]
  cases hl : ledO b p 3 (i : Int) with
  | none =>
   refine Ok.bind (P := fun _ => True) (Ok.guard (fun hg => absurd hg.1 (by simp [flag])) fun _ => trivial) fun y3 _ => ?_
   refine Ok.bind (P := fun _ => True) (Ok.guard (fun hg => absurd hg.1 (by simp [flag])) fun _ => trivial) fun y5 _ => ?_
   refine Ok.bind (P := fun _ => True) (Ok.guard (fun hg => absurd hg.1 (by simp [flag])) fun _ => trivial) fun y7 _ => ?_
   refine Ok.bind (P := fun _ => True) (Ok.guard (fun hg => absurd hg.1 (by simp [flag])) fun _ => trivial) fun y9 _ => ?_
   refine Ok.cond (fun _ => Ok.pure ?_) (fun hq => by simp [c16_0, flag] at hq)
   simp [svB, baseB, hl]
  | some a =>
   have ha := ledO_bus h hl
   obtain ⟨m, rfl⟩ : ∃ m : Nat, a = (m : Int) := ⟨a.toNat, by omega⟩
   have hlive := live15_eq h hp (n := m) (by omega)
   simp only [flag, hlive, broken15_eq]
   refine Ok.bind (P := fun y => y = liveB b p m) (Ok.guard (fun _ => Ok.pure rfl) fun hn => (hn ⟨rfl, trivial⟩).elim) fun y3 h3 => ?_
   subst h3
   have hbase : baseB b p i = ((liveB b p m && !brk p.Broken 4 (i : Int)) && !decide (p.Limits.getD i 0 < (b.Consumers.getD i default).Least)) := by
    unfold baseB; rw [hl]; simp
   cases hlv : liveB b p m with
   | false =>
    refine Ok.bind (P := fun _ => True) (Ok.gT (fun _ => Ok.triv rfl) fun _ => trivial) fun y5 _ => ?_
    refine Ok.bind (P := fun _ => True) (Ok.gT (fun _ => Ok.triv rfl) fun _ => trivial) fun y7 _ => ?_
    refine Ok.bind (P := fun _ => True) (Ok.gT (fun _ => Ok.triv rfl) fun _ => trivial) fun y9 _ => ?_
    refine Ok.cond (fun _ => Ok.pure ?_) (fun hq => by simp [c16_0] at hq)
    simp [svB, hbase, hlv]
   | true =>
    refine Ok.bind (P := fun y => y = brk p.Broken 4 (i : Int)) (Ok.guard (fun _ => Ok.pure rfl) fun hn => (hn ⟨rfl, trivial⟩).elim) fun y5 h5 => ?_
    subst h5
    cases hbr : brk p.Broken 4 (i : Int) with
    | true =>
     refine Ok.bind (P := fun _ => True) (Ok.gT (fun _ => Ok.triv rfl) fun _ => trivial) fun y7 _ => ?_
     refine Ok.bind (P := fun _ => True) (Ok.gT (fun _ => Ok.triv rfl) fun _ => trivial) fun y9 _ => ?_
     refine Ok.cond (fun _ => Ok.pure ?_) (fun hq => by simp [c16_0] at hq)
     simp [svB, hbase, hbr]
    | false =>
     refine Ok.bind (P := fun y => y = p.Limits.getD i 0) (Ok.guard (fun _ => Ok.pure rfl) fun hn => (hn ⟨rfl, trivial⟩).elim) fun y7 h7 => ?_
     refine Ok.bind (P := fun y => y = b.Consumers.getD i default) (Ok.guard (fun _ => Ok.pure rfl) fun hn => (hn ⟨rfl, trivial⟩).elim) fun y9 h9 => ?_
     subst h7; subst h9
     refine Ok.cond (fun hq => Ok.pure ?_) (fun hq => ?_)
     ·simp only [c16_0, Bool.not_true, Bool.false_or] at hq
      show false = (baseB b p i && _)
      rw [hbase, hq]; simp
     ·simp only [c16_0, Bool.not_true, Bool.false_or] at hq
      have hb1 : baseB b p i = true := by rw [hbase, hlv, hbr, hq]; rfl
      rw [needs_all (fun n => svB b p k n.toNat) _ 0 _ (fun j x hx => ?_)]
      ·show Ok (andThen (bif _ then some (Ctl.next ()) else some (Ctl.ret false)) some fun z0 => some true) _
       have hsv : svB b p (k + 1) i = (b.Consumers.getD i default).Needs.all fun n => svB b p k n.toNat := by
        show (baseB b p i && _) = _
        rw [hb1, Bool.true_and]
       rw [hsv]
       cases (b.Consumers.getD i default).Needs.all fun n => svB b p k n.toNat <;> exact Ok.pure rfl
      ·have hx2 := hco.2.2.2.2.2.1 x hx
       have hih := ih x.toNat (by omega) (by omega)
       rw [Int.toNat_of_nonneg hx2.1] at hih
       unfold F16_l0
       rw [hih]; rfl
theorem needs15 {b : api_Board} {p : api_Power} {rec : api_Board -> api_Power -> Int -> Option Bool} {f : Int -> Bool} {l : List Int} (hl : l.length <= 1000) (hr : ∀ x, x ∈ l -> rec b p x = some (f x)) : F104s1 rec l b p = some (!l.all f, b, p) := by
 unfold F104s1 F158s1
 have key := needs_idx f l 0 (F158s1_l0 b p rec) (fun i => (cnt 0 i, b, p)) (fun i x hx => by
  unfold F158s1_l0 F105s0
  rw [hr x hx]; rfl)
 rcases key with ⟨h1, h2⟩ | ⟨h1, j, _, hj, h2⟩
 ·rw [h2, h1]; rfl
 ·have hc : cnt 0 j = (j : Int) := cnt0 (by omega)
  rw [h2, h1, hc]
  show some (decide ((j : Int) >= 0), b, p) = _
  rw [decide_eq_true (by omega)]; rfl
theorem served_k {b : api_Board} (h : BoardOk b) {p : api_Power} (hp : StateOk b p) : ∀ (k i : Nat), i < k -> i < b.Consumers.length -> F46f k b p (i : Int) = some (svB b p k i) := by
 intro k
 induction k with
 | zero => intro i hi; omega
 | succ k ih =>
  intro i hi hc
  have hnl := hp.nli
  have hbl : p.Broken.length <= 1000 := by have := hp.brk.len; omega
  have hcg := cons_get hc
  have hlg := lim_get (p := p) (i := i) (by omega)
  have hco := h.co i _ hcg
  refine Ok.eq ?_
  show Ok (F46b (F46f k) b p (i : Int)) _
  unfold F46b F101
  rw [state_ok h hp, fed_eq h hp.ncl, gN hlg, gN hcg]
  simp only [Option.bind_some, bne_self_eq_false, cond_false]
  cases hl : ledO b p 3 (i : Int) with
  | none =>
   refine Ok.bind (P := fun _ => True) (Ok.guard (fun hg => absurd hg.1 (by simp [flag])) fun _ => trivial) fun y3 _ => ?_
   refine Ok.bind (P := fun _ => True) (Ok.guard (fun hg => absurd hg.1 (by simp [flag])) fun _ => trivial) fun y5 _ => ?_
   refine Ok.bind (P := fun _ => True) (Ok.guard (fun hg => absurd hg.1 (by simp [flag])) fun _ => trivial) fun y7 _ => ?_
   refine Ok.bind (P := fun _ => True) (Ok.guard (fun hg => absurd hg.1 (by simp [flag])) fun _ => trivial) fun y9 _ => ?_
   refine Ok.cond (fun _ => Ok.pure ?_) (fun hq => by simp [c46_0, flag] at hq)
   simp [svB, baseB, hl]
  | some a =>
   have ha := ledO_bus h hl
   obtain ⟨m, rfl⟩ : ∃ m : Nat, a = (m : Int) := ⟨a.toNat, by omega⟩
   have hlive := live_eq h hp (n := m) (by omega)
   simp only [flag, hlive, broken_eq hbl]
   refine Ok.bind (P := fun y => y = liveB b p m) (Ok.guard (fun _ => Ok.pure rfl) fun hn => (hn ⟨rfl, trivial⟩).elim) fun y3 h3 => ?_
   subst h3
   have hbase : baseB b p i = ((liveB b p m && !brk p.Broken 4 (i : Int)) && !decide (p.Limits.getD i 0 < (b.Consumers.getD i default).Least)) := by
    unfold baseB; rw [hl]; simp
   cases hlv : liveB b p m with
   | false =>
    refine Ok.bind (P := fun _ => True) (Ok.gT (fun _ => Ok.triv rfl) fun _ => trivial) fun y5 _ => ?_
    refine Ok.bind (P := fun _ => True) (Ok.gT (fun _ => Ok.triv rfl) fun _ => trivial) fun y7 _ => ?_
    refine Ok.bind (P := fun _ => True) (Ok.gT (fun _ => Ok.triv rfl) fun _ => trivial) fun y9 _ => ?_
    refine Ok.cond (fun _ => Ok.pure ?_) (fun hq => by simp [c46_0] at hq)
    simp [svB, hbase, hlv]
   | true =>
    refine Ok.bind (P := fun y => y = brk p.Broken 4 (i : Int)) (Ok.guard (fun _ => Ok.pure rfl) fun hn => (hn ⟨rfl, trivial⟩).elim) fun y5 h5 => ?_
    subst h5
    cases hbr : brk p.Broken 4 (i : Int) with
    | true =>
     refine Ok.bind (P := fun _ => True) (Ok.gT (fun _ => Ok.triv rfl) fun _ => trivial) fun y7 _ => ?_
     refine Ok.bind (P := fun _ => True) (Ok.gT (fun _ => Ok.triv rfl) fun _ => trivial) fun y9 _ => ?_
     refine Ok.cond (fun _ => Ok.pure ?_) (fun hq => by simp [c46_0] at hq)
     simp [svB, hbase, hbr]
    | false =>
     refine Ok.bind (P := fun y => y = p.Limits.getD i 0) (Ok.guard (fun _ => Ok.pure rfl) fun hn => (hn ⟨rfl, trivial⟩).elim) fun y7 h7 => ?_
     refine Ok.bind (P := fun y => y = b.Consumers.getD i default) (Ok.guard (fun _ => Ok.pure rfl) fun hn => (hn ⟨rfl, trivial⟩).elim) fun y9 h9 => ?_
     subst h7; subst h9
     refine Ok.cond (fun hq => Ok.pure ?_) (fun hq => ?_)
     ·simp only [c46_0, Bool.not_true, Bool.false_or] at hq
      show false = (baseB b p i && _)
      rw [hbase, hq]; simp
     ·simp only [c46_0, Bool.not_true, Bool.false_or] at hq
      have hb1 : baseB b p i = true := by rw [hbase, hlv, hbr, hq]; rfl
      have hsv : svB b p (k + 1) i = (b.Consumers.getD i default).Needs.all fun n => svB b p k n.toNat := by
       show (baseB b p i && _) = _
       rw [hb1, Bool.true_and]
      rw [needs15 (f := fun n => svB b p k n.toNat) (by have := hco.2.2.2.2.1; omega) (fun x hx => ?_)]
      ·rw [hsv]
       refine Ok.pure ?_
       simp
      ·have hx2 := hco.2.2.2.2.2.1 x hx
       have hih := ih x.toNat (by omega) (by omega)
       rwa [Int.toNat_of_nonneg hx2.1] at hih
theorem served_eq {b : api_Board} (h : BoardOk b) {p : api_Power} (hp : StateOk b p) {i : Nat} (hi : i < b.Consumers.length) : F46 b p (i : Int) = some (svB b p 1000 i) /\ F16 b p (i : Int) = some (svB b p 1000 i) := by
 have := h.col
 exact ⟨served_k h hp 1000 i (by omega) hi, served15 h hp 1000 i (by omega) hi⟩
theorem sq_le {m n : Int} (h0 : 0 <= m) (h : m <= n) : m * m <= n * n := Int.mul_le_mul h h h0 (by omega)
theorem root_ok {x : Int} (h0 : 0 <= x) (h1 : x <= 1000000000000000000) : Ok (F107 x) fun y => y.2 = 0 /\ 0 <= y.1 /\ y.1 * y.1 <= x /\ x < (y.1 + 1) * (y.1 + 1) := by
 unfold F107
 refine Ok.cond (fun hc => ?_) (fun _ => ?_)
 ·simp only [c107_0, Bool.or_eq_true, decide_eq_true_eq] at hc; omega
 refine Ok.andThen (A := fun s => 0 <= s.1 /\ s.1 * s.1 <= x /\ x < (s.1 + 1) * (s.1 + 1)) (B := fun (_ : Unit) => False) ?_ (fun s hs => Ok.pure ⟨rfl, hs⟩) (fun _ h => h.elim)
 refine Ok.whileN (fun s => (0 <= s.1 /\ s.1 <= s.2 /\ s.2 <= 1000000000) /\ s.1 * s.1 <= x /\ x < (s.2 + 1) * (s.2 + 1)) (fun s => (s.2 - s.1).toNat) _ _ ?_ ?_ ?_
 ·refine ⟨by dsimp only; omega, by dsimp only; omega, by dsimp only; omega⟩
 ·dsimp only; omega
 ·rintro ⟨l, u⟩ ⟨⟨g1, g2, g3⟩, g4, g5⟩
  dsimp only at g1 g2 g3 g4 g5
  unfold F107_l0 c107_3
  dsimp only
  refine Ok.cond (fun hq => ?_) (fun hq => Ok.brk ?_)
  ·simp only [decide_eq_true_eq] at hq
   obtain ⟨m, hm⟩ : ∃ m, m = (l + u + 1) / 2 := ⟨_, rfl⟩
   have e1 : w64 (Int.tdiv (w64 (w64 (l + u) + 1)) 2) = m := by
    rw [wI (n := l + u) (by omega), wI (n := l + u + 1) (by omega), Int.tdiv_eq_ediv_of_nonneg (by omega), ← hm, wI (by omega)]
   have hmm : m * m <= 1000000000 * 1000000000 := sq_le (by omega) (by omega)
   have hm0 : 0 <= m * m := Int.mul_nonneg (by omega) (by omega)
   rw [e1, wI (n := m * m) (by omega)]
   refine Ok.cond (fun hc => ?_) (fun hc => ?_)
   ·simp only [decide_eq_true_eq] at hc
    exact Ok.next ⟨⟨by dsimp only; omega, hc, g5⟩, by dsimp only; omega⟩
   ·simp only [decide_eq_false_iff_not] at hc
    rw [wI (n := m - 1) (by omega)]
    refine Ok.next ⟨⟨by dsimp only; omega, g4, ?_⟩, by dsimp only; omega⟩
    dsimp only
    have : m - 1 + 1 = m := by omega
    rw [this]; omega
  ·simp only [decide_eq_false_iff_not] at hq
   have : l = u := by omega
   subst this
   exact ⟨g1, g4, g5⟩
theorem floor_at {n : Int} (h0 : 0 <= n) (h1 : n <= 1000000000000000000) : (bif decide ((Int.tmod (-n) 1000) < 0) then some (w64 ((w64 (Int.tdiv (-n) 1000)) - 1)) else some (w64 (Int.tdiv (-n) 1000)) : Option Int) = some (-((n + 999) / 1000)) := by
 have e1 : Int.tmod (-n) 1000 = -(n % 1000) := by rw [Int.neg_tmod, Int.tmod_eq_emod_of_nonneg h0]
 have e2 : Int.tdiv (-n) 1000 = -(n / 1000) := by rw [Int.neg_tdiv, Int.tdiv_eq_ediv_of_nonneg h0]
 rw [e1, e2, wI (n := -(n / 1000)) (by omega)]
 by_cases h : -(n % 1000) < 0
 ·rw [decide_eq_true h, cond_true, wI (by omega)]
  congr 1; omega
 ·rw [decide_eq_false h, cond_false]
  congr 1; omega
theorem up_eq {n : Int} (h0 : 0 <= n) (h1 : n <= 1000000000000000000) : F160 n 1000 = some ((n + 999) / 1000, 0) := by
 unfold F160 F201s0 F202 F203
 have e : c201s0_0 n 1000 = false := by
  rw [Bool.eq_false_iff]; intro e
  simp [c201s0_0] at e; omega
 have e0 : w64 (0 - n) = -n := by rw [wI (by omega)]; omega
 have en : nzI (1000 : Int) = some () := rfl
 rw [e, e0, en]
 simp only [cond_false, Option.bind_some]
 rw [floor_at h0 h1]
 simp only [Option.bind_some]
 rw [wI (by omega)]
 congr 2; omega
theorem up01_eq {n : Int} (h0 : 0 <= n) (h1 : n <= 1000000000000000000) : F52 n 1000 = some ((n + 999) / 1000, 0) := by
 unfold F52
 have e : F109 n 1000 = true := by
  unfold F109 F162
  rw [wI (n := 0 - 1000000000000000000) (by omega)]
  simp; omega
 have e0 : w64 (0 - n) = -n := by rw [wI (by omega)]; omega
 have en : nzI (1000 : Int) = some () := rfl
 unfold F110
 rw [e, e0, en]
 simp only [Bool.not_true, cond_false, Option.bind_some]
 rw [floor_at h0 h1]
 simp only [Option.bind_some]
 rw [wI (by omega)]
 congr 2; omega
def ArcOk (x : api_Arc) : Prop := F151 x = true /\ F108 x = true
theorem Arc_ok {s : dynposmake_Src} (hs : SrcOk s) : Ok (F91 s) fun y => ArcOk y.1 /\ SrcOk y.2 := by
 unfold F91
 refine (Pick_ok hs _ (by simp) (by simp)).bind fun u hu => (Pick_ok hu.1 _ (by simp) (by simp)).bind fun v hv => Ok.pure ⟨?_, hv.1⟩
 have h1 : u.1 = 0 \/ u.1 = 450 \/ u.1 = 800 \/ u.1 = 1350 \/ u.1 = 1800 \/ u.1 = 2600 \/ u.1 = 3500 := by simpa using hu.2
 have h2 : v.1 = 0 \/ v.1 = 100 \/ v.1 = 300 \/ v.1 = 900 \/ v.1 = 1799 := by simpa using hv.2
 rcases h1 with e | e | e | e | e | e | e <;> rcases h2 with e2 | e2 | e2 | e2 | e2 <;> rw [e, e2] <;> exact ⟨by kernel_rfl, by kernel_rfl⟩
structure ThrOk (x : api_Thruster) : Prop where
 kind : 1 <= x.Kind /\ x.Kind <= 3
 station : 0 <= x.Station /\ x.Station <= 1
 max : 0 <= x.Max /\ x.Max <= 40
 rate : 0 <= x.Rate /\ x.Rate <= 50
 cost : 1 <= x.Cost /\ x.Cost <= 100
 arcs : x.Forbidden.length <= 4
 arc : ∀ a, a ∈ x.Forbidden -> ArcOk a
theorem Thruster_ok {s : dynposmake_Src} (hs : SrcOk s) : Ok (F41 s) fun y => ThrOk y.1 /\ SrcOk y.2 := by
 unfold F41
 refine (Range_ok hs 1 3 (by omega) (by omega) (by omega)).bind fun k hk => (N_pos hk.1 2 (by omega) (by omega)).bind fun st hst => (Pick_ok hst.1 _ (by simp) (by simp)).bind fun m hm => (Pick_ok hm.1 _ (by simp) (by simp)).bind fun r hr => (Pick_ok hr.1 _ (by simp) (by simp)).bind fun c hc => (N_pos hc.1 3 (by omega) (by omega)).bind fun n hn => ?_
 have h1 : m.1 = 0 \/ m.1 = 1 \/ m.1 = 7 \/ m.1 = 20 \/ m.1 = 40 := by simpa using hm.2
 have h2 : r.1 = 0 \/ r.1 = 1 \/ r.1 = 5 \/ r.1 = 50 := by simpa using hr.2
 have h3 : c.1 = 1 \/ c.1 = 2 \/ c.1 = 3 \/ c.1 = 100 := by simpa using hc.2
 refine Ok.andThen (A := fun s => SrcOk ⟨s.2.1, s.2.2.1⟩ /\ s.2.2.2.length <= 4 /\ ∀ a, a ∈ s.2.2.2 -> ArcOk a) (B := fun (_ : Unit) => False) ?_ (fun s hs => Ok.pure ⟨⟨hk.2, by dsimp only; omega, by dsimp only; omega, by dsimp only; omega, by dsimp only; omega, hs.2.1, hs.2.2⟩, hs.1⟩) (fun _ h => h.elim)
 refine Ok.whileN (fun s => (0 <= s.1 /\ s.1 + (s.2.2.2.length : Int) <= 2) /\ SrcOk ⟨s.2.1, s.2.2.1⟩ /\ ∀ a, a ∈ s.2.2.2 -> ArcOk a) (fun s => s.1.toNat) _ _ ?_ ?_ ?_
 ·exact ⟨⟨by dsimp only; omega, by simp; omega⟩, hn.1, fun a ha => by cases ha⟩
 ·dsimp only; omega
 ·rintro ⟨i, L, a, l⟩ ⟨⟨g1, g2⟩, g3, g4⟩
  dsimp only at g1 g2 g3 g4
  unfold F41_l0
  dsimp only
  refine Ok.cond (fun hq => ?_) (fun _ => Ok.brk ⟨g3, by dsimp only; omega, g4⟩)
  simp only [decide_eq_true_eq] at hq
  have e1 : w64 (i - 1) = i - 1 := wI (by omega)
  rw [e1]
  refine (Arc_ok g3).bind fun u hu => (Ok.appI (by simp; omega)).bind fun w hw => Ok.next ⟨⟨⟨by dsimp only; omega, by rw [hw]; simp; omega⟩, hu.2, fun x hx => ?_⟩, by dsimp only; omega⟩
  rw [hw] at hx
  rcases List.mem_append.1 hx with hx | hx
  ·exact g4 x hx
  ·simp only [List.mem_singleton] at hx; subst hx; exact hu.1
theorem valid11 {x : api_Thruster} (h : ThrOk x) : F50 x = some true := by
 obtain ⟨h1, h2, h3, h4, h5, h6, h7⟩ := h
 unfold F50
 have e : c50_0 x = false := by
  rw [Bool.eq_false_iff]; intro e
  simp only [c50_0, Bool.or_eq_true, decide_eq_true_eq] at e
  omega
 rw [e, cond_false, all_fold _ 0 fun j a ha => ?_]
 ·rfl
 ·unfold F50_l0
  rw [(h7 a (List.mem_of_getElem? ha)).2]; rfl
theorem badArcs {l : List api_Arc} (h : ∀ a, a ∈ l -> ArcOk a) : F149s0 l = some false := by
 unfold F149s0 F196s0
 rw [all_fold l 0 fun j a ha => ?_]
 ·rfl
 ·unfold F196s0_l0 F150
  rw [(h a (List.mem_of_getElem? ha)).1]; rfl
theorem sectorValid {x : api_Thruster} (h : ThrOk x) : F94 x = some true := by
 obtain ⟨h1, h2, h3, h4, h5, h6, h7⟩ := h
 unfold F94
 have e : ((((((F148 x.Kind 1 3) && (F148 x.Station 0 1)) && (F148 x.Max 0 5000)) && (F148 x.Rate 0 5000)) && (F148 x.Cost 1 100)) && (decide ((x.Forbidden.length : Int) <= 4))) = true := by
  unfold F148
  simp only [Bool.and_eq_true, decide_eq_true_eq]
  omega
 rw [e, badArcs h7]
 rfl
structure ShipOk (x : api_Ship) : Prop where
 bow : 0 <= x.Bow /\ x.Bow <= 60
 stern : 1 <= x.Stern /\ x.Stern <= 40
 len : x.Thrusters.length <= 8
 thr : ∀ t, t ∈ x.Thrusters -> ThrOk t
theorem Ship_ok {s : dynposmake_Src} (hs : SrcOk s) : Ok (F14 s 4) fun y => ShipOk y.1 /\ SrcOk y.2 := by
 unfold F14
 have e5 : w64 (4 + 1) = 5 := by rw [wI (by omega)]; rfl
 rw [e5]
 refine (Pick_ok hs _ (by simp) (by simp)).bind fun u hu => (Pick_ok hu.1 _ (by simp) (by simp)).bind fun v hv => (N_pos hv.1 5 (by omega) (by omega)).bind fun n hn => ?_
 have h1 : u.1 = 0 \/ u.1 = 1 \/ u.1 = 30 \/ u.1 = 60 := by simpa using hu.2
 have h2 : v.1 = 1 \/ v.1 = 25 \/ v.1 = 40 := by simpa using hv.2
 refine Ok.andThen (A := fun s => SrcOk ⟨s.2.1, s.2.2.1⟩ /\ s.2.2.2.length <= 8 /\ ∀ a, a ∈ s.2.2.2 -> ThrOk a) (B := fun (_ : Unit) => False) ?_ (fun s hs => Ok.pure ⟨⟨by dsimp only; omega, by dsimp only; omega, hs.2.1, hs.2.2⟩, hs.1⟩) (fun _ h => h.elim)
 refine Ok.whileN (fun s => (0 <= s.1 /\ s.1 + (s.2.2.2.length : Int) <= 4) /\ SrcOk ⟨s.2.1, s.2.2.1⟩ /\ ∀ a, a ∈ s.2.2.2 -> ThrOk a) (fun s => s.1.toNat) _ _ ?_ ?_ ?_
 ·exact ⟨⟨by dsimp only; omega, by simp; omega⟩, hn.1, fun a ha => by cases ha⟩
 ·dsimp only; omega
 ·rintro ⟨i, L, a, l⟩ ⟨⟨g1, g2⟩, g3, g4⟩
  dsimp only at g1 g2 g3 g4
  unfold F14_l0
  dsimp only
  refine Ok.cond (fun hq => ?_) (fun _ => Ok.brk ⟨g3, by dsimp only; omega, g4⟩)
  simp only [decide_eq_true_eq] at hq
  have e1 : w64 (i - 1) = i - 1 := wI (by omega)
  rw [e1]
  refine (Thruster_ok g3).bind fun u hu => (Ok.appI (by simp; omega)).bind fun w hw => Ok.next ⟨⟨⟨by dsimp only; omega, by rw [hw]; simp; omega⟩, hu.2, fun x hx => ?_⟩, by dsimp only; omega⟩
  rw [hw] at hx
  rcases List.mem_append.1 hx with hx | hx
  ·exact g4 x hx
  ·simp only [List.mem_singleton] at hx; subst hx; exact hu.1
theorem shipCheck {x : api_Ship} (h : ShipOk x) : F42 x = some 0 := by
 have h1 := h.bow
 have h2 := h.stern
 have h3 := h.len
 unfold F42
 have e1 : decide ((x.Thrusters.length : Int) > 8) = false := decide_eq_false (by omega)
 have e2 : c42_0 x = false := by
  rw [Bool.eq_false_iff]; intro e
  simp only [c42_0, Bool.or_eq_true, Bool.and_eq_true, decide_eq_true_eq, beq_iff_eq] at e
  omega
 have e3 : F92s0 x.Thrusters = some false := by
  unfold F92s0 F147s0
  rw [all_fold x.Thrusters 0 fun j a ha => ?_]
  ·rfl
  ·unfold F147s0_l0 F93
   rw [sectorValid (h.thr a (List.mem_of_getElem? ha))]; rfl
 rw [e1, e2, e3]; rfl
theorem cost_in {x : api_Thruster} (h : ThrOk x) {l : Int} (h0 : 0 <= l) (h1 : l <= 5000) : 0 <= l * l * x.Cost /\ l * l * x.Cost <= 2500000000 := by
 have hc := h.cost
 have h2 : l * l <= 5000 * 5000 := sq_le h0 h1
 have h3 : 0 <= l * l := Int.mul_nonneg h0 h0
 have h4 : l * l * x.Cost <= 25000000 * 100 := Int.mul_le_mul (by omega) (by omega) (by omega) (by omega)
 exact ⟨Int.mul_nonneg h3 (by omega), by omega⟩
theorem pow_arg {x : api_Thruster} (h : ThrOk x) {l : Int} (h0 : 0 <= l) (h1 : l <= 5000) : w64 ((w64 ((w64 (l * l)) + (w64 (0 * 0)))) * x.Cost) = l * l * x.Cost := by
 have hc := cost_in h h0 h1
 have h2 : l * l <= 5000 * 5000 := sq_le h0 h1
 have h3 : 0 <= l * l := Int.mul_nonneg h0 h0
 have e0 : w64 (0 * 0) = 0 := by rw [wI (by omega)]; rfl
 rw [wI (n := l * l) (by omega), e0, Int.add_zero, wI (n := l * l) (by omega), wI (by omega)]
theorem power_at {x : api_Thruster} (h : ThrOk x) {l : Int} (h0 : 0 <= l) (h1 : l <= 5000) : F106 x ⟨l, 0⟩ = some ((l * l * x.Cost + 999) / 1000, 0) := by
 have hc := cost_in h h0 h1
 unfold F106
 have e : F159 ⟨l, 0⟩ = true := by
  unfold F159
  simp only [Bool.and_eq_true, decide_eq_true_eq]; omega
 rw [sectorValid h, e]
 simp only [Option.bind_some, Bool.not_true, Bool.or_self, cond_false]
 rw [pow_arg h h0 h1, up_eq hc.1 (by omega)]; rfl
theorem power12_at {x : api_Thruster} (h : ThrOk x) {l : Int} (h0 : 0 <= l) (h1 : l <= 5000) : F17 x ⟨l, 0⟩ = some ((l * l * x.Cost + 999) / 1000, 0) := by
 have hc := cost_in h h0 h1
 unfold F17
 have e : F51 ⟨l, 0⟩ = true := by
  unfold F51
  simp only [Bool.and_eq_true, decide_eq_true_eq]; omega
 rw [valid11 h, e]
 simp only [Option.bind_some, Bool.not_true, Bool.or_self, cond_false]
 rw [pow_arg h h0 h1, up01_eq hc.1 (by omega)]; rfl
theorem most_ok {x : api_Thruster} (h : ThrOk x) (w : Int) : Ok (F47 x w) fun y => (0 <= y /\ y <= x.Max) /\ (0 <= w -> (y * y * x.Cost + 999) / 1000 <= w) := by
 have hm := h.max
 have hc := h.cost
 have hci := cost_in h hm.1 (by omega)
 unfold F47
 rw [power_at h hm.1 (by omega)]
 simp only [Option.bind_some]
 refine Ok.cond (fun hq => Ok.pure ⟨⟨by omega, hm.1⟩, fun hw => by simp only [Int.mul_zero, Int.zero_mul]; omega⟩) (fun hq => ?_)
 simp only [bne_self_eq_false, Bool.false_or, decide_eq_false_iff_not] at hq
 refine Ok.cond (fun ha => ?_) (fun ha => ?_)
 ·simp only [decide_eq_true_eq] at ha
  exact Ok.pure ⟨⟨hm.1, by omega⟩, fun _ => by omega⟩
 ·simp only [decide_eq_false_iff_not] at ha
  refine (Ok.nzI (by omega)).bind fun _ _ => ?_
  have hlt : 1000 * w < x.Max * x.Max * x.Cost := by omega
  have hd0 : 0 <= 1000 * w / x.Cost := Int.ediv_nonneg (by omega) (by omega)
  have hd1 : 1000 * w / x.Cost <= 1000 * w := Int.ediv_le_self _ (by omega)
  rw [wI (n := 1000 * w) (by omega), Int.tdiv_eq_ediv_of_nonneg (by omega), wI (n := 1000 * w / x.Cost) (by omega)]
  refine (root_ok hd0 (by omega)).bind fun f hf => Ok.pure ?_
  obtain ⟨_, f0, f1, _⟩ := hf
  have hmul : 1000 * w / x.Cost * x.Cost <= 1000 * w := Int.ediv_mul_le _ (by omega)
  have hff : f.1 * f.1 * x.Cost <= 1000 * w / x.Cost * x.Cost := Int.mul_le_mul_of_nonneg_right f1 (by omega)
  refine ⟨⟨f0, ?_⟩, fun _ => by omega⟩
  rcases Int.lt_or_le x.Max f.1 with hgt | hle
  ·exfalso
   have := sq_le hm.1 (Int.le_of_lt hgt)
   have := Int.mul_le_mul_of_nonneg_right this (show 0 <= x.Cost by omega)
   omega
  ·exact hle
theorem first_from (n : Int) : ∀ (l : List api_Consumer) (k : Nat), fI (F44s1_l0 n) l k () = match l.findIdx? fun x => x.Thruster == n with
  | some j => some (.ret (cnt 0 (k + j), n))
  | none => some (.next ())
 | [], _ => rfl
 | x :: l, k => by
  simp only [fI, F44s1_l0, F45s0, List.findIdx?_cons]
  cases hq : (x.Thruster == n) with
  | true => rfl
  | false =>
   simp only [cond_false, Bool.false_eq_true, if_false]
   rw [first_from n l (k + 1)]
   cases l.findIdx? fun x => x.Thruster == n with
   | none => rfl
   | some j =>
    have e : k + 1 + j = k + (j + 1) := by omega
    simp only [Option.map_some, e]
theorem first_eq {b : api_Board} (h : BoardOk b) (n : Int) : F44s1 b.Consumers n = some (idxI (fun x : api_Consumer => x.Thruster == n) b.Consumers, n) := by
 have hc := h.col
 unfold F44s1 idxI
 rw [first_from]
 cases hf : b.Consumers.findIdx? fun x => x.Thruster == n with
 | none => rfl
 | some j =>
  rw [List.findIdx?_eq_some_iff_getElem] at hf
  obtain ⟨hj, _⟩ := hf
  have e : cnt 0 (0 + j) = (j : Int) := by rw [Nat.zero_add]; exact cnt0 (by omega)
  simp only [e]; rfl
theorem idxI_first {α : Type} {q : α -> Bool} {xs : List α} {j : Nat} {x : α} (hx : xs[j]? = some x) (hq : q x = true) (hn : ∀ (k : Nat) y, k < j -> xs[k]? = some y -> q y = false) : idxI q xs = (j : Int) := by
 obtain ⟨hj, hj2⟩ := List.getElem?_eq_some_iff.1 hx
 have : xs.findIdx? q = some j := by
  rw [List.findIdx?_eq_some_iff_getElem]
  refine ⟨hj, by rw [hj2]; exact hq, fun k hk => ?_⟩
  have hkl : k < xs.length := by omega
  have := hn k xs[k] hk (List.getElem?_eq_getElem hkl)
  simp [this]
 unfold idxI; rw [this]
theorem idxI_no {α : Type} {q : α -> Bool} {xs : List α} (hn : ∀ (k : Nat) y, xs[k]? = some y -> q y = false) : idxI q xs = -1 := by
 have : xs.findIdx? q = none := by
  rw [List.findIdx?_eq_none_iff]
  intro x hx
  obtain ⟨k, hk⟩ := List.mem_iff_getElem?.1 hx
  exact hn k x hk
 unfold idxI; rw [this]
theorem idxI_lt {α : Type} {q : α -> Bool} {xs : List α} (h : 0 <= idxI q xs) : ∃ j : Nat, idxI q xs = (j : Int) /\ j < xs.length := by
 unfold idxI at h ⊢
 cases hf : xs.findIdx? q with
 | none => rw [hf] at h; simp at h
 | some j =>
  rw [List.findIdx?_eq_some_iff_getElem] at hf
  exact ⟨j, rfl, hf.1⟩
def own (b : api_Board) (i : Nat) : Int := idxI (fun x : api_Consumer => x.Thruster == (i : Int)) b.Consumers
def AbleAt (b : api_Board) (p : api_Power) (i : Nat) (t : api_Thruster) (v : Int) : Prop :=
 (0 <= v /\ v <= t.Max) /\ (∀ j : Nat, own b i = (j : Int) -> (v * v * t.Cost + 999) / 1000 <= p.Limits.getD j 0) /\ (v ≠ 0 -> ∃ j : Nat, own b i = (j : Int) /\ svB b p 1000 j = true)
theorem lim_nn {b : api_Board} {p : api_Power} (hp : StateOk b p) {j : Nat} (hj : j < b.Consumers.length) : 0 <= p.Limits.getD j 0 := by
 have h2 := hp.nli
 exact (hp.lim j _ _ (lim_get (p := p) (by omega)) (cons_get hj)).1
theorem ableZero {b : api_Board} {p : api_Power} (hp : StateOk b p) {t : api_Thruster} (ht : ThrOk t) (i : Nat) : AbleAt b p i t 0 := by
 refine ⟨⟨by omega, ht.max.1⟩, fun j hj => ?_, fun hh => absurd rfl hh⟩
 obtain ⟨k, hk, hlt⟩ := idxI_lt (q := fun x : api_Consumer => x.Thruster == (i : Int)) (xs := b.Consumers) (by unfold own at hj; omega)
 unfold own at hj
 have : k = j := by omega
 subst this
 have := lim_nn hp hlt
 simp only [Int.mul_zero, Int.zero_mul]
 omega
theorem able_ok {b : api_Board} (h : BoardOk b) {p : api_Power} (hp : StateOk b p) {x : api_Ship} (hx : ShipOk x) : Ok (F15 x b p) fun y => y.2 = 0 /\ y.1.length = x.Thrusters.length /\ ∀ (i : Nat) t v, x.Thrusters[i]? = some t -> y.1[i]? = some v -> AbleAt b p i t v := by
 have hlen := hx.len
 have hnl := hp.nli
 unfold F15
 rw [shipCheck hx, state_ok h hp]
 simp only [Option.bind_some]
 refine Ok.cond (fun hc => by simp at hc) (fun _ => Ok.cond (fun hc => by simp at hc) (fun _ => ?_))
 refine (Ok.mkI (by omega) (by omega)).bind fun z hz => ?_
 refine Ok.andThen (A := fun s => s.length = x.Thrusters.length /\ ∀ (i : Nat) t v, x.Thrusters[i]? = some t -> s[i]? = some v -> AbleAt b p i t v) (B := fun _ => False) ?_ (fun s hs => Ok.pure ⟨rfl, hs⟩) (fun _ h => h.elim)
 refine Ok.foldI0 (I := fun j s => s.length = x.Thrusters.length /\ (∀ (i : Nat) t v, i < j -> x.Thrusters[i]? = some t -> s[i]? = some v -> AbleAt b p i t v) /\ ∀ (i : Nat) v, j <= i -> s[i]? = some v -> v = 0) ?_ (fun j t s ht hs => ?_) fun s hs => ?_
 ·rw [hz]
  refine ⟨by simp, fun i t v hi => by omega, fun i v _ hv => ?_⟩
  have := List.mem_of_getElem? hv
  exact (List.mem_replicate.1 this).2
 ·obtain ⟨g1, g2, g3⟩ := hs
  have hj := (List.getElem?_eq_some_iff.1 ht).1
  have hthr := hx.thr t (List.mem_of_getElem? ht)
  have hcnt : cnt 0 j = (j : Int) := cnt0 (by omega)
  unfold F15_l0
  rw [hcnt, first_eq h]
  simp only [Option.bind_some]
  have stay : RoundSo (fun s => s.length = x.Thrusters.length /\ (∀ (i : Nat) t v, i < j + 1 -> x.Thrusters[i]? = some t -> s[i]? = some v -> AbleAt b p i t v) /\ ∀ (i : Nat) v, j + 1 <= i -> s[i]? = some v -> v = 0) (fun s => s.length = x.Thrusters.length /\ ∀ (i : Nat) t v, x.Thrusters[i]? = some t -> s[i]? = some v -> AbleAt b p i t v) (fun (_ : Unit) => False) (.next s) := by
   refine ⟨g1, fun i t' v hi ht' hv => ?_, fun i v hi hv => g3 i v (by omega) hv⟩
   by_cases e : i = j
   ·subst e
    rw [ht] at ht'; cases ht'
    have := g3 i v (by omega) hv
    subst this
    exact ableZero hp hthr i
   ·exact g2 i t' v (by omega) ht' hv
  by_cases hq : 0 <= own b j
  ·obtain ⟨c, hc, hlt⟩ := idxI_lt hq
   have hown : own b j = (c : Int) := hc
   have hsv := (served_eq h hp hlt).1
   rw [hc]
   rw [hsv]
   have e1 : guardO [(decide ((c : Int) >= 0), true)] (some (svB b p 1000 c)) default = some (svB b p 1000 c) := by
    rw [decide_eq_true (by omega)]; rfl
   rw [e1]
   simp only [Option.bind_some]
   refine Ok.cond (fun hcc => ?_) (fun _ => ⟨_, rfl, stay⟩)
   simp only [Bool.and_eq_true] at hcc
   have hlim := lim_get (p := p) (i := c) (by omega)
   rw [gN hlim]
   simp only [Option.bind_some]
   refine (most_ok hthr _).bind fun m hm => (Ok.getI (by omega) (by omega)).bind fun _ _ => (Ok.setI (by omega) (by omega)).bind fun s' hs' => Ok.next ?_
   subst hs'
   rw [Int.toNat_natCast]
   refine ⟨by rw [List.length_set]; exact g1, fun i t' v hi ht' hv => ?_, fun i v hi hv => ?_⟩
   ·rw [List.getElem?_set] at hv
    by_cases e : j = i
    ·subst e
     rw [ht] at ht'; cases ht'
     rw [if_pos rfl, if_pos (by omega)] at hv
     cases hv
     refine ⟨hm.1, fun k hk => ?_, fun _ => ⟨c, hown, hcc.2⟩⟩
     have : k = c := by omega
     subst this
     exact hm.2 (lim_nn hp hlt)
    ·rw [if_neg e] at hv
     exact g2 i t' v (by omega) ht' hv
   ·rw [List.getElem?_set, if_neg (by omega)] at hv
    exact g3 i v (by omega) hv
  ·have e0 : decide (own b j >= 0) = false := decide_eq_false (by omega)
   show Ok ((guardO [(decide (own b j >= 0), true)] _ _).bind fun y11 => bif (decide (own b j >= 0) && y11) then _ else _) _
   rw [e0]
   exact ⟨_, rfl, stay⟩
 ·exact ⟨hs.1, fun i t v ht hv => hs.2.1 i t v (List.getElem?_eq_some_iff.1 ht).1 ht hv⟩
theorem world_ok {s : dynposmake_Src} (hs : SrcOk s) : Ok (F9 s) fun y => Made y.1 /\ TableOk y.2.1 /\ ((∀ t, PlantOk y.1 t y.2.2.1) /\ (5 <= y.2.2.1.Time /\ y.2.2.1.Time <= 20) /\ y.2.2.1.Events = [] /\ y.2.2.1.Power.Broken.length <= 4) /\ SrcOk y.2.2.2 := by
 unfold F9
 exact (Board_ok hs).bind fun b hb => (Table_ok hb.2).bind fun y hy => (Plant_ok hb.1.ok hy.2).bind fun p hp => Ok.pure ⟨hb.1, hy.1, hp.1, hp.2⟩
theorem sane21 : F13 = some true := by kernel_rfl
theorem plantAble_law (t : List Int) : F4 t = some true := by
 refine Ok.eq ?_
 unfold F4
 refine (New_ok t).bind fun s hs => (world_ok hs).bind fun w hw => ?_
 have h := hw.1.ok
 have hp := (hw.2.2.1.1 w.2.1).st
 have hnl := hp.nli
 have hcl := h.col
 refine (Ship_ok hw.2.2.2).bind fun x hx => (able_ok h hp hx.1).bind fun l hl => ?_
 have hlen := hx.1.len
 obtain ⟨h1, h2, h3⟩ := hl
 refine Ok.cond (fun hc => ?_) (fun _ => ?_)
 ·simp [c4_0, h1, h2] at hc
 refine Ok.andThen (A := fun _ => True) (B := fun _ => False) ?_ (fun _ _ => by rw [sane21]; exact Ok.pure rfl) (fun _ h => h.elim)
 refine Ok.foldI0 (I := fun _ _ => True) trivial (fun j u z hu _ => ?_) fun _ _ => trivial
 have hj := (List.getElem?_eq_some_iff.1 hu).1
 have hthr := hx.1.thr u (List.mem_of_getElem? hu)
 have hmax := hthr.max
 have hcnt : cnt 0 j = (j : Int) := cnt0 (by omega)
 unfold F4_l0
 rw [hcnt]
 refine (Ok.getI (by omega) (by omega)).bind fun v hv => ?_
 rw [Int.toNat_natCast] at hv
 obtain ⟨a1, a2, a3⟩ := h3 j u v hu hv
 refine Ok.cond (fun hc => ?_) (fun _ => ?_)
 ·simp [c4_2] at hc; omega
 refine Ok.inner (A := fun z => z = false -> v = 0) (B := fun _ => False) ?_ (fun z hz => ?_) (fun _ h => h.elim)
 ·refine Ok.foldI0 (I := fun k z => z = false /\ ∀ (i : Nat) y, i < k -> w.1.Consumers[i]? = some y -> (y.Thruster == (j : Int)) = false) ⟨rfl, fun i y hi => by omega⟩ (fun k c z hc hz => ?_) fun z hz => ?_
  ·have hk := (List.getElem?_eq_some_iff.1 hc).1
   have hcn : cnt 0 k = (k : Int) := cnt0 (by omega)
   unfold F4_l1
   rw [hcnt, hcn]
   refine Ok.cond (fun hq => Ok.next ⟨hz.1, fun i y hi hy => ?_⟩) (fun hq => ?_)
   ·by_cases e : i = k
    ·subst e
     rw [hc] at hy; cases hy
     simpa using hq
    ·exact hz.2 i y (by omega) hy
   ·have hq2 : (c.Thruster == (j : Int)) = true := by simpa using hq
    have hown : own w.1 j = (k : Int) := idxI_first hc hq2 hz.2
    have hlim := lim_get (p := w.2.2.1.Power) (i := k) (by omega)
    rw [(served_eq h hp hk).2, power12_at hthr a1.1 (by omega), gN hlim]
    simp only [Option.bind_some]
    have e1 : guardO [(((0 : Int) != 0), false)] (some (w.2.2.1.Power.Limits.getD k 0)) default = some (w.2.2.1.Power.Limits.getD k 0) := rfl
    rw [e1]
    simp only [Option.bind_some]
    have a4 := a2 k hown
    refine Ok.cond (fun hf => ?_) (fun _ => Ok.brk fun hsv => ?_)
    ·simp only [bne_self_eq_false, Bool.false_or, decide_eq_true_eq] at hf
     omega
    ·rcases Int.decEq v 0 with hne | he
     ·obtain ⟨m, hm, hm2⟩ := a3 hne
      have : m = k := by omega
      subst this
      rw [hm2] at hsv; cases hsv
     ·exact he
  ·intro _
   rcases Int.decEq v 0 with hne | he
   ·obtain ⟨m, hm, _⟩ := a3 hne
    have : own w.1 j = -1 := idxI_no fun k y hy => hz.2 k y (List.getElem?_eq_some_iff.1 hy).1 hy
    omega
   ·exact he
 ·refine Ok.cond (fun hc => ?_) (fun _ => Ok.next trivial)
  simp only [Bool.and_eq_true, Bool.not_eq_true', bne_iff_ne, ne_eq] at hc
  exact absurd (hz hc.1) hc.2
end Go.Proofs.YthgnbpdjncbkfaaGreat
