import Derived.Test.YtkngbnedbgndoaaGreatMo
import Derived.Test.YtkngbnedbgndoaaGreatHo
namespace Go.Proofs.YtkngbnedbgndoaaGreat
open Go.SL
theorem tmod_range {x n : Int} (h : 0 < n) : -n < Int.tmod x n ∧ Int.tmod x n < n := by
 have h1 := Int.tmod_lt_of_pos x h
 have h2 := Int.lt_tmod_of_pos x h
 exact ⟨h2, h1⟩
theorem tmod_nn {x n : Int} (h : 0 < n) (h0 : 0 ≤ x) : 0 ≤ Int.tmod x n ∧ Int.tmod x n < n := ⟨Int.tmod_nonneg n h0, (tmod_range h).2⟩
structure SrcOk (s : dynposmake_Src) : Prop where
 lo : 0 ≤ s.At
 hi : s.At ≤ s.L.length
 len : s.L.length ≤ 600
def InR (n r : Int) : Prop := (1 ≤ n → 0 ≤ r ∧ r < n) ∧ (n < 1 → r = 0)
theorem Mod_ok (x n : Int) (h : n ≤ 4611686018427387904) : Ok (F127 x n) (InR n) := by
 unfold F127
 refine Ok.cond (fun h1 => ?_) fun h1 => ?_
 ·simp only [decide_eq_true_eq] at h1
  exact Ok.pure ⟨fun h2 => by omega, fun _ => rfl⟩
 ·simp only [decide_eq_false_iff_not] at h1
  refine (Ok.nzI (by omega)).bind fun _ _ => (Ok.nzI (by omega)).bind fun _ _ => Ok.pure ⟨fun _ => ?_, fun h2 => by omega⟩
  have h2 := tmod_range (x := x) (n := n) (by omega)
  rw [w64_in (by omega)]
  exact tmod_nn (by omega) (by omega)
theorem N_ok {s : dynposmake_Src} (hs : SrcOk s) (n : Int) (h : n ≤ 4611686018427387904) : Ok (F63 s n) fun y => SrcOk y.2 ∧ InR n y.1 := by
 obtain ⟨h1, h2, h3⟩ := hs
 unfold F63
 refine Ok.cond (fun h4 => ?_) fun h4 => ?_
 ·exact Ok.pure ⟨⟨h1, h2, h3⟩, fun h5 => ⟨by simp, by show (0 : Int) < n; omega⟩, fun _ => rfl⟩
 ·simp only [decide_eq_false_iff_not] at h4
  have e : w64 (s.At + 1) = s.At + 1 := w64_in (by omega)
  rw [e, w64_in (n := s.At + 1 - 1) (by omega)]
  refine (Ok.getI (by omega) (by omega)).bind fun x _ => (Mod_ok x n h).bind fun r hr => Ok.pure ⟨⟨?_, ?_, h3⟩, hr⟩
  ·show 0 ≤ s.At + 1; omega
  ·show s.At + 1 ≤ (s.L.length : Int); omega
theorem N_pos {s : dynposmake_Src} (hs : SrcOk s) (n : Int) (h0 : 1 ≤ n) (h : n ≤ 4611686018427387904) : Ok (F63 s n) fun y => SrcOk y.2 ∧ 0 ≤ y.1 ∧ y.1 < n :=
 (N_ok hs n h).mono fun _ h => ⟨h.1, h.2.1 h0⟩
theorem Range_ok {s : dynposmake_Src} (hs : SrcOk s) (lo hi : Int) (h : lo ≤ hi) (h0 : -1000000000000 ≤ lo) (h1 : hi ≤ 1000000000000) : Ok (F61 s lo hi) fun y => SrcOk y.2 ∧ lo ≤ y.1 ∧ y.1 ≤ hi := by
 unfold F61
 have e : w64 (w64 (hi - lo) + 1) = hi - lo + 1 := by rw [w64_in (n := hi - lo) (by omega), w64_in (by omega)]
 rw [e]
 refine (N_pos hs _ (by omega) (by omega)).bind fun y hy => Ok.pure ⟨hy.1, ?_⟩
 have := hy.2
 show lo ≤ w64 (lo + y.1) ∧ w64 (lo + y.1) ≤ hi
 rw [w64_in (by omega)]
 omega
theorem Pick_ok {s : dynposmake_Src} (hs : SrcOk s) (l : List Int) (h : 1 ≤ l.length) (h1 : l.length ≤ 1000) : Ok (F62 s l) fun y => SrcOk y.2 ∧ y.1 ∈ l := by
 unfold F62
 refine (N_pos hs _ (by omega) (by omega)).bind fun y hy => ?_
 have := hy.2
 refine (Ok.getI (by omega) (by omega)).bind fun x hx => Ok.pure ⟨hy.1, List.mem_of_getElem? hx⟩
theorem New_ok (l : List Int) : Ok (F15 l) SrcOk := by
 unfold F15
 refine (Ok.cutI (by omega) (by omega) (by omega)).bind fun y hy => Ok.pure ⟨by simp, by simp, ?_⟩
 subst hy
 simp only [List.length_drop, List.length_take]
 omega
def BrOk (nb : Int) (ns nc : Nat) (x : api_Breaker) : Prop :=
 (0 ≤ x.A ∧ x.A < nb) ∧ ((x.Kind = 1 ∧ x.A < x.B ∧ x.B < nb) ∨ (x.Kind = 2 ∧ 0 ≤ x.B ∧ x.B < ns) ∨ (x.Kind = 3 ∧ 0 ≤ x.B ∧ x.B < nc))
def brs (l : List api_Breaker) (k : Int) (i : Nat) : List api_Breaker := l.filter fun x => x.Kind == k && x.B == (i : Int)
def SoOk (x : api_Source) : Prop := (1 ≤ x.Rating ∧ x.Rating ≤ 50000) ∧ (0 ≤ x.Least ∧ x.Least ≤ x.Rating) ∧ 0 ≤ x.Start ∧ x.Start ≤ 600
def CoOk (i : Nat) (x : api_Consumer) : Prop :=
 (0 ≤ x.Load ∧ x.Load ≤ 50000) ∧ (0 ≤ x.Least ∧ x.Least ≤ x.Load) ∧ (0 ≤ x.Preference ∧ x.Preference ≤ 15) ∧ (-1 ≤ x.Thruster ∧ x.Thruster ≤ 7) ∧ x.Needs.length ≤ 4 ∧
 (∀ n, n ∈ x.Needs → 0 ≤ n ∧ n < (i : Int)) ∧ ∀ (j : Nat) a b, x.Needs[j]? = some a → x.Needs[j + 1]? = some b → a < b
structure BoardOk (b : api_Board) : Prop where
 buses : 1 ≤ b.Buses ∧ b.Buses ≤ 6
 brl : b.Breakers.length ≤ 24
 sol : b.Sources.length ≤ 8
 col : b.Consumers.length ≤ 16
 phase : 0 ≤ b.Phase ∧ b.Phase ≤ 1800
 freq : 0 ≤ b.Frequency ∧ b.Frequency ≤ 6000
 br : ∀ x, x ∈ b.Breakers → BrOk b.Buses b.Sources.length b.Consumers.length x
 one : ∀ i, i < b.Sources.length → (brs b.Breakers 2 i).length = 1
 any : ∀ i, i < b.Consumers.length → brs b.Breakers 3 i ≠ []
 nodup : ∀ i, ((brs b.Breakers 3 i).map (·.A)).Nodup
 so : ∀ x, x ∈ b.Sources → SoOk x
 co : ∀ (i : Nat) x, b.Consumers[i]? = some x → CoOk i x
theorem brs_append (l m : List api_Breaker) (k : Int) (i : Nat) : brs (l ++ m) k i = brs l k i ++ brs m k i := by unfold brs; rw [List.filter_append]
theorem brs_one (x : api_Breaker) (k : Int) (i : Nat) : brs [x] k i = if x.Kind = k ∧ x.B = (i : Int) then [x] else [] := by
 unfold brs
 simp only [List.filter_cons, List.filter_nil, Bool.and_eq_true, beq_iff_eq]
theorem brs_none {l : List api_Breaker} {k : Int} {i : Nat} (h : ∀ x, x ∈ l → x.Kind = k → x.B ≠ (i : Int)) : brs l k i = [] := by
 unfold brs
 rw [List.filter_eq_nil_iff]
 intro x hx
 simp only [Bool.and_eq_true, beq_iff_eq, not_and]
 exact h x hx
def Ties (nb : Int) (l : List api_Breaker) : Prop := ∀ x, x ∈ l → x.Kind = 1 ∧ 0 ≤ x.A ∧ x.A < x.B ∧ x.B < nb
structure Gens (nb : Int) (l : List api_Breaker) (so : List api_Source) : Prop where
 len : l.length ≤ 4 + so.length
 br : ∀ x, x ∈ l → (0 ≤ x.A ∧ x.A < nb) ∧ ((x.Kind = 1 ∧ x.A < x.B ∧ x.B < nb) ∨ (x.Kind = 2 ∧ 0 ≤ x.B ∧ x.B < so.length))
 one : ∀ i, i < so.length → (brs l 2 i).length = 1
 so : ∀ x, x ∈ so → SoOk x
structure Cons (nb : Int) (l : List api_Breaker) (ns : Nat) (co : List api_Consumer) : Prop where
 len : l.length ≤ 4 + ns + 2 * co.length
 br : ∀ x, x ∈ l → BrOk nb ns co.length x
 one : ∀ i, i < ns → (brs l 2 i).length = 1
 any : ∀ i, i < co.length → brs l 3 i ≠ []
 nodup : ∀ i, ((brs l 3 i).map (·.A)).Nodup
 co : ∀ (i : Nat) x, co[i]? = some x → CoOk i x ∧ x.Thruster ≤ 2
theorem Gens.cons {nb : Int} {l : List api_Breaker} {so : List api_Source} (h : Gens nb l so) : Cons nb l so.length [] where
 len := by have := h.len; simp; omega
 br x hx := by
  obtain ⟨h1, h2⟩ := h.br x hx
  exact ⟨h1, h2.imp id .inl⟩
 one := h.one
 any i hi := by simp at hi
 nodup i := by
  rw [brs_none]
  ·simp
  ·intro x hx h3
   obtain ⟨_, h2⟩ := h.br x hx
   omega
 co i x hx := by simp at hx
theorem Gens.add {nb : Int} {l : List api_Breaker} {so : List api_Source} (h : Gens nb l so) {x : api_Breaker} {y : api_Source} (hx : x.Kind = 2 ∧ x.B = so.length ∧ 0 ≤ x.A ∧ x.A < nb) (hy : SoOk y) : Gens nb (l ++ [x]) (so ++ [y]) where
 len := by have := h.len; simp; omega
 br z hz := by
  rcases List.mem_append.1 hz with hz | hz
  ·obtain ⟨h1, h2⟩ := h.br z hz
   refine ⟨h1, ?_⟩
   rw [List.length_append]
   simp only [List.length_cons, List.length_nil]
   omega
  ·simp at hz; subst hz
   refine ⟨hx.2.2, .inr ⟨hx.1, ?_⟩⟩
   rw [List.length_append]
   simp only [List.length_cons, List.length_nil]
   omega
 one i hi := by
  rw [List.length_append] at hi
  simp only [List.length_cons, List.length_nil] at hi
  rw [brs_append, brs_one, List.length_append]
  by_cases e : i = so.length
  ·rw [brs_none, if_pos ⟨hx.1, by omega⟩]
   ·rfl
   ·intro z hz h2
    obtain ⟨_, h3⟩ := h.br z hz
    omega
  ·rw [h.one i (by omega), if_neg (by omega)]; rfl
 so z hz := by
  rcases List.mem_append.1 hz with hz | hz
  ·exact h.so z hz
  ·simp at hz; subst hz; exact hy
theorem Cons.add {nb : Int} {l m : List api_Breaker} {ns : Nat} {co : List api_Consumer} (h : Cons nb l ns co) {y : api_Consumer} (hm : ∀ x, x ∈ m → x.Kind = 3 ∧ x.B = co.length ∧ 0 ≤ x.A ∧ x.A < nb) (h1 : m ≠ []) (h2 : m.length ≤ 2) (h3 : (m.map (·.A)).Nodup)
  (hy : CoOk co.length y ∧ y.Thruster ≤ 2) : Cons nb (l ++ m) ns (co ++ [y]) := by
 have e1 : brs m 3 co.length = m := by
  unfold brs
  rw [List.filter_eq_self]
  intro x hx
  obtain ⟨g1, g2, _⟩ := hm x hx
  simp [g1, g2]
 have e2 : ∀ i, i ≠ co.length → brs m 3 i = [] := fun i hi => brs_none fun x hx _ e => by
  have := (hm x hx).2.1
  omega
 have e3 : brs l 3 co.length = [] := brs_none fun x hx h3 e => by
  obtain ⟨_, g⟩ := h.br x hx
  omega
 have hlen : (co ++ [y]).length = co.length + 1 := by simp
 refine ⟨?_, fun z hz => ?_, fun i hi => ?_, fun i hi => ?_, fun i => ?_, fun i x hx => ?_⟩
 ·have := h.len
  rw [List.length_append, hlen]; omega
 ·rw [hlen]
  rcases List.mem_append.1 hz with hz | hz
  ·obtain ⟨g1, g2⟩ := h.br z hz
   exact ⟨g1, by omega⟩
  ·obtain ⟨g1, g2, g3⟩ := hm z hz
   exact ⟨g3, by omega⟩
 ·have : brs m 2 i = [] := brs_none fun x hx h2 => by have := (hm x hx).1; omega
  rw [brs_append, this, List.append_nil]
  exact h.one i hi
 ·rw [brs_append]
  rw [hlen] at hi
  by_cases e : i = co.length
  ·subst e; rw [e1]; simp [h1]
  ·have := h.any i (by omega)
   simp [this]
 ·rw [brs_append]
  by_cases e : i = co.length
  ·subst e; rw [e1, e3]; simpa using h3
  ·rw [e2 i e, List.append_nil]; exact h.nodup i
 ·rw [List.getElem?_append] at hx
  split at hx
  ·exact h.co i x hx
  ·rename_i hi
   have : i = co.length := by
    have := (List.getElem?_eq_some_iff.1 hx).1
    simp at this; omega
   subst this
   simp at hx; subst hx; exact hy
theorem Ties.nil (nb : Int) : Ties nb [] := fun x hx => by cases hx
theorem Ties.add {nb : Int} {l : List api_Breaker} (h : Ties nb l) {x : api_Breaker} (hx : x.Kind = 1 ∧ 0 ≤ x.A ∧ x.A < x.B ∧ x.B < nb) : Ties nb (l ++ [x]) := fun z hz => by
 rcases List.mem_append.1 hz with hz | hz
 ·exact h z hz
 ·simp at hz; subst hz; exact hx
theorem Ties.gens {nb : Int} {l : List api_Breaker} (h : Ties nb l) (hl : l.length ≤ 4) : Gens nb l [] where
 len := by simpa using hl
 br x hx := by have := h x hx; exact ⟨by omega, .inl (by omega)⟩
 one i hi := by simp at hi
 so x hx := by cases hx
theorem board_l0 {y : Int × dynposmake_Src} (hy : 1 ≤ y.1 ∧ y.1 ≤ 4) {s0 : dynposmake_Src} (hs0 : SrcOk s0) :
  Ok (whileN (F16_l0 y) 1152921504606846976 (1, s0.L, s0.At, ([] : List api_Breaker))) (EndsSo (fun s => SrcOk ⟨s.2.1, s.2.2.1⟩ ∧ Ties y.1 s.2.2.2 ∧ s.2.2.2.length ≤ 3) (fun (_ : Unit) => False)) := by
 refine Ok.whileN (fun s => (1 ≤ s.1 ∧ s.1 ≤ 4 ∧ s.1 ≤ y.1) ∧ SrcOk ⟨s.2.1, s.2.2.1⟩ ∧ Ties y.1 s.2.2.2 ∧ (s.2.2.2.length : Int) + 1 ≤ s.1) (fun s => (y.1 - s.1).toNat) _ _ ?_ ?_ ?_
 ·exact ⟨by dsimp only; omega, hs0, Ties.nil _, by simp⟩
 ·dsimp only; omega
 ·rintro ⟨i, L, a, l⟩ ⟨⟨h1, h2, h3⟩, h4, h5, h6⟩
  dsimp only at h1 h2 h3 h4 h5 h6
  unfold F16_l0
  refine Ok.cond (fun h => ?_) (fun h => ?_)
  ·simp only [decide_eq_true_eq] at h
   have e : w64 (i + 1) = i + 1 := w64_in (by omega)
   dsimp only
   rw [e]
   refine (N_pos h4 6 (by omega) (by omega)).bind fun u hu => Ok.cond (fun _ => ?_) (fun _ => ?_)
   ·refine (N_pos hu.1 i h1 (by omega)).bind fun v hv => (Ok.appI (by simp; omega)).bind fun m hm => Ok.next ?_
    subst hm
    have := hv.2
    refine ⟨⟨by dsimp only; omega, hv.1, h5.add ⟨rfl, by dsimp only; omega, by dsimp only; omega, by dsimp only; omega⟩, by simp; omega⟩, by dsimp only; omega⟩
   ·refine Ok.next ⟨⟨by dsimp only; omega, hu.1, h5, by dsimp only; omega⟩, by dsimp only; omega⟩
  ·exact Ok.brk ⟨h4, h5, by dsimp only; omega⟩
theorem board_l2 {y : Int × dynposmake_Src} (hy : 1 ≤ y.1 ∧ y.1 ≤ 4) {s0 : dynposmake_Src} (hs0 : SrcOk s0) {k : Int} (hk : 0 ≤ k ∧ k < 5) {l0 : List api_Breaker} (hl0 : Gens y.1 l0 []) :
  Ok (whileN (F16_l2 y) 1152921504606846976 (k, s0.L, s0.At, l0, ([] : List api_Source))) (EndsSo (fun s => SrcOk ⟨s.2.1, s.2.2.1⟩ ∧ Gens y.1 s.2.2.2.1 s.2.2.2.2 ∧ s.2.2.2.2.length ≤ 4) (fun (_ : Unit) => False)) := by
 refine Ok.whileN (fun s => (0 ≤ s.1 ∧ s.1 + (s.2.2.2.2.length : Int) ≤ 4) ∧ SrcOk ⟨s.2.1, s.2.2.1⟩ ∧ Gens y.1 s.2.2.2.1 s.2.2.2.2) (fun s => s.1.toNat) _ _ ?_ ?_ ?_
 ·exact ⟨by simp; omega, hs0, hl0⟩
 ·dsimp only; omega
 ·rintro ⟨i, L, a, l, so⟩ ⟨⟨h1, h2⟩, h4, h5⟩
  dsimp only at h1 h2 h4 h5
  unfold F16_l2
  refine Ok.cond (fun h => ?_) (fun h => ?_)
  ·simp only [decide_eq_true_eq] at h
   have e : w64 (i - 1) = i - 1 := w64_in (by omega)
   have hl := h5.len
   dsimp only
   rw [e]
   refine (N_pos h4 y.1 hy.1 (by omega)).bind fun u hu => (Ok.appI (by simp; omega)).bind fun m hm => ?_
   refine (Pick_ok hu.1 _ (by simp) (by simp)).bind fun v hv => (Pick_ok hv.1 _ (by simp) (by simp)).bind fun p hp => (Pick_ok hp.1 _ (by simp) (by simp)).bind fun q hq => (Ok.appI (by simp; omega)).bind fun o ho => Ok.next ?_
   subst hm; subst ho
   have g1 := hu.2
   have g2 : v.1 = 10 ∨ v.1 = 50 ∨ v.1 = 100 := by simpa using hv.2
   have g3 : p.1 = 0 ∨ p.1 = 5 ∨ p.1 = v.1 := by simpa using hp.2
   have g4 : q.1 = 0 ∨ q.1 = 1 ∨ q.1 = 3 := by simpa using hq.2
   refine ⟨⟨by simp; omega, hq.1, h5.add ⟨rfl, rfl, g1⟩ ⟨by dsimp only; omega, by dsimp only; omega, by dsimp only; omega⟩⟩, by dsimp only; omega⟩
  ·exact Ok.brk ⟨h4, h5, by dsimp only; omega⟩
theorem half_in {x : Int} (h : 0 ≤ x) (h2 : x ≤ 50000) : 0 ≤ w64 (Int.tdiv x 2) ∧ w64 (Int.tdiv x 2) ≤ x := by
 have : Int.tdiv x 2 = x / 2 := Int.tdiv_eq_ediv_of_nonneg h
 rw [this, w64_in (by omega)]
 omega
theorem third_in {x : Int} (h : 0 ≤ x) (h2 : x ≤ 50000) : 0 ≤ w64 (Int.tdiv x 3) ∧ w64 (Int.tdiv x 3) ≤ x := by
 have : Int.tdiv x 3 = x / 3 := Int.tdiv_eq_ediv_of_nonneg h
 rw [this, w64_in (by omega)]
 omega
theorem board_l3 {y : Int × dynposmake_Src} (hy : 1 ≤ y.1 ∧ y.1 ≤ 4) {s0 : dynposmake_Src} (hs0 : SrcOk s0) {k : Int} (hk : 0 ≤ k ∧ k < 6) {ns : Nat} (hns : ns ≤ 4) {l0 : List api_Breaker} (hl0 : Cons y.1 l0 ns []) :
  Ok (whileN (F16_l3 y) 1152921504606846976 (k, s0.L, s0.At, l0, ([] : List api_Consumer))) (EndsSo (fun s => SrcOk ⟨s.2.1, s.2.2.1⟩ ∧ Cons y.1 s.2.2.2.1 ns s.2.2.2.2 ∧ s.2.2.2.2.length ≤ 5) (fun (_ : Unit) => False)) := by
 refine Ok.whileN (fun s => (0 ≤ s.1 ∧ s.1 + (s.2.2.2.2.length : Int) ≤ 5) ∧ SrcOk ⟨s.2.1, s.2.2.1⟩ ∧ Cons y.1 s.2.2.2.1 ns s.2.2.2.2) (fun s => s.1.toNat) _ _ ?_ ?_ ?_
 ·exact ⟨by simp; omega, hs0, hl0⟩
 ·dsimp only; omega
 ·rintro ⟨i, L, a, l, co⟩ ⟨⟨h1, h2⟩, h4, h5⟩
  dsimp only at h1 h2 h4 h5
  unfold F16_l3
  refine Ok.cond (fun h => ?_) (fun h => ?_)
  ·simp only [decide_eq_true_eq] at h
   have e : w64 (i - 1) = i - 1 := w64_in (by omega)
   have hl := h5.len
   dsimp only
   rw [e]
   refine (N_pos h4 y.1 hy.1 (by omega)).bind fun u hu => (Ok.appI (by simp; omega)).bind fun m hm => ?_
   subst hm
   have g1 := hu.2
   refine Ok.bind (P := fun v => SrcOk v.2) (Ok.guard (fun _ => (N_pos hu.1 4 (by omega) (by omega)).mono fun _ h => h.1) fun _ => hu.1) fun v hv => ?_
   refine Ok.inner (A := fun (r : List api_Breaker) => ∃ m, r = l ++ m ∧ (∀ x, x ∈ m → x.Kind = 3 ∧ x.B = co.length ∧ 0 ≤ x.A ∧ x.A < y.1) ∧ m ≠ [] ∧ m.length ≤ 2 ∧ (m.map (·.A)).Nodup) (B := fun (_ : Unit) => False) ?_ (fun r hr => ?_) (fun _ h => h.elim)
   ·unfold F16_m4
    refine Ok.cond (fun hc => ?_) (fun hc => ?_)
    ·simp only [Bool.and_eq_true, decide_eq_true_eq] at hc
     have e2 : w64 (u.1 + 1) = u.1 + 1 := w64_in (by omega)
     rw [e2]
     refine (Ok.nzI (by omega)).bind fun _ _ => (Ok.appI (by simp; omega)).bind fun m hm => Ok.nextE ?_
     subst hm
     have g2 := tmod_nn (x := u.1 + 1) (n := y.1) (by omega) (by omega)
     have g3 : Int.tmod (u.1 + 1) y.1 ≠ u.1 := by
      rw [Int.tmod_eq_emod_of_nonneg (by omega)]
      intro e3
      by_cases g4 : u.1 + 1 = y.1
      ·rw [g4, Int.emod_self] at e3; omega
      ·rw [Int.emod_eq_of_lt (by omega) (by omega)] at e3; omega
     refine ⟨_, List.append_assoc _ _ _, ?_, by simp, by simp, ?_⟩
     ·intro x hx
      simp at hx
      rcases hx with rfl | rfl
      ·exact ⟨rfl, rfl, g1⟩
      ·exact ⟨rfl, rfl, g2⟩
     ·simp
      exact fun h => g3 h.symm
    ·exact Ok.nextE ⟨_, rfl, fun x hx => by simp at hx; subst hx; exact ⟨rfl, rfl, g1⟩, by simp, by simp, by simp⟩
   ·obtain ⟨m, rfl, hm, hm1, hm2, hm3⟩ := hr
    refine (Pick_ok hv _ (by simp) (by simp)).bind fun p hp => (Pick_ok hp.1 _ (by simp) (by simp)).bind fun q hq => (N_pos hq.1 3 (by omega) (by omega)).bind fun pr hpr => (Range_ok hpr.1 (-1) 2 (by omega) (by omega) (by omega)).bind fun th hth => ?_
    have k1 : p.1 = 0 ∨ p.1 = 5 ∨ p.1 = 20 ∨ p.1 = 40 := by simpa using hp.2
    have k2 : q.1 = 0 ∨ q.1 = w64 (Int.tdiv p.1 2) ∨ q.1 = p.1 := by simpa using hq.2
    have k3 := half_in (x := p.1) (by omega) (by omega)
    have k4 := hpr.2
    have k5 := hth.2
    refine Ok.bind (P := fun v => SrcOk v.2) (Ok.guard (fun _ => (N_pos hth.1 4 (by omega) (by omega)).mono fun _ h => h.1) fun _ => hth.1) fun w hw => Ok.cond (fun hc => ?_) (fun hc => ?_)
    ·simp only [c16_2, Bool.and_eq_true, decide_eq_true_eq] at hc
     refine (N_pos hw _ (by omega) (by omega)).bind fun n hn => (Ok.appI (by simp; omega)).bind fun o ho => Ok.next ?_
     subst ho
     have k6 := hn.2
     refine ⟨⟨by simp; omega, hn.1, h5.add hm hm1 hm2 hm3 ⟨⟨by dsimp only; omega, by dsimp only; omega, by dsimp only; omega, by dsimp only; omega, by simp, ?_, ?_⟩, by dsimp only; omega⟩⟩, by dsimp only; omega⟩
     ·intro z hz; simp at hz; subst hz; exact k6
     ·intro j a b ha hb
      simp at hb
    ·refine (Ok.appI (by simp; omega)).bind fun o ho => Ok.next ?_
     subst ho
     refine ⟨⟨by simp; omega, hw, h5.add hm hm1 hm2 hm3 ⟨⟨by dsimp only; omega, by dsimp only; omega, by dsimp only; omega, by dsimp only; omega, by simp, ?_, ?_⟩, by dsimp only; omega⟩⟩, by dsimp only; omega⟩
     ·intro z hz; simp at hz
     ·intro j a b ha hb; simp at ha
  ·exact Ok.brk ⟨h4, h5, by dsimp only; omega⟩
structure Made (b : api_Board) : Prop where
 ok : BoardOk b
 buses : b.Buses ≤ 4
 brl : b.Breakers.length ≤ 18
 sol : b.Sources.length ≤ 4
 col : b.Consumers.length ≤ 5
 thr : ∀ x, x ∈ b.Consumers → x.Thruster ≤ 2
theorem Board_ok {s : dynposmake_Src} (hs : SrcOk s) : Ok (F16 s) fun y => Made y.1 ∧ SrcOk y.2 := by
 unfold F16
 refine (Range_ok hs 1 4 (by omega) (by omega) (by omega)).bind fun y1 h1 => (Pick_ok h1.1 _ (by simp) (by simp)).bind fun y3 h3 => (Pick_ok h3.1 _ (by simp) (by simp)).bind fun y5 h5 => ?_
 refine (board_l0 h1.2 h5.1).andThen (fun s0 hs0 => ?_) (fun _ h => h.elim)
 refine Ok.bind (P := fun v => SrcOk v.2) (Ok.guard (fun _ => (N_pos hs0.1 2 (by omega) (by omega)).mono fun _ h => h.1) fun _ => hs0.1) fun y15 h15 => ?_
 have hb := h1.2
 refine Ok.andThen (A := fun (l : List api_Breaker) => Ties y1.1 l ∧ l.length ≤ 4) (B := fun (_ : Unit) => False) ?_ (fun l hl => ?_) (fun _ h => h.elim)
 ·unfold F16_m1
  refine Ok.cond (fun hc => ?_) (fun hc => Ok.nextE ⟨hs0.2.1, by omega⟩)
  simp only [Bool.and_eq_true, decide_eq_true_eq] at hc
  have e : w64 (y1.1 - 1) = y1.1 - 1 := w64_in (by omega)
  rw [e]
  have := hs0.2.2
  refine (Ok.appI (by simp; omega)).bind fun m hm => Ok.nextE ?_
  subst hm
  exact ⟨hs0.2.1.add ⟨rfl, by simp, by dsimp only; omega, by dsimp only; omega⟩, by simp; omega⟩
 ·refine (N_pos h15 5 (by omega) (by omega)).bind fun y20 h20 => ?_
  refine (board_l2 h1.2 h20.1 h20.2 (hl.1.gens hl.2)).andThen (fun s2 hs2 => ?_) (fun _ h => h.elim)
  refine (N_pos hs2.1 6 (by omega) (by omega)).bind fun y35 h35 => ?_
  refine (board_l3 h1.2 h35.1 h35.2 hs2.2.2 hs2.2.1.cons).andThen (fun s3 hs3 => Ok.pure ⟨?_, hs3.1⟩) (fun _ h => h.elim)
  obtain ⟨_, hc, hl5⟩ := hs3
  have hl4 := hs2.2.2
  have hlen := hc.len
  have p3 : y3.1 = 0 ∨ y3.1 = 50 ∨ y3.1 = 200 ∨ y3.1 = 1800 := by simpa using h3.2
  have p5 : y5.1 = 0 ∨ y5.1 = 10 ∨ y5.1 = 50 := by simpa using h5.2
  refine ⟨⟨by dsimp only; omega, by dsimp only; omega, by dsimp only; omega, by dsimp only; omega, by dsimp only; omega, by dsimp only; omega, hc.br, hc.one, hc.any, hc.nodup, hs2.2.1.so, fun i x hx => (hc.co i x hx).1⟩, by dsimp only; omega, by dsimp only; omega, hl4, hl5, fun x hx => ?_⟩
  obtain ⟨i, hi⟩ := List.getElem?_of_mem hx
  exact (hc.co i x hi).2
end Go.Proofs.YtkngbnedbgndoaaGreat
