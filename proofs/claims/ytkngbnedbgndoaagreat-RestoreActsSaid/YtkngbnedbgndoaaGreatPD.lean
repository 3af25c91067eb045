import Derived.Test.YtkngbnedbgndoaaGreatPC
namespace Go.Proofs.YtkngbnedbgndoaaGreat
open Go.SL
theorem within_iff (x lo hi : Int) : F77 x lo hi = true ↔ lo ≤ x ∧ x ≤ hi := by
 simp [F77]
theorem exists_iff {b : api_Board} (h : BoardOk b) (x : api_Part) : F64 b x = true ↔ PartIn b x := by
 have h1 := h.buses
 have h2 := h.brl
 have h3 := h.sol
 have h4 := h.col
 unfold F64 PartIn
 rw [w64_in (n := (b.Sources.length : Int) - 1) (by omega), w64_in (n := (b.Breakers.length : Int) - 1) (by omega), w64_in (n := b.Buses - 1) (by omega), w64_in (n := (b.Consumers.length : Int) - 1) (by omega)]
 by_cases k1 : x.Kind = 1
 ·rw [beq_iff_eq.2 k1, cond_true, within_iff]; omega
 rw [beq_eq_false_iff_ne.2 k1, cond_false]
 by_cases k2 : x.Kind = 2
 ·rw [beq_iff_eq.2 k2, cond_true, within_iff]; omega
 rw [beq_eq_false_iff_ne.2 k2, cond_false]
 by_cases k3 : x.Kind = 3
 ·rw [beq_iff_eq.2 k3, cond_true, within_iff]; omega
 rw [beq_eq_false_iff_ne.2 k3, cond_false]
 by_cases k4 : x.Kind = 4
 ·rw [beq_iff_eq.2 k4, cond_true, within_iff]; omega
 ·rw [beq_eq_false_iff_ne.2 k4]
  simp only [cond_false, Bool.false_eq_true, false_iff]
  omega
theorem feeds_le {l : List api_Breaker} : ∀ {c d : List Bool}, c.length = d.length → (∀ k : Nat, c[k]? = some true → d[k]? = some true) → ∀ i, (feeds l c i).length ≤ (feeds l d i).length := by
 induction l with
 | nil => intro c d _ _ i; simp [feeds]
 | cons x l ih =>
  intro c d hl h i
  cases c with
  | nil => simp [feeds]
  | cons v c => cases d with
   | nil => simp at hl
   | cons u d =>
    have := ih (c := c) (d := d) (by simpa using hl) (fun k hk => by have := h (k + 1) (by simpa using hk); simpa using this) i
    have h0 : v = true → u = true := fun e => by have := h 0 (by simp [e]); simpa using this
    unfold feeds at this ⊢
    simp only [List.zip_cons_cons, List.filter_cons]
    cases hk : (x.Kind == 3 && x.B == (i : Int)) with
    | false => simpa using this
    | true =>
     cases v with
     | false => cases u <;> simp <;> omega
     | true => rw [h0 rfl]; simp; omega
theorem power_l0 {b : api_Board} (h : BoardOk b) {s0 : dynposmake_Src} (hs0 : SrcOk s0) :
  Ok (whileN (F17s1_l0 b) 1152921504606846976 (0, s0.L, s0.At, ([] : List Bool))) (EndsSo (fun s => SrcOk ⟨s.2.1, s.2.2.1⟩ ∧ s.2.2.2.length = b.Breakers.length) (fun (_ : Unit) => False)) := by
 have hb := h.brl
 refine Ok.whileN (fun s => (0 ≤ s.1 ∧ s.1 ≤ (b.Breakers.length : Int)) ∧ SrcOk ⟨s.2.1, s.2.2.1⟩ ∧ (s.2.2.2.length : Int) = s.1) (fun s => ((b.Breakers.length : Int) - s.1).toNat) _ _ ?_ ?_ ?_
 ·exact ⟨by dsimp only; omega, hs0, by simp⟩
 ·dsimp only; omega
 ·rintro ⟨i, L, a, l⟩ ⟨⟨h1, h2⟩, h4, h5⟩
  dsimp only at h1 h2 h4 h5
  unfold F17s1_l0 c17s1_1
  refine Ok.cond (fun h => ?_) (fun h => ?_)
  ·simp only [decide_eq_true_eq] at h
   have e : w64 (i + 1) = i + 1 := w64_in (by omega)
   dsimp only
   rw [e]
   refine (N_pos h4 2 (by omega) (by omega)).bind fun u hu => (Ok.appI (by simp; omega)).bind fun m hm => Ok.next ?_
   subst hm
   exact ⟨⟨by dsimp only; omega, hu.1, by simp; omega⟩, by dsimp only; omega⟩
  ·simp only [decide_eq_false_iff_not] at h
   exact Ok.brk ⟨h4, by dsimp only; omega⟩
theorem getI_nat {α : Type} {l : List α} {j : Nat} {x : α} (h : l[j]? = some x) : getI l (j : Int) = some x := by unfold getI; simp [h]
theorem setI_nat {α : Type} {l : List α} {j : Nat} {x : α} (h : j < l.length) : setI l (j : Int) x = some (l.set j x) := by
 unfold setI
 have h1 : decide ((0 : Int) ≤ (j : Int)) = true := by simp
 have h2 : decide ((j : Int) < (l.length : Int)) = true := by simp; omega
 rw [h1, h2]; simp
theorem power_l2 {b : api_Board} (h : BoardOk b) {n : Int} {i : Nat} (hn : n = (i : Int)) {c : List Bool} (hc : c.length = b.Breakers.length) (w : Int × List Bool) (hw : w.1 = n) :
  Ok (foldI (F17s1_l2 w) b.Breakers 0 (true, c)) (EndsSo (fun s => s.2.length = b.Breakers.length ∧ (∀ k : Nat, s.2[k]? = some true → c[k]? = some true) ∧ (feeds b.Breakers s.2 i).length ≤ 1) (fun (_ : Unit) => False)) := by
 have hb := h.brl
 refine Ok.foldI0 (I := fun j s => s.2.length = b.Breakers.length ∧ (∀ k : Nat, s.2[k]? = some true → c[k]? = some true) ∧ (s.1 = true → feeds (b.Breakers.take j) (s.2.take j) i = []) ∧ (feeds (b.Breakers.take j) (s.2.take j) i).length ≤ 1) ?_ (fun j x s hx hs => ?_) fun s hs => ?_
 ·exact ⟨hc, fun _ h => h, fun _ => by simp [feeds], by simp [feeds]⟩
 ·obtain ⟨f, d⟩ := s
  obtain ⟨h1, h2, h3, h4⟩ := hs
  dsimp only at h1 h2 h3 h4
  have hj := (List.getElem?_eq_some_iff.1 hx).1
  obtain ⟨v, hv⟩ : ∃ v, d[j]? = some v := ⟨_, List.getElem?_eq_getElem (by omega)⟩
  have hcnt : cnt 0 j = (j : Int) := cnt0 (by omega)
  unfold F17s1_l2 c17s1_12
  dsimp only
  rw [hcnt, getI_nat hv, setI_nat (by omega), hw, hn]
  cases hk : (x.Kind == 3 && x.B == (i : Int)) with
  | false =>
   simp only [guardO, allEqB, Bool.false_and]
   refine Ok.next ⟨h1, h2, fun e => ?_, ?_⟩ <;> dsimp only <;> rw [feeds_take hx hv, hk]
   ·simpa using h3 e
   ·simpa using h4
  | true =>
   simp only [guardO, allEqB, Bool.true_and]
   cases v with
   | false =>
    refine Ok.next ⟨h1, h2, fun e => ?_, ?_⟩ <;> dsimp only <;> rw [feeds_take hx hv, hk]
    ·simpa using h3 e
    ·simpa using h4
   | true =>
    have hset : (d.set j f)[j]? = some f := by rw [List.getElem?_set_self (by omega)]
    have htake : (d.set j f).take j = d.take j := by rw [List.take_set_of_le (Nat.le_refl j)]
    refine Ok.next ⟨by simpa using h1, fun k hk2 => ?_, fun e => ?_, ?_⟩
    ·dsimp only at hk2
     rw [List.getElem?_set] at hk2
     split at hk2
     ·rename_i e; subst e; exact h2 _ hv
     ·exact h2 _ hk2
    ·cases e
    ·dsimp only
     rw [feeds_take hx hset, hk, htake]
     cases f with
     | false => simpa using h4
     | true => simp [h3 rfl]
 ·rw [List.take_length] at hs
  obtain ⟨h1, h2, h3, h4⟩ := hs
  have : s.2.take b.Breakers.length = s.2 := List.take_of_length_le (by omega)
  rw [this] at h4
  exact ⟨h1, h2, h4⟩
theorem power_l1 {b : api_Board} (h : BoardOk b) {c : List Bool} (hc : c.length = b.Breakers.length) :
  Ok (whileN (F17s1_l1 b) 1152921504606846976 (0, c)) (EndsSo (fun s => s.2.length = b.Breakers.length ∧ ∀ i, i < b.Consumers.length → (feeds b.Breakers s.2 i).length ≤ 1) (fun (_ : Unit) => False)) := by
 have hco := h.col
 refine Ok.whileN (fun s => (0 ≤ s.1 ∧ s.1 ≤ (b.Consumers.length : Int)) ∧ s.2.length = b.Breakers.length ∧ ∀ i : Nat, (i : Int) < s.1 → (feeds b.Breakers s.2 i).length ≤ 1) (fun s => ((b.Consumers.length : Int) - s.1).toNat) _ _ ?_ ?_ ?_
 ·exact ⟨by dsimp only; omega, hc, fun i hi => by dsimp only at hi; omega⟩
 ·dsimp only; omega
 ·rintro ⟨n, d⟩ ⟨⟨h1, h2⟩, h3, h4⟩
  dsimp only at h1 h2 h3 h4
  unfold F17s1_l1 c17s1_9
  refine Ok.cond (fun hq => ?_) (fun hq => ?_)
  ·simp only [decide_eq_true_eq] at hq
   have e : w64 (n + 1) = n + 1 := w64_in (by omega)
   dsimp only
   refine (power_l2 h (n := n) (i := n.toNat) (by omega) h3 (n, d) rfl).inner (fun s hs => ?_) (fun _ h => h.elim)
   rw [e]
   obtain ⟨g1, g2, g3⟩ := hs
   refine Ok.next ⟨⟨by dsimp only; omega, g1, fun i hi => ?_⟩, by dsimp only; omega⟩
   dsimp only at hi ⊢
   by_cases e : (i : Int) = n
   ·have : i = n.toNat := by omega
    subst this; exact g3
   ·exact Nat.le_trans (feeds_le (by omega) g2 i) (h4 i (by omega))
  ·simp only [decide_eq_false_iff_not] at hq
   exact Ok.brk ⟨h3, fun i hi => h4 i (by omega)⟩
theorem power_l3 {b : api_Board} (h : BoardOk b) {s0 : dynposmake_Src} (hs0 : SrcOk s0) :
  Ok (whileN (F17s1_l3 b) 1152921504606846976 (0, s0.L, s0.At, ([] : List api_Running))) (EndsSo (fun s => SrcOk ⟨s.2.1, s.2.2.1⟩ ∧ s.2.2.2.length = b.Sources.length ∧ ∀ x, x ∈ s.2.2.2 → RunOk x) (fun (_ : Unit) => False)) := by
 have hb := h.sol
 refine Ok.whileN (fun s => (0 ≤ s.1 ∧ s.1 ≤ (b.Sources.length : Int)) ∧ SrcOk ⟨s.2.1, s.2.2.1⟩ ∧ (s.2.2.2.length : Int) = s.1 ∧ ∀ x, x ∈ s.2.2.2 → RunOk x) (fun s => ((b.Sources.length : Int) - s.1).toNat) _ _ ?_ ?_ ?_
 ·exact ⟨by dsimp only; omega, hs0, by simp, fun x hx => by simp at hx⟩
 ·dsimp only; omega
 ·rintro ⟨i, L, a, l⟩ ⟨⟨h1, h2⟩, h4, h5, h6⟩
  dsimp only at h1 h2 h4 h5 h6
  unfold F17s1_l3 c17s1_14
  refine Ok.cond (fun h => ?_) (fun h => ?_)
  ·simp only [decide_eq_true_eq] at h
   have e : w64 (i + 1) = i + 1 := w64_in (by omega)
   dsimp only
   rw [e]
   refine (Pick_ok h4 _ (by simp) (by simp)).bind fun u hu => (N_pos hu.1 5 (by omega) (by omega)).bind fun v hv => (Pick_ok hv.1 _ (by simp) (by simp)).bind fun p hp => (Pick_ok hp.1 _ (by simp) (by simp)).bind fun q hq => (Ok.appI (by simp; omega)).bind fun m hm => Ok.next ?_
   subst hm
   have g1 : u.1 = 0 ∨ u.1 = 1 ∨ u.1 = 2 ∨ u.1 = 2 ∨ u.1 = 2 ∨ u.1 = 3 := by simpa using hu.2
   have g2 := hv.2
   have g3 : p.1 = 5000 ∨ p.1 = 5000 ∨ p.1 = 5005 ∨ p.1 = 4950 := by simpa using hp.2
   have g4 : q.1 = 0 ∨ q.1 = 0 ∨ q.1 = 40 ∨ q.1 = 1800 ∨ q.1 = 3590 := by simpa using hq.2
   refine ⟨⟨by dsimp only; omega, hq.1, by simp; omega, fun x hx => ?_⟩, by dsimp only; omega⟩
   rcases List.mem_append.1 hx with hx | hx
   ·exact h6 x hx
   ·simp at hx; subst hx
    exact ⟨by dsimp only; omega, by dsimp only; omega, by dsimp only; omega, by dsimp only; omega⟩
  ·simp only [decide_eq_false_iff_not] at h
   exact Ok.brk ⟨h4, by dsimp only; omega, h6⟩
theorem power_l4 {b : api_Board} (h : BoardOk b) {s0 : dynposmake_Src} (hs0 : SrcOk s0) :
  Ok (foldI F17s1_l4 b.Consumers 0 (s0.L, s0.At, ([] : List Int))) (EndsSo (fun s => SrcOk ⟨s.1, s.2.1⟩ ∧ s.2.2.length = b.Consumers.length ∧ ∀ (i : Nat) n c, s.2.2[i]? = some n → b.Consumers[i]? = some c → 0 ≤ n ∧ n ≤ c.Load) (fun (_ : Unit) => False)) := by
 have hb := h.col
 refine Ok.foldI0 (I := fun j s => SrcOk ⟨s.1, s.2.1⟩ ∧ s.2.2.length = j ∧ ∀ (i : Nat) n c, s.2.2[i]? = some n → b.Consumers[i]? = some c → 0 ≤ n ∧ n ≤ c.Load) ?_ (fun j x s hx hs => ?_) fun s hs => hs
 ·exact ⟨hs0, rfl, fun i n c hn => by simp at hn⟩
 ·obtain ⟨L, a, l⟩ := s
  obtain ⟨h1, h2, h3⟩ := hs
  dsimp only at h1 h2 h3
  have hj := (List.getElem?_eq_some_iff.1 hx).1
  unfold F17s1_l4
  dsimp only
  refine (Pick_ok h1 _ (by simp) (by simp)).bind fun u hu => (Ok.appI (by simp; omega)).bind fun m hm => Ok.next ⟨hu.1, ?_, fun i n c hn hc => ?_⟩
  ·subst hm; simp [h2]
  ·dsimp only at hn
   subst hm
   rw [List.getElem?_append] at hn
   split at hn
   ·exact h3 i n c hn hc
   ·rename_i hi
    have hlt := (List.getElem?_eq_some_iff.1 hn).1
    simp at hlt
    have : i = j := by omega
    subst this
    rw [hx] at hc; cases hc
    rw [h2] at hn
    simp at hn; subst hn
    obtain ⟨g1, g2, _⟩ := h.co _ x hx
    have g3 := third_in (x := x.Load) (by omega) (by omega)
    have g4 : u.1 = x.Load ∨ u.1 = x.Load ∨ u.1 = x.Least ∨ u.1 = w64 (Int.tdiv x.Load 3) := by simpa using hu.2
    omega
theorem power_l5 {b : api_Board} (h : BoardOk b) {s0 : dynposmake_Src} (hs0 : SrcOk s0) :
  Ok (whileN (F17s1_l5 b) 7 (1, s0.L, s0.At, ([] : List api_Part))) (EndsSo (fun s => SrcOk ⟨s.2.1, s.2.2.1⟩ ∧ BrokenOk b s.2.2.2 ∧ s.2.2.2.length ≤ 4) (fun (_ : Unit) => False)) := by
 refine Ok.whileN (fun s => (1 ≤ s.1 ∧ s.1 ≤ 5) ∧ SrcOk ⟨s.2.1, s.2.2.1⟩ ∧ ((s.2.2.2.length : Int) < s.1) ∧ (∀ x, x ∈ s.2.2.2 → PartIn b x ∧ x.Kind < s.1) ∧ ∀ (j : Nat) x y, s.2.2.2[j]? = some x → s.2.2.2[j + 1]? = some y → PartLt x y) (fun s => (5 - s.1).toNat) _ _ ?_ ?_ ?_
 ·exact ⟨by dsimp only; omega, hs0, by simp, fun x hx => by simp at hx, fun j x y hx => by simp at hx⟩
 ·dsimp only; omega
 ·rintro ⟨i, L, a, l⟩ ⟨⟨h1, h2⟩, h4, h5, h6, h7⟩
  dsimp only at h1 h2 h4 h5 h6 h7
  unfold F17s1_l5
  refine Ok.cond (fun hq => ?_) (fun hq => ?_)
  ·simp only [decide_eq_true_eq] at hq
   have e : w64 (i + 1) = i + 1 := w64_in (by omega)
   dsimp only
   rw [e]
   have skip : ∀ {u : dynposmake_Src}, SrcOk u → Ok (some (.next (i + 1, u.L, u.At, l)) : Option (Ctl (Int × List Int × Int × List api_Part) Unit)) (RoundSo (fun s => ((1 ≤ s.1 ∧ s.1 ≤ 5) ∧ SrcOk ⟨s.2.1, s.2.2.1⟩ ∧ ((s.2.2.2.length : Int) < s.1) ∧ (∀ x, x ∈ s.2.2.2 → PartIn b x ∧ x.Kind < s.1) ∧ ∀ (j : Nat) x y, s.2.2.2[j]? = some x → s.2.2.2[j + 1]? = some y → PartLt x y) ∧ (5 - s.1).toNat < (5 - i).toNat) (fun s => SrcOk ⟨s.2.1, s.2.2.1⟩ ∧ BrokenOk b s.2.2.2 ∧ s.2.2.2.length ≤ 4) (fun _ => False)) := fun hu =>
    Ok.next ⟨⟨by dsimp only; omega, hu, by dsimp only; omega, fun x hx => ⟨(h6 x hx).1, by have := (h6 x hx).2; dsimp only; omega⟩, h7⟩, by dsimp only; omega⟩
   refine (N_pos h4 5 (by omega) (by omega)).bind fun u hu => Ok.cond (fun _ => ?_) (fun _ => skip hu.1)
   refine (N_pos hu.1 4 (by omega) (by omega)).bind fun v hv => Ok.cond (fun he => ?_) (fun _ => skip hv.1)
   rw [exists_iff h] at he
   refine (Ok.appI (by simp; omega)).bind fun m hm => Ok.next ?_
   subst hm
   refine ⟨⟨by dsimp only; omega, hv.1, by simp; omega, fun x hx => ?_, fun j x y hx hy => ?_⟩, by dsimp only; omega⟩
   ·rcases List.mem_append.1 hx with hx | hx
    ·exact ⟨(h6 x hx).1, by have := (h6 x hx).2; dsimp only; omega⟩
    ·simp at hx; subst hx; exact ⟨he, by dsimp only; omega⟩
   ·dsimp only at hx hy
    have hyl := (List.getElem?_eq_some_iff.1 hy).1
    simp at hyl
    rw [List.getElem?_append_left (by omega)] at hx
    rw [List.getElem?_append] at hy
    split at hy
    ·exact h7 j x y hx hy
    ·rename_i hn
     have e0 : j + 1 - l.length = 0 := by omega
     rw [e0] at hy
     simp at hy; subst hy
     exact .inl (h6 x (List.mem_of_getElem? hx)).2
  ·simp only [decide_eq_false_iff_not] at hq
   exact Ok.brk ⟨h4, ⟨by dsimp only; omega, fun x hx => (h6 x hx).1, h7⟩, by dsimp only; omega⟩
theorem Power_ok {b : api_Board} (h : BoardOk b) {s : dynposmake_Src} (hs : SrcOk s) : Ok (F17s1 s b) fun y => (StateOk b y.1 ∧ y.1.Broken.length ≤ 4) ∧ SrcOk y.2 := by
 unfold F17s1
 refine (power_l0 h hs).andThen (fun s0 h0 => ?_) (fun _ h => h.elim)
 refine (power_l1 h h0.2).andThen (fun s1 h1 => ?_) (fun _ h => h.elim)
 refine (power_l3 h h0.1).andThen (fun s3 h3 => ?_) (fun _ h => h.elim)
 refine (power_l4 h h3.1).andThen (fun s4 h4 => ?_) (fun _ h => h.elim)
 refine (power_l5 h h4.1).andThen (fun s5 h5 => ?_) (fun _ h => h.elim)
 exact Ok.pure ⟨⟨⟨h1.1, h3.2.1, h4.2.1, h3.2.2, h4.2.2, h1.2, h5.2.1⟩, h5.2.2⟩, h5.1⟩
end Go.Proofs.YtkngbnedbgndoaaGreat
