import Derived.Test.YtkngbnedbgndoaaGreatPG
namespace Go.Proofs.YtkngbnedbgndoaaGreat
open Go.SL
def brk (l : List api_Part) (k n : Int) : Bool := l.any fun x => k == x.Kind && n == x.Number
theorem broken_eq {p : api_Power} (h : p.Broken.length ≤ 1000) (k n : Int) : F134 p k n = some (brk p.Broken k n) := by
 unfold F134 F212 F249
 rw [search_eq (fun x : api_Part => (k == x.Kind) && ((n == x.Number) && true)) (fun i y => rfl) p.Broken (by omega)]
 simp only [Option.bind_some, idxI_any, brk, Bool.and_true]
def brkOf (b : api_Board) (i : Int) : Int := idxI (fun x : api_Breaker => x.Kind == 2 && x.B == i) b.Breakers
theorem breaker_eq {b : api_Board} (h : BoardOk b) (i : Int) : F67 b i = some (brkOf b i) := by
 have hb := h.brl
 unfold F67 F135s1
 refine Ok.eq ?_
 refine Ok.bind (P := fun y => y = (brkOf b i, i)) ?_ (fun y hy => Ok.pure (by rw [hy]))
 have key := search_from (f := fun n (a : api_Breaker) (z : Unit) => (bif (a.Kind == 2 && a.B == i) then some (.ret (cnt 0 n)) else some (.next ()) : Option (Ctl Unit Int))) (p := fun x : api_Breaker => x.Kind == 2 && x.B == i) (fun _ _ => rfl) b.Breakers 0 (by omega)
 have : ∀ (xs : List api_Breaker) (k : Nat), foldI (F135s1_l0 i) xs k () = match foldI (fun n (a : api_Breaker) (z : Unit) => (bif (a.Kind == 2 && a.B == i) then some (.ret (cnt 0 n)) else some (.next ()) : Option (Ctl Unit Int))) xs k () with
   | some (.ret r) => some (.ret (r, i))
   | some (.next _) => some (.next ())
   | some (.brk _) => some (.brk ())
   | none => none := by
  intro xs
  induction xs with
  | nil => intro k; rfl
  | cons x xs ih =>
   intro k
   simp only [foldI, F135s1_l0, F136s0]
   cases hq : (x.Kind == 2 && x.B == i) with
   | true => rfl
   | false => simp only [cond_false]; exact ih (k + 1)
 rw [this, key]
 unfold brkOf idxI
 cases b.Breakers.findIdx? (fun x : api_Breaker => x.Kind == 2 && x.B == i) with
 | none => exact Ok.pure rfl
 | some j => exact Ok.pure rfl
theorem brkOf_spec {b : api_Board} (h : BoardOk b) {i : Int} (h0 : 0 ≤ i) (h1 : i < b.Sources.length) : ∃ (j : Nat) (x : api_Breaker), brkOf b i = (j : Int) ∧ b.Breakers[j]? = some x ∧ x.Kind = 2 ∧ x.B = i ∧ j < 24 := by
 have hone := h.one i.toNat (by omega)
 have hb := h.brl
 unfold brkOf idxI
 cases hf : b.Breakers.findIdx? (fun x : api_Breaker => x.Kind == 2 && x.B == i) with
 | none =>
  exfalso
  rw [List.findIdx?_eq_none_iff] at hf
  have : brs b.Breakers 2 i.toNat = [] := brs_none fun x hx hk e => by
   have := hf x hx
   simp [hk] at this
   omega
  rw [this] at hone; simp at hone
 | some j =>
  rw [List.findIdx?_eq_some_iff_getElem] at hf
  obtain ⟨hj, hp, _⟩ := hf
  simp only [Bool.and_eq_true, beq_iff_eq] at hp
  exact ⟨j, b.Breakers[j], rfl, List.getElem?_eq_getElem hj, hp.1, hp.2, by omega⟩
def soundB (b : api_Board) (l : List api_Part) (i : Int) : Bool :=
 let x := b.Breakers.getD i.toNat default
 (!brk l 2 i && !brk l 3 x.A) && ((x.Kind != 1) || !brk l 3 x.B)
theorem sound_eq {b : api_Board} (h : BoardOk b) {p : api_Power} (hl : p.Broken.length ≤ 1000) {i : Int} (h0 : 0 ≤ i) (h1 : i < b.Breakers.length) : F68 b p i = some (soundB b p.Broken i) := by
 have hb := h.brl
 refine Ok.eq ?_
 unfold F68
 refine (Ok.getI h0 (by omega)).bind fun x hx => ?_
 have hd : b.Breakers.getD i.toNat default = x := by simp [List.getD, hx]
 unfold soundB
 rw [hd]
 simp only [broken_eq hl, Option.bind_some]
 cases h2 : brk p.Broken 2 i with
 | true => simp [guardO, allEqB]; exact Ok.pure rfl
 | false =>
  cases h3 : brk p.Broken 3 x.A with
  | true => simp [guardO, allEqB]; exact Ok.pure rfl
  | false =>
   cases hk : (x.Kind != 1) with
   | true => simp [guardO, allEqB]; exact Ok.pure rfl
   | false => simp [guardO, allEqB]; exact Ok.pure rfl
def usableB (b : api_Board) (p : api_Power) (i : Int) : Bool := (soundB b p.Broken (brkOf b i) && !brk p.Broken 1 i) && ((p.Sources.getD i.toNat default).State != 3)
theorem usable_eq {b : api_Board} (h : BoardOk b) {p : api_Power} (hp : p.Sources.length = b.Sources.length) (hl : p.Broken.length ≤ 1000) {i : Int} (h0 : 0 ≤ i) (h1 : i < b.Sources.length) : F66 b p i = some (usableB b p i) := by
 obtain ⟨j, x, e, hx, _, _, hj⟩ := brkOf_spec h h0 h1
 have hjl := (List.getElem?_eq_some_iff.1 hx).1
 refine Ok.eq ?_
 unfold F66
 rw [breaker_eq h]
 simp only [Option.bind_some]
 rw [sound_eq h hl (by omega) (by omega)]
 simp only [Option.bind_some, broken_eq hl]
 obtain ⟨s, hs⟩ : ∃ s, p.Sources[i.toNat]? = some s := ⟨_, List.getElem?_eq_getElem (by omega)⟩
 have hg : getI p.Sources i = some s := by have := getI_nat hs; rwa [Int.toNat_of_nonneg h0] at this
 have hd : p.Sources.getD i.toNat default = s := by simp [List.getD, hs]
 unfold usableB
 rw [hd, hg]
 cases h2 : soundB b p.Broken (brkOf b i) with
 | false => simp [guardO, allEqB]; exact Ok.pure rfl
 | true =>
  cases h3 : brk p.Broken 1 i with
  | true => simp [guardO, allEqB]; exact Ok.pure rfl
  | false => simp [guardO, allEqB]; exact Ok.pure rfl
def lit (b : api_Board) (u : Int → Bool) (s : List Bool) (i : Nat) : List Bool := if u (i : Int) then s.set (b.Breakers.getD (brkOf b (i : Int)).toNat default).A.toNat true else s
def spread (sd : Int → Bool) (s : List Bool) (z : api_Breaker × Nat) : List Bool :=
 if z.1.Kind = 1 ∧ sd (z.2 : Int) = true then (s.set z.1.A.toNat (s.getD z.1.A.toNat false || s.getD z.1.B.toNat false)).set z.1.B.toNat (s.getD z.1.A.toNat false || s.getD z.1.B.toNat false) else s
def round1 (sd : Int → Bool) (l : List (api_Breaker × Nat)) (s : List Bool) : List Bool := l.foldl (spread sd) s
def lits (b : api_Board) (u : Int → Bool) : List Bool := (List.range b.Sources.length).foldl (lit b u) (List.replicate b.Buses.toNat false)
def goalL (b : api_Board) (u sd : Int → Bool) : List Bool := (List.range b.Buses.toNat).foldl (fun s _ => round1 sd b.Breakers.zipIdx s) (lits b u)
theorem lit_length (b : api_Board) (u : Int → Bool) (s : List Bool) (i : Nat) : (lit b u s i).length = s.length := by unfold lit; split <;> simp
theorem lits_length (b : api_Board) (u : Int → Bool) : (lits b u).length = b.Buses.toNat := by
 have : ∀ (xs : List Nat) (s : List Bool), (xs.foldl (lit b u) s).length = s.length := by
  intro xs
  induction xs with
  | nil => intro s; rfl
  | cons x xs ih => intro s; rw [List.foldl_cons, ih, lit_length]
 unfold lits
 rw [this]; simp
theorem spread_length (sd : Int → Bool) (s : List Bool) (z : api_Breaker × Nat) : (spread sd s z).length = s.length := by unfold spread; split <;> simp
theorem round1_length (sd : Int → Bool) : ∀ (l : List (api_Breaker × Nat)) (s : List Bool), (round1 sd l s).length = s.length
 | [], _ => rfl
 | z :: l, s => by show (round1 sd l _).length = _; rw [round1_length sd l, spread_length]
theorem rounds_length (sd : Int → Bool) (l : List (api_Breaker × Nat)) : ∀ (xs : List Nat) (s : List Bool), (xs.foldl (fun s _ => round1 sd l s) s).length = s.length
 | [], _ => rfl
 | _ :: xs, s => by rw [List.foldl_cons, rounds_length sd l xs, round1_length]
theorem goalL_length (b : api_Board) (u sd : Int → Bool) : (goalL b u sd).length = b.Buses.toNat := by
 unfold goalL
 rw [rounds_length, lits_length]
theorem goal_round {b : api_Board} (h : BoardOk b) {p : api_Power} (hl : p.Broken.length ≤ 1000) {s : List Bool} (hs : s.length = b.Buses.toNat) :
  Ok (foldI (F18_l2 b p) b.Breakers 0 s) (EndsSo (fun r => r = round1 (soundB b p.Broken) b.Breakers.zipIdx s) (fun (_ : Unit) => False)) := by
 have hb := h.brl
 refine Ok.foldI0 (I := fun j r => r = round1 (soundB b p.Broken) (b.Breakers.zipIdx.take j) s) (by simp [round1]) (fun j x r hx hr => ?_) fun r hr => ?_
 ·have hj := (List.getElem?_eq_some_iff.1 hx).1
  have hcnt : cnt 0 j = (j : Int) := cnt0 (by omega)
  have hrl : r.length = b.Buses.toNat := by rw [hr, round1_length, hs]
  have hz : b.Breakers.zipIdx[j]? = some (x, j) := by rw [List.getElem?_zipIdx, hx]; simp
  have hnext : round1 (soundB b p.Broken) (b.Breakers.zipIdx.take (j + 1)) s = spread (soundB b p.Broken) r (x, j) := by
   rw [take_succ' hz]
   unfold round1 at hr ⊢
   rw [List.foldl_append, ← hr]; rfl
  rw [hnext]
  obtain ⟨⟨a0, a1⟩, hk⟩ := h.br x (List.mem_of_getElem? hx)
  unfold F18_l2
  rw [hcnt]
  by_cases k1 : x.Kind = 1
  ·rw [beq_iff_eq.2 k1]
   have hB : x.A < x.B ∧ x.B < b.Buses := by omega
   refine Ok.bind (P := fun y => y = soundB b p.Broken (j : Int)) (Ok.guard (fun _ => by rw [sound_eq h hl (by omega) (by omega)]; exact Ok.pure rfl) fun hn => (hn ⟨rfl, trivial⟩).elim) fun y hy => ?_
   refine Ok.cond (fun hq => ?_) (fun hq => ?_)
   ·simp only [Bool.true_and] at hq
    rw [hq] at hy
    obtain ⟨u, hu⟩ : ∃ u, r[x.A.toNat]? = some u := ⟨_, List.getElem?_eq_getElem (by omega)⟩
    obtain ⟨v, hv⟩ : ∃ v, r[x.B.toNat]? = some v := ⟨_, List.getElem?_eq_getElem (by omega)⟩
    have hgu : getI r x.A = some u := by have := getI_nat hu; rwa [Int.toNat_of_nonneg a0] at this
    have hgv : getI r x.B = some v := by have := getI_nat hv; rwa [Int.toNat_of_nonneg (by omega)] at this
    have hdu : r.getD x.A.toNat false = u := by simp [List.getD, hu]
    have hdv : r.getD x.B.toNat false = v := by simp [List.getD, hv]
    rw [hgu, hgv]
    simp only [Option.bind_some]
    refine Ok.bind (P := fun w => (u || w) = (u || v)) (Ok.guard (fun _ => Ok.pure rfl) fun hn => ?_) fun w hw => ?_
    ·cases u with
     | true => rfl
     | false => exact (hn ⟨rfl, trivial⟩).elim
    rw [hw]
    refine (Ok.setI a0 (by omega)).bind fun t ht => ?_
    subst ht
    refine (Ok.getI (by omega) (by simp; omega)).bind fun _ _ => (Ok.setI (by omega) (by simp; omega)).bind fun t ht => Ok.next ?_
    rw [ht]
    unfold spread
    rw [if_pos ⟨k1, hy.symm⟩]
    simp only [hdu, hdv]
   ·simp only [Bool.true_and] at hq
    refine Ok.next ?_
    unfold spread
    rw [if_neg (by rw [← hy, hq]; simp)]
  ·rw [beq_eq_false_iff_ne.2 k1]
   refine Ok.bind (P := fun _ => True) (Ok.guard (fun hg => absurd hg.1 (by simp)) fun _ => trivial) fun y _ => ?_
   refine Ok.cond (fun hq => by simp at hq) (fun _ => Ok.next ?_)
   unfold spread
   rw [if_neg (fun hh => k1 hh.1)]
 ·rw [hr, show b.Breakers.length = b.Breakers.zipIdx.length from by simp, List.take_length]
theorem goal_eq {b : api_Board} (h : BoardOk b) {p : api_Power} (hp : StateOk b p) : F18 b p = some (goalL b (usableB b p) (soundB b p.Broken)) := by
 have hbu := h.buses
 have hso := h.sol
 have hns := hp.nso
 have hbl : p.Broken.length ≤ 1000 := by have := hp.brk.len; omega
 refine Ok.eq ?_
 unfold F18
 rw [state_ok h hp]
 simp only [Option.bind_some]
 refine Ok.cond (fun hc => by simp at hc) (fun _ => ?_)
 refine (Ok.mkI (by omega) (by omega)).bind fun y hy => ?_
 refine Ok.andThen (A := fun s => s.2 = lits b (usableB b p)) (B := fun (_ : Unit) => False) ?_ ?_ (fun _ h => h.elim)
 ·refine Ok.whileN (fun s => (0 ≤ s.1 ∧ s.1 ≤ (b.Sources.length : Int)) ∧ s.2 = (List.range s.1.toNat).foldl (lit b (usableB b p)) (List.replicate b.Buses.toNat false)) (fun s => ((b.Sources.length : Int) - s.1).toNat) _ _ ?_ ?_ ?_
  ·exact ⟨by dsimp only; omega, by rw [hy]; rfl⟩
  ·dsimp only; omega
  ·rintro ⟨i, s⟩ ⟨⟨h1, h2⟩, h3⟩
   dsimp only at h1 h2 h3
   have hsl : s.length = b.Buses.toNat := by
    rw [h3]
    have : ∀ (xs : List Nat) (s : List Bool), (xs.foldl (lit b (usableB b p)) s).length = s.length := by
     intro xs
     induction xs with
     | nil => intro s; rfl
     | cons x xs ih => intro s; rw [List.foldl_cons, ih, lit_length]
    rw [this]; simp
   unfold F18_l0 c18_1
   dsimp only
   refine Ok.cond (fun hq => ?_) (fun hq => ?_)
   ·simp only [decide_eq_true_eq] at hq
    have e1 : w64 (i + 1) = i + 1 := w64_in (by omega)
    have e2 : (i + 1).toNat = i.toNat + 1 := by omega
    have e3 : ((i.toNat : Nat) : Int) = i := by omega
    have hnext : (List.range (i + 1).toNat).foldl (lit b (usableB b p)) (List.replicate b.Buses.toNat false) = lit b (usableB b p) s i.toNat := by
     rw [e2, List.range_succ, List.foldl_append, ← h3]; rfl
    rw [usable_eq h hns hbl h1 hq]
    simp only [Option.bind_some, e1]
    refine Ok.cond (fun hu => ?_) (fun hu => ?_)
    ·obtain ⟨j, x, e, hx, _, _, hj⟩ := brkOf_spec h h1 hq
     have hjl := (List.getElem?_eq_some_iff.1 hx).1
     obtain ⟨⟨a0, a1⟩, _⟩ := h.br x (List.mem_of_getElem? hx)
     rw [breaker_eq h, e]
     simp only [Option.bind_some]
     rw [getI_nat hx]
     simp only [Option.bind_some]
     refine (Ok.getI a0 (by omega)).bind fun _ _ => (Ok.setI a0 (by omega)).bind fun t ht => Ok.next ⟨⟨by dsimp only; omega, ?_⟩, by dsimp only; omega⟩
     dsimp only
     rw [hnext, ht]
     unfold lit
     have hd : b.Breakers.getD j default = x := by simp [List.getD, hx]
     rw [e3, if_pos hu, e, Int.toNat_natCast, hd]
    ·refine Ok.next ⟨⟨by dsimp only; omega, ?_⟩, by dsimp only; omega⟩
     dsimp only
     rw [hnext]
     unfold lit
     rw [e3, if_neg (by rw [hu]; simp)]
   ·simp only [decide_eq_false_iff_not] at hq
    refine Ok.brk ?_
    dsimp only
    rw [h3]
    have : i.toNat = b.Sources.length := by omega
    rw [this]; rfl
 ·rintro ⟨i0, s⟩ hs
  dsimp only at hs
  subst hs
  dsimp only
  refine Ok.andThen (A := fun s => s.2 = goalL b (usableB b p) (soundB b p.Broken)) (B := fun (_ : Unit) => False) ?_ (fun s hs => Ok.pure hs) (fun _ h => h.elim)
  refine Ok.whileN (fun s => (0 ≤ s.1 ∧ s.1 ≤ b.Buses) ∧ s.2 = (List.range s.1.toNat).foldl (fun s _ => round1 (soundB b p.Broken) b.Breakers.zipIdx s) (lits b (usableB b p))) (fun s => (b.Buses - s.1).toNat) _ _ ?_ ?_ ?_
  ·exact ⟨by dsimp only; omega, rfl⟩
  ·dsimp only; omega
  ·rintro ⟨i, s⟩ ⟨⟨h1, h2⟩, h3⟩
   dsimp only at h1 h2 h3
   unfold F18_l1
   dsimp only
   refine Ok.cond (fun hq => ?_) (fun hq => ?_)
   ·simp only [decide_eq_true_eq] at hq
    have e1 : w64 (i + 1) = i + 1 := w64_in (by omega)
    have e2 : (i + 1).toNat = i.toNat + 1 := by omega
    have hsl : s.length = b.Buses.toNat := by rw [h3, rounds_length, lits_length]
    refine (goal_round h hbl hsl).inner (fun r hr => ?_) (fun _ h => h.elim)
    rw [e1]
    refine Ok.next ⟨⟨by dsimp only; omega, ?_⟩, by dsimp only; omega⟩
    dsimp only
    rw [hr, e2, List.range_succ, List.foldl_append, ← h3]; rfl
   ·simp only [decide_eq_false_iff_not] at hq
    refine Ok.brk ?_
    dsimp only
    rw [h3]
    have : i.toNat = b.Buses.toNat := by omega
    rw [this]; rfl
def LeB (s t : List Bool) : Prop := s.length = t.length ∧ ∀ i : Nat, s[i]? = some true → t[i]? = some true
theorem LeB.refl (s : List Bool) : LeB s s := ⟨rfl, fun _ h => h⟩
theorem LeB.trans {s t r : List Bool} (h : LeB s t) (k : LeB t r) : LeB s r := ⟨h.1.trans k.1, fun i e => k.2 i (h.2 i e)⟩
theorem LeB.set {s t : List Bool} (h : LeB s t) (n : Nat) {x y : Bool} (hx : x = true → y = true) : LeB (s.set n x) (t.set n y) := by
 refine ⟨by simp [h.1], fun i e => ?_⟩
 rw [List.getElem?_set] at e ⊢
 split at e
 ·rename_i hn
  rw [if_pos hn]
  split at e
  ·rename_i hl
   rw [if_pos (by rw [← h.1]; exact hl)]
   cases e; rw [hx rfl]
  ·cases e
 ·rename_i hn
  rw [if_neg hn]; exact h.2 i e
theorem LeB.getD {s t : List Bool} (h : LeB s t) (n : Nat) : s.getD n false = true → t.getD n false = true := by
 intro e
 have : s[n]? = some true := by
  unfold List.getD at e
  cases hs : s[n]? with
  | none => rw [hs] at e; cases e
  | some v => rw [hs] at e; simp at e; rw [e]
 simp [List.getD, h.2 n this]
theorem LeB.up (s : List Bool) (n : Nat) {y : Bool} (hy : s.getD n false = true → y = true) : LeB s (s.set n y) := by
 refine ⟨by simp, fun i e => ?_⟩
 rw [List.getElem?_set]
 split
 ·rename_i hn
  subst hn
  have hl := (List.getElem?_eq_some_iff.1 e).1
  rw [if_pos hl, hy (by simp [List.getD, e])]
 ·exact e
theorem lit_mono {b : api_Board} {u v : Int → Bool} (huv : ∀ i : Nat, i < b.Sources.length → u (i : Int) = true → v (i : Int) = true) {s t : List Bool} (h : LeB s t) {i : Nat} (hi : i < b.Sources.length) : LeB (lit b u s i) (lit b v t i) := by
 unfold lit
 cases hu : u (i : Int) with
 | true => rw [huv i hi hu]; simpa using h.set _ (fun e => e)
 | false =>
  simp only [Bool.false_eq_true, if_false]
  split
  ·exact h.trans (LeB.up _ _ fun _ => rfl)
  ·exact h
theorem spread_mono {sd se : Int → Bool} {z : api_Breaker × Nat} (hs : z.1.Kind = 1 → sd (z.2 : Int) = true → se (z.2 : Int) = true) {s t : List Bool} (h : LeB s t) : LeB (spread sd s z) (spread se t z) := by
 have hor : (s.getD z.1.A.toNat false || s.getD z.1.B.toNat false) = true → (t.getD z.1.A.toNat false || t.getD z.1.B.toNat false) = true := by
  rw [Bool.or_eq_true, Bool.or_eq_true]
  exact fun e => e.imp (h.getD _) (h.getD _)
 unfold spread
 by_cases h1 : z.1.Kind = 1 ∧ sd (z.2 : Int) = true
 ·rw [if_pos h1, if_pos ⟨h1.1, hs h1.1 h1.2⟩]
  exact (h.set _ hor).set _ hor
 ·rw [if_neg h1]
  split
  ·refine h.trans ((LeB.up t _ ?_).trans ((LeB.up _ _ ?_)))
   ·intro e; rw [e]; rfl
   ·intro e
    have hA : t.getD z.1.B.toNat false = true ∨ z.1.A.toNat = z.1.B.toNat ∧ (t.getD z.1.A.toNat false || t.getD z.1.B.toNat false) = true := by
     by_cases e0 : z.1.A.toNat = z.1.B.toNat
     ·right
      refine ⟨e0, ?_⟩
      unfold List.getD at e
      rw [List.getElem?_set, if_pos e0] at e
      split at e
      ·simpa using e
      ·cases e
     ·left
      unfold List.getD at e
      rw [List.getElem?_set, if_neg e0] at e
      exact e
    rcases hA with e1 | ⟨_, e1⟩
    ·rw [e1]; simp
    ·exact e1
  ·exact h
theorem goal_mono {b : api_Board} {u v sd se : Int → Bool} (huv : ∀ i : Nat, i < b.Sources.length → u (i : Int) = true → v (i : Int) = true) (hse : ∀ (i : Nat) x, b.Breakers[i]? = some x → x.Kind = 1 → sd (i : Int) = true → se (i : Int) = true) : LeB (goalL b u sd) (goalL b v se) := by
 have h1 : ∀ (n : Nat), n ≤ b.Sources.length → LeB ((List.range n).foldl (lit b u) (List.replicate b.Buses.toNat false)) ((List.range n).foldl (lit b v) (List.replicate b.Buses.toNat false)) := by
  intro n
  induction n with
  | zero => intro _; exact LeB.refl _
  | succ n ih =>
   intro hn
   rw [List.range_succ, List.foldl_append, List.foldl_append]
   exact lit_mono huv (ih (by omega)) (by omega)
 have h2 : ∀ (l : List (api_Breaker × Nat)) (s t : List Bool), (∀ z, z ∈ l → z.1.Kind = 1 → sd (z.2 : Int) = true → se (z.2 : Int) = true) → LeB s t → LeB (round1 sd l s) (round1 se l t) := by
  intro l
  induction l with
  | nil => intro s t _ h; exact h
  | cons z l ih => intro s t hz h; exact ih _ _ (fun y hy => hz y (List.mem_cons_of_mem _ hy)) (spread_mono (hz z List.mem_cons_self) h)
 have hz : ∀ z, z ∈ b.Breakers.zipIdx → z.1.Kind = 1 → sd (z.2 : Int) = true → se (z.2 : Int) = true := by
  rintro ⟨x, i⟩ hm
  rw [List.mem_zipIdx_iff_getElem?] at hm
  exact hse i x hm
 have h3 : ∀ (xs : List Nat) (s t : List Bool), LeB s t → LeB (xs.foldl (fun s _ => round1 sd b.Breakers.zipIdx s) s) (xs.foldl (fun s _ => round1 se b.Breakers.zipIdx s) t) := by
  intro xs
  induction xs with
  | nil => intro s t h; exact h
  | cons x xs ih => intro s t h; exact ih _ _ (h2 _ _ _ hz h)
 exact h3 _ _ _ (h1 _ (Nat.le_refl _))
end Go.Proofs.YtkngbnedbgndoaaGreat
