import Derived.Test.YtkngbnedbgndoaaGreatPD
namespace Go.Proofs.YtkngbnedbgndoaaGreat
open Go.SL
def ledO (b : api_Board) (p : api_Power) (k i : Int) : Option Int := ((b.Breakers.zip p.Closed).find? fun z => (z.1.Kind == k && z.1.B == i) && z.2).map (·.1.A)
def flag (o : Option Int) : Int × Bool := match o with
 | some a => (a, true)
 | none => (0, false)
theorem led_from {p : api_Power} {k i : Int} : ∀ (l : List api_Breaker) (c : List Bool) (n : Nat), n + l.length ≤ 9223372036854775807 → l.length = c.length → p.Closed.drop n = c →
  foldI (F237_l0 p k i) l n () = match ((l.zip c).find? fun z => (z.1.Kind == k && z.1.B == i) && z.2) with
   | some z => some (.ret (z.1.A, true))
   | none => some (.next ())
 | [], c, n, _, _, _ => by simp [foldI]
 | x :: l, [], n, _, h, _ => by simp at h
 | x :: l, v :: c, n, hn, h, hd => by
  simp only [List.length_cons] at hn h
  have hv : p.Closed[n]? = some v := by
   have := congrArg (·[0]?) hd
   simpa [List.getElem?_drop] using this
  have hd' : p.Closed.drop (n + 1) = c := by rw [← List.drop_drop, hd]; rfl
  have ih := led_from (p := p) (k := k) (i := i) l c (n + 1) (by omega) (by omega) hd'
  have hcnt : cnt 0 n = (n : Int) := cnt0 (by omega)
  simp only [foldI, F237_l0, c237_1, hcnt, getI_nat hv, List.zip_cons_cons, List.find?_cons]
  cases hk : (x.Kind == k && x.B == i) with
  | false => simpa [guardO, allEqB] using ih
  | true =>
   cases v with
   | false => simpa [guardO, allEqB] using ih
   | true => simp [guardO, allEqB]
theorem led_eq {b : api_Board} (h : BoardOk b) {p : api_Power} (hc : p.Closed.length = b.Breakers.length) (k i : Int) : F237 b p k i = some (flag (ledO b p k i)) := by
 have hb := h.brl
 unfold F237
 rw [led_from b.Breakers p.Closed 0 (by omega) (by omega) rfl]
 unfold ledO
 cases (b.Breakers.zip p.Closed).find? fun z => (z.1.Kind == k && z.1.B == i) && z.2 with
 | none => rfl
 | some z => rfl
theorem fed_eq {b : api_Board} (h : BoardOk b) {p : api_Power} (hc : p.Closed.length = b.Breakers.length) (i : Int) : F188 b p i = some (flag (ledO b p 3 i)) := by
 unfold F188
 rw [led_eq h hc]; rfl
def conO (b : api_Board) (p : api_Power) (i : Int) : Option Int :=
 if 0 ≤ i ∧ i < p.Sources.length ∧ (p.Sources.getD i.toNat default).State = 2 then ledO b p 2 i else none
theorem connected_eq {b : api_Board} (h : BoardOk b) {p : api_Power} (hp : StateOk b p) (i : Int) : F187 b p i = some (flag (conO b p i)) := by
 have hs := h.sol
 have hn := hp.nso
 refine Ok.eq ?_
 unfold F187
 have e1 : w64 ((p.Sources.length : Int) - 1) = (p.Sources.length : Int) - 1 := w64_in (by omega)
 by_cases hi : 0 ≤ i ∧ i < p.Sources.length
 ·have hin : F132 i 0 (w64 ((p.Sources.length : Int) - 1)) = true := by rw [e1]; exact in_t (by omega)
  obtain ⟨x, hx⟩ : ∃ x, p.Sources[i.toNat]? = some x := ⟨_, List.getElem?_eq_getElem (by omega)⟩
  have hg : getI p.Sources i = some x := by have := getI_nat hx; rwa [Int.toNat_of_nonneg hi.1] at this
  have hd : p.Sources.getD i.toNat default = x := by simp [List.getD, hx]
  rw [hin, hg]
  refine Ok.bind (P := fun y => y = x) (Ok.guard (fun _ => Ok.pure rfl) fun hn => (hn ⟨rfl, trivial⟩).elim) fun y hy => ?_
  subst hy
  unfold conO
  refine Ok.cond (fun hc => ?_) (fun hc => ?_)
  ·simp only [c187_0, hin, Bool.or_eq_true, Bool.not_true, Bool.false_eq_true, false_or, bne_iff_ne, ne_eq] at hc
   rw [hd, if_neg (fun hh => hc hh.2.2)]
   exact Ok.pure rfl
  ·have hc := ff hc
   simp only [c187_0, hin, Bool.or_eq_true, Bool.not_true, Bool.false_eq_true, false_or, bne_iff_ne, ne_eq, Decidable.not_not] at hc
   rw [hd, if_pos ⟨hi.1, hi.2, hc⟩, led_eq h hp.ncl]
   exact Ok.pure rfl
 ·have hin : F132 i 0 (w64 ((p.Sources.length : Int) - 1)) = false := by
   cases hq : F132 i 0 (w64 ((p.Sources.length : Int) - 1)) with
   | false => rfl
   | true => rw [in_iff, e1] at hq; omega
  rw [hin]
  unfold conO
  rw [if_neg (fun hh => hi ⟨hh.1, hh.2.1⟩)]
  refine Ok.bind (P := fun _ => True) (Ok.guard (fun hg => absurd hg.1 (by simp)) fun _ => trivial) fun y _ => ?_
  refine Ok.cond (fun _ => Ok.pure rfl) (fun hc => ?_)
  simp [c187_0, hin] at hc
theorem ledO_bus {b : api_Board} (h : BoardOk b) {p : api_Power} {k i a : Int} (e : ledO b p k i = some a) : 0 ≤ a ∧ a < b.Buses := by
 unfold ledO at e
 rw [Option.map_eq_some_iff] at e
 obtain ⟨z, hz, rfl⟩ := e
 exact (h.br z.1 (List.of_mem_zip (List.mem_of_find?_eq_some hz)).1).1
theorem conO_bus {b : api_Board} (h : BoardOk b) {p : api_Power} {i a : Int} (e : conO b p i = some a) : 0 ≤ a ∧ a < b.Buses := by
 unfold conO at e
 split at e
 ·exact ledO_bus h e
 ·cases e
def gstep (s : List Int) (z : api_Breaker × Bool) : List Int :=
 if z.1.Kind = 1 ∧ z.2 = true then (s.set z.1.A.toNat (min (s.getD z.1.A.toNat 0) (s.getD z.1.B.toNat 0))).set z.1.B.toNat (min (s.getD z.1.A.toNat 0) (s.getD z.1.B.toNat 0)) else s
def ground (l : List (api_Breaker × Bool)) (s : List Int) : List Int := l.foldl gstep s
def rangeI (n : Nat) : List Int := (List.range n).map fun (i : Nat) => (i : Int)
def groups (b : api_Board) (p : api_Power) : List Int := (List.range b.Buses.toNat).foldl (fun s _ => ground (b.Breakers.zip p.Closed) s) (rangeI b.Buses.toNat)
theorem gstep_length (s : List Int) (z : api_Breaker × Bool) : (gstep s z).length = s.length := by
 unfold gstep; split <;> simp
theorem ground_length (l : List (api_Breaker × Bool)) : ∀ s : List Int, (ground l s).length = s.length := by
 induction l with
 | nil => intro s; rfl
 | cons z l ih => intro s; show (ground l (gstep s z)).length = _; rw [ih, gstep_length]
theorem groups_from {b : api_Board} {p : api_Power} {n : Nat} : ∀ (xs : List Nat) (s : List Int), s.length = n → (xs.foldl (fun s _ => ground (b.Breakers.zip p.Closed) s) s).length = n
 | [], s, h => h
 | _ :: xs, s, h => groups_from xs _ (by rw [ground_length]; exact h)
theorem groups_length (b : api_Board) (p : api_Power) : (groups b p).length = b.Buses.toNat := groups_from _ _ (by simp [rangeI])
theorem group_l2 {b : api_Board} (h : BoardOk b) {p : api_Power} (hc : p.Closed.length = b.Breakers.length) {s : List Int} (hs : s.length = b.Buses.toNat) :
  Ok (foldI (F186_l2 p) b.Breakers 0 s) (EndsSo (fun r => r = ground (b.Breakers.zip p.Closed) s) (fun (_ : Unit) => False)) := by
 have hb := h.brl
 have hbu := h.buses
 refine Ok.foldI0 (I := fun j r => r = ground ((b.Breakers.take j).zip (p.Closed.take j)) s) (by simp [ground]) (fun j x r hx hr => ?_) fun r hr => ?_
 ·have hj := (List.getElem?_eq_some_iff.1 hx).1
  obtain ⟨v, hv⟩ : ∃ v, p.Closed[j]? = some v := ⟨_, List.getElem?_eq_getElem (by omega)⟩
  have hcnt : cnt 0 j = (j : Int) := cnt0 (by omega)
  have hl : r.length = b.Buses.toNat := by rw [hr, ground_length, hs]
  have hnext : ground ((b.Breakers.take (j + 1)).zip (p.Closed.take (j + 1))) s = gstep r (x, v) := by
   rw [take_succ' hx, take_succ' hv, List.zip_append (by simp; omega)]
   unfold ground at hr ⊢
   rw [List.foldl_append, ← hr]; rfl
  rw [hnext]
  unfold F186_l2
  rw [hcnt, getI_nat hv]
  obtain ⟨⟨a0, a1⟩, hk⟩ := h.br x (List.mem_of_getElem? hx)
  by_cases k1 : x.Kind = 1
  ·rw [beq_iff_eq.2 k1]
   refine Ok.bind (P := fun y => y = v) (Ok.guard (fun _ => Ok.pure rfl) fun hn => (hn ⟨rfl, trivial⟩).elim) fun y hy => ?_
   subst hy
   have hB : x.A < x.B ∧ x.B < b.Buses := by omega
   cases y with
   | false =>
    refine Ok.cond (fun hq => by simp at hq) (fun _ => Ok.next ?_)
    simp [gstep]
   | true =>
    refine Ok.cond (fun _ => ?_) (fun hq => by simp at hq)
    refine (Ok.getI a0 (by omega)).bind fun u hu => (Ok.getI (by omega) (by omega)).bind fun w hw => (Ok.setI a0 (by omega)).bind fun t ht => ?_
    subst ht
    refine (Ok.getI (by omega) (by simp; omega)).bind fun _ _ => (Ok.setI (by omega) (by simp; omega)).bind fun t ht => Ok.next ?_
    subst ht
    simp [gstep, k1, List.getD, hu, hw]
  ·rw [beq_eq_false_iff_ne.2 k1]
   refine Ok.bind (P := fun _ => True) (Ok.guard (fun hg => absurd hg.1 (by simp)) fun _ => trivial) fun y _ => ?_
   refine Ok.cond (fun hq => by simp at hq) (fun _ => Ok.next ?_)
   simp [gstep, k1]
 ·rw [List.take_length, ← hc, List.take_length] at hr
  exact hr
theorem groups_eq {b : api_Board} (h : BoardOk b) {p : api_Power} (hc : p.Closed.length = b.Breakers.length) : F186 b p = some (groups b p) := by
 have hbu := h.buses
 refine Ok.eq ?_
 unfold F186
 refine (Ok.mkI (by omega) (by omega)).bind fun y hy => ?_
 refine Ok.andThen (A := fun s => s = rangeI b.Buses.toNat) (B := fun (_ : Unit) => False) ?_ ?_ (fun _ h => h.elim)
 ·refine Ok.foldI0 (I := fun j s => s = (List.range b.Buses.toNat).map fun i => if i < j then (i : Int) else 0) ?_ (fun j x s hx hs => ?_) fun s hs => ?_
  ·rw [hy, rep_range]
   exact List.map_congr_left fun i _ => by simp
  ·have hj := (List.getElem?_eq_some_iff.1 hx).1
   have hjl : j < b.Buses.toNat := by rw [hy] at hj; simpa using hj
   have hcnt : cnt 0 j = (j : Int) := cnt0 (by omega)
   subst hs
   unfold F186_l0
   rw [hcnt]
   refine (Ok.getR (by omega) (by omega)).bind fun _ _ => (Ok.setR (by omega) (by omega)).bind fun z hz => Ok.next ?_
   rw [hz]
   refine List.map_congr_left fun i _ => ?_
   by_cases e : i = j
   ·subst e; simp
   ·have : ((j : Int)).toNat = j := by omega
    rw [this, if_neg e]
    by_cases e2 : i < j
    ·rw [if_pos e2, if_pos (by omega)]
    ·rw [if_neg e2, if_neg (by omega)]
  ·rw [hs]
   unfold rangeI
   refine List.map_congr_left fun i hi => ?_
   rw [hy]
   simp at hi
   simp [hi]
 ·rintro s rfl
  refine Ok.andThen (A := fun s => s = groups b p) (B := fun (_ : Unit) => False) ?_ (fun s hs => Ok.pure hs) (fun _ h => h.elim)
  refine Ok.foldI0 (I := fun j s => s = (List.range j).foldl (fun s _ => ground (b.Breakers.zip p.Closed) s) (rangeI b.Buses.toNat)) rfl (fun j x s hx hs => ?_) fun s hs => ?_
  ·unfold F186_l1
   have hl : s.length = b.Buses.toNat := by rw [hs]; exact groups_from _ _ (by simp [rangeI])
   refine (group_l2 h hc hl).inner (fun r hr => Ok.next ?_) (fun _ h => h.elim)
   rw [hr, List.range_succ, List.foldl_append, ← hs]; rfl
  ·rw [hs]
   unfold groups
   congr 2
   simp [rangeI]
theorem gstep_lo {s : List Int} (h : ∀ (i : Nat) v, s[i]? = some v → 0 ≤ v ∧ v ≤ i) {z : api_Breaker × Bool} (hz : z.1.Kind = 1 → 0 ≤ z.1.A ∧ z.1.A < z.1.B ∧ z.1.B < s.length) : ∀ (i : Nat) v, (gstep s z)[i]? = some v → 0 ≤ v ∧ v ≤ i := by
 unfold gstep
 split
 ·rename_i hk
  obtain ⟨h1, h2, h3⟩ := hz hk.1
  have ga : s[z.1.A.toNat]? = some (s.getD z.1.A.toNat 0) := by rw [List.getElem?_eq_getElem (by omega)]; simp [List.getD, List.getElem?_eq_getElem (show z.1.A.toNat < s.length by omega)]
  have gb : s[z.1.B.toNat]? = some (s.getD z.1.B.toNat 0) := by rw [List.getElem?_eq_getElem (by omega)]; simp [List.getD, List.getElem?_eq_getElem (show z.1.B.toNat < s.length by omega)]
  have ha := h _ _ ga
  have hb := h _ _ gb
  intro i v hv
  rw [List.getElem?_set] at hv
  split at hv
  ·rename_i e; subst e
   split at hv
   ·cases hv; omega
   ·cases hv
  ·rw [List.getElem?_set] at hv
   split at hv
   ·rename_i e; subst e
    split at hv
    ·cases hv; omega
    ·cases hv
   ·exact h i v hv
 ·exact h
theorem ground_lo {n : Nat} : ∀ (l : List (api_Breaker × Bool)) (s : List Int), s.length = n → (∀ z, z ∈ l → z.1.Kind = 1 → 0 ≤ z.1.A ∧ z.1.A < z.1.B ∧ z.1.B < n) → (∀ (i : Nat) v, s[i]? = some v → 0 ≤ v ∧ v ≤ i) → ∀ (i : Nat) v, (ground l s)[i]? = some v → 0 ≤ v ∧ v ≤ i
 | [], s, _, _, h => h
 | z :: l, s, hs, hz, h => ground_lo l (gstep s z) (by rw [gstep_length]; exact hs) (fun y hy => hz y (List.mem_cons_of_mem _ hy)) (gstep_lo h (by rw [hs]; exact hz z List.mem_cons_self))
theorem groups_lo {b : api_Board} (h : BoardOk b) (p : api_Power) : ∀ (i : Nat) v, (groups b p)[i]? = some v → 0 ≤ v ∧ v ≤ i := by
 have hbu := h.buses
 have hz : ∀ z, z ∈ b.Breakers.zip p.Closed → z.1.Kind = 1 → 0 ≤ z.1.A ∧ z.1.A < z.1.B ∧ z.1.B < (b.Buses.toNat : Int) := by
  intro z hz hk
  have := h.br z.1 (List.of_mem_zip hz).1
  unfold BrOk at this
  omega
 have key : ∀ (xs : List Nat) (s : List Int), s.length = b.Buses.toNat → (∀ (i : Nat) v, s[i]? = some v → 0 ≤ v ∧ v ≤ i) → ∀ (i : Nat) v, (xs.foldl (fun s _ => ground (b.Breakers.zip p.Closed) s) s)[i]? = some v → 0 ≤ v ∧ v ≤ i := by
  intro xs
  induction xs with
  | nil => intro s _ h; exact h
  | cons x xs ih => intro s hl h; exact ih _ (by rw [ground_length]; exact hl) (ground_lo _ s hl hz h)
 refine key _ _ (by simp [rangeI]) ?_
 intro i v hv
 simp only [rangeI, List.getElem?_map] at hv
 cases hr : (List.range b.Buses.toNat)[i]? with
 | none => rw [hr] at hv; cases hv
 | some k =>
  rw [hr] at hv
  have := List.getElem?_eq_some_iff.1 hr
  simp at this
  obtain ⟨_, rfl⟩ := this
  cases hv; dsimp only; omega
end Go.Proofs.YtkngbnedbgndoaaGreat
