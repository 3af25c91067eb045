import Derived.Test.YtkngbnedbgndoaaGreatPJ
namespace Go.Proofs.YtkngbnedbgndoaaGreat
open Go.SL
def ks (x : api_Part) : Int := x.Kind * 1000 + x.Number
def PartSmall (x : api_Part) : Prop := (1 ≤ x.Kind ∧ x.Kind ≤ 4) ∧ 0 ≤ x.Number ∧ x.Number ≤ 100
theorem PartIn.small {b : api_Board} (h : BoardOk b) {x : api_Part} (hx : PartIn b x) : PartSmall x := by
 have h1 := h.buses
 have h2 := h.brl
 have h3 := h.sol
 have h4 := h.col
 unfold PartIn at hx
 unfold PartSmall
 omega
theorem lt_ks {x y : api_Part} (hx : PartSmall x) (hy : PartSmall y) : PartLt x y ↔ ks x < ks y := by
 unfold PartLt ks
 unfold PartSmall at hx hy
 omega
theorem eq_ks {x y : api_Part} (hx : PartSmall x) (hy : PartSmall y) (h : ks x = ks y) : x = y := by
 unfold ks at h
 unfold PartSmall at hx hy
 cases x; cases y
 simp only [api_Part.mk.injEq]
 dsimp only at *
 omega
theorem before_eq {x y : api_Part} (hx : PartSmall x) (hy : PartSmall y) : (decide (F219 x y < 0) = decide (ks x < ks y)) ∧ ((F219 x y == 0) = (ks x == ks y)) := by
 unfold PartSmall at hx hy
 unfold F219 ks
 by_cases hk : x.Kind = y.Kind
 ·have : (x.Kind != y.Kind) = false := by simp [hk]
  rw [this, cond_false, w64_in (by omega)]
  constructor
  ·exact decide_eq_decide.2 (by omega)
  ·rw [Bool.eq_iff_iff, beq_iff_eq, beq_iff_eq]; omega
 ·have : (x.Kind != y.Kind) = true := by simp [hk]
  rw [this, cond_true, w64_in (by omega)]
  constructor
  ·exact decide_eq_decide.2 (by omega)
  ·rw [Bool.eq_iff_iff, beq_iff_eq, beq_iff_eq]; omega
def Sorted (l : List api_Part) : Prop := ∀ (j k : Nat) x y, j < k → l[j]? = some x → l[k]? = some y → ks x < ks y
theorem sorted_of {b : api_Board} (h : BoardOk b) {l : List api_Part} (hl : BrokenOk b l) : Sorted l := by
 have hs : ∀ x, x ∈ l → PartSmall x := fun x hx => (hl.mem x hx).small h
 intro j k
 induction k with
 | zero => intro x y hj; omega
 | succ k ih =>
  intro x y hj hx hy
  have hk := (List.getElem?_eq_some_iff.1 hy).1
  obtain ⟨z, hz⟩ : ∃ z, l[k]? = some z := ⟨_, List.getElem?_eq_getElem (by omega)⟩
  have h1 := (lt_ks (hs z (List.mem_of_getElem? hz)) (hs y (List.mem_of_getElem? hy))).1 (hl.asc k z y hz hy)
  by_cases e : j = k
  ·subst e
   rw [hx] at hz; cases hz; exact h1
  ·have := ih x z (by omega) hx hz
   omega
theorem half_eq {n : Int} (h0 : 0 ≤ n) (h1 : n ≤ 1000000) : w64 (shrI .u64 (IntKind.wrap .u64 (w64 n)) 1) = n / 2 := by
 have e1 : w64 n = n := w64_in (by omega)
 have e2 : IntKind.wrap .u64 n = n := by
  simp [IntKind.wrap, IntKind.signed, IntKind.bits]
  omega
 have e3 : shrI .u64 n 1 = n / 2 := by
  unfold shrI
  have : (2 : Int) ^ min 1 (IntKind.u64).bits = 2 := by decide
  rw [this]
  exact Int.fdiv_eq_ediv_of_nonneg _ (by omega)
 rw [e1, e2, e3, w64_in (by omega)]
structure At (l : List api_Part) (x : api_Part) (n : Nat) : Prop where
 le : n ≤ l.length
 lo : ∀ (j : Nat) y, j < n → l[j]? = some y → ks y < ks x
 hi : ∀ (j : Nat) y, n ≤ j → l[j]? = some y → ks x ≤ ks y
theorem search_ok {l : List api_Part} (hs : Sorted l) (hsm : ∀ x, x ∈ l → PartSmall x) {x : api_Part} (hx : PartSmall x) (hl : l.length ≤ 1000) :
  Ok (F218s0 l x) fun y => ∃ n : Nat, y.1 = (n : Int) ∧ At l x n ∧ (y.2 = true ↔ l[n]? = some x) := by
 unfold F218s0
 refine Ok.andThen (A := fun s => ∃ n : Nat, s.1 = (n : Int) ∧ At l x n) (B := fun (_ : Unit) => False) ?_ ?_ (fun _ h => h.elim)
 ·refine Ok.whileN (fun s => (0 ≤ s.1 ∧ s.1 ≤ s.2 ∧ s.2 ≤ (l.length : Int)) ∧ (∀ (j : Nat) y, (j : Int) < s.1 → l[j]? = some y → ks y < ks x) ∧ ∀ (j : Nat) y, s.2 ≤ (j : Int) → l[j]? = some y → ks x ≤ ks y) (fun s => (s.2 - s.1).toNat) _ _ ?_ ?_ ?_
  ·refine ⟨by dsimp only; omega, fun j y hj => by dsimp only at hj; omega, fun j y hj hy => ?_⟩
   have := (List.getElem?_eq_some_iff.1 hy).1
   dsimp only at hj; omega
  ·dsimp only; omega
  ·rintro ⟨i, j⟩ ⟨⟨h1, h2, h3⟩, h4, h5⟩
   dsimp only at h1 h2 h3 h4 h5
   unfold F218s0_l0
   dsimp only
   refine Ok.cond (fun hq => ?_) (fun hq => ?_)
   ·simp only [decide_eq_true_eq] at hq
    rw [half_eq (by omega) (by omega)]
    refine (Ok.getI (by omega) (by omega)).bind fun y hy => ?_
    have hym := hsm y (List.mem_of_getElem? hy)
    rw [(before_eq hym hx).1]
    refine Ok.cond (fun hc => ?_) (fun hc => ?_)
    ·simp only [decide_eq_true_eq] at hc
     rw [w64_in (by omega)]
     refine Ok.next ⟨⟨by dsimp only; omega, fun k z hk hz => ?_, h5⟩, by dsimp only; omega⟩
     dsimp only at hk
     by_cases e : k = ((i + j) / 2).toNat
     ·subst e; rw [hy] at hz; cases hz; exact hc
     ·have := hs k _ z y (by omega) hz hy
      omega
    ·simp only [decide_eq_false_iff_not] at hc
     refine Ok.next ⟨⟨by dsimp only; omega, h4, fun k z hk hz => ?_⟩, by dsimp only; omega⟩
     dsimp only at hk
     by_cases e : k = ((i + j) / 2).toNat
     ·subst e; rw [hy] at hz; cases hz; omega
     ·have := hs _ k y z (by omega) hy hz
      omega
   ·simp only [decide_eq_false_iff_not] at hq
    refine Ok.brk ⟨i.toNat, by dsimp only; omega, by omega, fun k y hk hy => h4 k y (by omega) hy, fun k y hk hy => h5 k y (by omega) hy⟩
 ·rintro ⟨i, j⟩ ⟨n, hn, hat⟩
  dsimp only at hn
  subst hn
  dsimp only
  by_cases hlt : n < l.length
  ·obtain ⟨y, hy⟩ : ∃ y, l[n]? = some y := ⟨_, List.getElem?_eq_getElem hlt⟩
   have hd : decide ((n : Int) < (l.length : Int)) = true := by simp; omega
   rw [hd, getI_nat hy]
   refine Ok.bind (P := fun z => z = y) (Ok.guard (fun _ => Ok.pure rfl) fun hn => (hn ⟨rfl, trivial⟩).elim) fun z hz => Ok.pure ⟨n, rfl, hat, ?_⟩
   subst hz
   have hym := hsm z (List.mem_of_getElem? hy)
   show (true && (F219 z x == 0)) = true ↔ _
   rw [Bool.true_and, (before_eq hym hx).2, beq_iff_eq, hy]
   constructor
   ·intro e; rw [eq_ks hym hx e]
   ·intro e; cases e; rfl
  ·have hd : decide ((n : Int) < (l.length : Int)) = false := by simp; omega
   rw [hd]
   refine Ok.bind (P := fun _ => True) (Ok.guard (fun hg => absurd hg.1 (by simp)) fun _ => trivial) fun z _ => Ok.pure ⟨n, rfl, hat, ?_⟩
   rw [List.getElem?_eq_none (by omega)]
   simp
theorem At.uniq {l : List api_Part} {x : api_Part} {n m : Nat} (h : At l x n) (k : At l x m) : n = m := by
 rcases Nat.lt_trichotomy n m with e | e | e
 ·obtain ⟨y, hy⟩ : ∃ y, l[n]? = some y := ⟨_, List.getElem?_eq_getElem (by have := k.le; omega)⟩
  have := h.hi n y (Nat.le_refl _) hy
  have := k.lo n y e hy
  omega
 ·exact e
 ·obtain ⟨y, hy⟩ : ∃ y, l[m]? = some y := ⟨_, List.getElem?_eq_getElem (by have := h.le; omega)⟩
  have := k.hi m y (Nat.le_refl _) hy
  have := h.lo m y e hy
  omega
def insP (l : List api_Part) (n : Nat) (x : api_Part) : List api_Part := l.take n ++ (x :: l.drop n)
theorem insert_ok {l : List api_Part} {n : Nat} (hn : n ≤ l.length) (hl : l.length ≤ 1000) (x : api_Part) : F220s0 l (n : Int) [x] = some (insP l n x) := by
 refine Ok.eq ?_
 unfold F220s0
 refine (Ok.bndI (by omega) (by omega) (by omega)).bind fun _ _ => ?_
 refine Ok.cond (fun hc => by simp at hc) (fun _ => Ok.cond (fun hc => ?_) (fun _ => ?_))
 ·simp only [beq_iff_eq] at hc
  have e : n = l.length := by omega
  refine (Ok.appI (by simp; omega)).bind fun y hy => Ok.pure ?_
  rw [hy, insP, e]; simp
 ·refine (Ok.insI (by simp; omega)).mono fun y hy => ?_
  rw [hy, Int.toNat_natCast]; rfl
theorem delete_ok {l : List api_Part} {n : Nat} (hn : n ≤ l.length) (x : api_Part) : F221s0 (insP l n x) (n : Int) ((n : Int) + 1) = some l := by
 have hlen : (insP l n x).length = l.length + 1 := by simp [insP]; omega
 refine Ok.eq ?_
 unfold F221s0
 have e1 : ((n : Int) + 1).toNat = n + 1 := by omega
 have hdrop : (insP l n x).drop (n + 1) = l.drop n := by
  unfold insP
  rw [List.drop_append, List.drop_of_length_le (by simp; omega)]
  have : n + 1 - (l.take n).length = 1 := by simp; omega
  rw [this]; simp
 have htake : (insP l n x).take n = l.take n := by
  unfold insP
  rw [List.take_append_of_le_length (by simp; omega), List.take_take, Nat.min_self]
 refine (Ok.bnd3I (by omega) (by omega) (by omega) (by omega)).bind fun _ _ => Ok.cond (fun hc => ?_) (fun _ => ?_)
 ·simp only [beq_iff_eq] at hc; omega
 refine (Ok.bndI (by omega) (by omega) (by omega)).bind fun _ _ => (Ok.bndI (by omega) (by omega) (by omega)).bind fun _ _ => ?_
 simp only [Int.toNat_natCast, e1, hdrop, Nat.sub_zero]
 have hpl : ((l.drop n).take ((insP l n x).length - (n + 1))).length = l.length - n := by simp [hlen]
 have hpe : (l.drop n).take ((insP l n x).length - (n + 1)) = l.drop n := List.take_of_length_le (by simp [hlen])
 rw [hpe]
 have hdl : (l.drop n).length = l.length - n := by simp
 refine (Ok.appPI (by rw [hlen, hdl]; omega)).bind fun y hy => ?_
 have hyl : y.length = l.length + 1 := by rw [hy]; simp [hlen]; omega
 refine (Ok.bndI (by omega) (by rw [hlen, hdl]; omega) (by rw [hlen, hyl]; omega)).bind fun _ _ => Ok.pure ?_
 have e2 : n + (l.drop n).length = l.length := by rw [hdl]; omega
 rw [e2]
 unfold clrI
 simp only [Nat.zero_add]
 rw [List.take_append_of_le_length (by simp; omega), List.take_take, Nat.min_self, hy, htake, ← List.append_assoc, List.take_append_of_le_length (by simp), List.take_append_drop, List.take_length]
theorem insP_get {l : List api_Part} {n : Nat} (hn : n ≤ l.length) {x : api_Part} {j : Nat} {y : api_Part} (h : (insP l n x)[j]? = some y) : (j < n ∧ l[j]? = some y) ∨ (j = n ∧ y = x) ∨ (n < j ∧ l[j - 1]? = some y) := by
 unfold insP at h
 have ht : (l.take n).length = n := by simp; omega
 rw [List.getElem?_append] at h
 split at h
 ·rename_i h1
  rw [ht] at h1
  rw [List.getElem?_take, if_pos h1] at h
  exact .inl ⟨h1, h⟩
 ·rename_i h1
  rw [ht] at h1 h
  by_cases e : j = n
  ·subst e
   simp at h
   exact .inr (.inl ⟨rfl, h.symm⟩)
  ·obtain ⟨k, hk⟩ : ∃ k, j - n = k + 1 := ⟨j - n - 1, by omega⟩
   rw [hk, List.getElem?_cons_succ, List.getElem?_drop] at h
   refine .inr (.inr ⟨by omega, ?_⟩)
   rw [← h]; congr 1; omega
theorem insP_mem {l : List api_Part} {n : Nat} {x y : api_Part} (h : y ∈ insP l n x) : y = x ∨ y ∈ l := by
 unfold insP at h
 rcases List.mem_append.1 h with h | h
 ·exact .inr (List.mem_of_mem_take h)
 ·rcases List.mem_cons.1 h with h | h
  ·exact .inl h
  ·exact .inr (List.mem_of_mem_drop h)
theorem insP_ok {b : api_Board} (h : BoardOk b) {l : List api_Part} (hl : BrokenOk b l) {x : api_Part} (hx : PartIn b x) {n : Nat} (hat : At l x n) (hnot : l[n]? ≠ some x) (hlen : l.length < 32) : BrokenOk b (insP l n x) := by
 have hs := sorted_of h hl
 have hsm : ∀ y, y ∈ l → PartSmall y := fun y hy => (hl.mem y hy).small h
 have hxs := hx.small h
 refine ⟨by simp [insP]; omega, fun y hy => ?_, fun j y z hy hz => ?_⟩
 ·rcases insP_mem hy with rfl | hy
  ·exact hx
  ·exact hl.mem y hy
 ·rcases insP_get hat.le hy with ⟨a1, a2⟩ | ⟨a1, a2⟩ | ⟨a1, a2⟩ <;> rcases insP_get hat.le hz with ⟨b1, b2⟩ | ⟨b1, b2⟩ | ⟨b1, b2⟩
  ·exact hl.asc j y z a2 b2
  ·subst b2
   exact (lt_ks (hsm y (List.mem_of_getElem? a2)) hxs).2 (hat.lo j y a1 a2)
  ·omega
  ·omega
  ·omega
  ·subst a2
   have e : j + 1 - 1 = n := by omega
   rw [e] at b2
   have hzm := hsm z (List.mem_of_getElem? b2)
   refine (lt_ks hxs hzm).2 ?_
   have h1 := hat.hi n z (Nat.le_refl _) b2
   rcases Int.lt_or_eq_of_le h1 with h1 | h1
   ·exact h1
   ·exact absurd (by rw [b2, eq_ks hxs hzm h1]) hnot
  ·omega
  ·omega
  ·have e : j + 1 - 1 = j - 1 + 1 := by omega
   rw [e] at b2
   exact hl.asc (j - 1) y z a2 b2
theorem At.ins {l : List api_Part} {x : api_Part} {n : Nat} (hat : At l x n) : At (insP l n x) x n := by
 refine ⟨by have := hat.le; simp [insP]; omega, fun j y hj hy => ?_, fun j y hj hy => ?_⟩
 ·rcases insP_get hat.le hy with ⟨_, a2⟩ | ⟨a1, _⟩ | ⟨a1, _⟩
  ·exact hat.lo j y hj a2
  ·omega
  ·omega
 ·rcases insP_get hat.le hy with ⟨a1, _⟩ | ⟨_, a2⟩ | ⟨a1, a2⟩
  ·omega
  ·subst a2; exact Int.le_refl _
  ·exact hat.hi (j - 1) y (by omega) a2
theorem insP_at {l : List api_Part} {n : Nat} (hn : n ≤ l.length) (x : api_Part) : (insP l n x)[n]? = some x := by
 unfold insP
 rw [List.getElem?_append_right (by simp; omega)]
 have : n - (l.take n).length = 0 := by simp; omega
 rw [this]; rfl
def isSrc (x : api_Part) : Bool := x.Kind == 1
def failS (ss : List api_Running) (x : api_Part) (st : Int) : List api_Running := if x.Kind = 1 then ss.set x.Number.toNat ⟨st, (ss.getD x.Number.toNat default).Since, (ss.getD x.Number.toNat default).Frequency, (ss.getD x.Number.toNat default).Phase⟩ else ss
theorem failS_length (ss : List api_Running) (x : api_Part) (st : Int) : (failS ss x st).length = ss.length := by unfold failS; split <;> simp
theorem failS_ok {ss : List api_Running} (h : ∀ x, x ∈ ss → RunOk x) {x : api_Part} (hx : x.Kind = 1 → 0 ≤ x.Number ∧ x.Number < ss.length) {st : Int} (hst : 0 ≤ st ∧ st ≤ 3) : ∀ y, y ∈ failS ss x st → RunOk y := by
 unfold failS
 split
 ·rename_i hk
  have hn := hx hk
  obtain ⟨u, hu⟩ : ∃ u, ss[x.Number.toNat]? = some u := ⟨_, List.getElem?_eq_getElem (by omega)⟩
  have hd : ss.getD x.Number.toNat default = u := by simp [List.getD, hu]
  intro y hy
  rcases List.mem_or_eq_of_mem_set hy with hy | hy
  ·exact h y hy
  ·subst hy
   rw [hd]
   have := h u (List.mem_of_getElem? hu)
   exact ⟨hst, this.2⟩
 ·exact h
theorem fail_eq {b : api_Board} (h : BoardOk b) {p : api_Power} (hp : StateOk b p) {x : api_Part} (hx : PartIn b x) (t : Int) {n : Nat} (hat : At p.Broken x n) (hnot : p.Broken[n]? ≠ some x) (hlen : p.Broken.length < 32) :
  F149s1 ⟨b, p, t⟩ x true = some (0, ⟨b, ⟨p.Closed, failS p.Sources x 3, p.Limits, insP p.Broken n x⟩, t⟩) := by
 have hs := sorted_of h hp.brk
 have hsm : ∀ y, y ∈ p.Broken → PartSmall y := fun y hy => (hp.brk.mem y hy).small h
 refine Ok.eq ?_
 unfold F149s1
 refine (search_ok hs hsm (hx.small h) (by omega)).bind fun y hy => ?_
 obtain ⟨m, e1, hat2, hf⟩ := hy
 have e2 := hat.uniq hat2
 subst e2
 have hf2 : y.2 = false := by
  cases hb : y.2 with
  | false => rfl
  | true => exact absurd (hf.1 hb) hnot
 refine Ok.cond (fun hc => by rw [hf2] at hc; simp at hc) (fun _ => Ok.cond (fun hc => ?_) (fun _ => ?_))
 ·simp [c149s1_0] at hc; omega
 refine Ok.andThen (A := fun z => z = insP p.Broken n x) (B := fun (_ : Unit) => False) ?_ ?_ (fun _ h => h.elim)
 ·unfold F149s1_m0
  rw [e1, insert_ok hat.le (by omega)]
  exact Ok.nextE rfl
 ·rintro z rfl
  unfold failS
  refine Ok.cond (fun hk => ?_) (fun hk => ?_)
  ·simp only [beq_iff_eq] at hk
   have hn : 0 ≤ x.Number ∧ x.Number < p.Sources.length := by
    have := hp.nso
    unfold PartIn at hx
    omega
   rw [if_pos hk]
   refine (Ok.getI hn.1 hn.2).bind fun u hu => (Ok.setI hn.1 hn.2).bind fun v hv => ?_
   have hd : p.Sources.getD x.Number.toNat default = u := by simp [List.getD, hu]
   have hvg : v[x.Number.toNat]? = some (⟨0, u.Since, u.Frequency, u.Phase⟩ : api_Running) := by rw [hv, List.getElem?_set_self (by omega)]
   simp only [cond_true]
   refine Ok.bind (P := fun w => w = (⟨0, u.Since, u.Frequency, u.Phase⟩ : api_Running)) ((Ok.getI hn.1 (by rw [hv]; simpa using hn.2)).mono fun w hw => by rw [hvg] at hw; cases hw; rfl) fun w hw => ?_
   subst hw
   refine (Ok.setI hn.1 (by rw [hv]; simpa using hn.2)).bind fun z hz => Ok.pure ?_
   rw [hz, hv, List.set_set, hd]
  ·simp only [beq_eq_false_iff_ne, ne_eq] at hk
   rw [if_neg hk]
   exact Ok.pure rfl
theorem mend_eq {b : api_Board} (h : BoardOk b) {p : api_Power} (hbl : BrokenOk b p.Broken) {q : api_Power} {x : api_Part} (hx : PartIn b x) (t : Int) {n : Nat} (hat : At p.Broken x n) (hnot : p.Broken[n]? ≠ some x) (hlen : p.Broken.length < 32)
  (hq : q.Broken = insP p.Broken n x) (hqs : q.Sources.length = b.Sources.length) : F149s1 ⟨b, q, t⟩ x false = some (0, ⟨b, ⟨q.Closed, failS q.Sources x 0, q.Limits, p.Broken⟩, t⟩) := by
 have hbl2 : BrokenOk b q.Broken := by rw [hq]; exact insP_ok h hbl hx hat hnot hlen
 have hs := sorted_of h hbl2
 have hsm : ∀ y, y ∈ q.Broken → PartSmall y := fun y hy => (hbl2.mem y hy).small h
 refine Ok.eq ?_
 unfold F149s1
 refine (search_ok hs hsm (hx.small h) (by have := hbl2.len; omega)).bind fun y hy => ?_
 obtain ⟨m, e1, hat2, hf⟩ := hy
 rw [hq] at hat2 hf
 have e2 := hat.ins.uniq hat2
 subst e2
 have hf2 : y.2 = true := hf.2 (insP_at hat.le x)
 refine Ok.cond (fun hc => by rw [hf2] at hc; simp at hc) (fun _ => Ok.cond (fun hc => ?_) (fun _ => ?_))
 ·simp [c149s1_0] at hc
 refine Ok.andThen (A := fun z => z = p.Broken) (B := fun (_ : Unit) => False) ?_ ?_ (fun _ h => h.elim)
 ·unfold F149s1_m0
  have hle := hat.le
  rw [e1, w64_in (by omega)]
  simp only [cond_false, hq]
  rw [delete_ok hat.le]
  exact Ok.nextE rfl
 ·rintro z rfl
  unfold failS
  refine Ok.cond (fun hk => ?_) (fun hk => ?_)
  ·simp only [beq_iff_eq] at hk
   have hn : 0 ≤ x.Number ∧ x.Number < q.Sources.length := by
    unfold PartIn at hx
    omega
   rw [if_pos hk]
   refine (Ok.getI hn.1 hn.2).bind fun u hu => (Ok.setI hn.1 hn.2).bind fun v hv => ?_
   have hd : q.Sources.getD x.Number.toNat default = u := by simp [List.getD, hu]
   simp only [cond_false]
   exact Ok.pure (by rw [hv, hd])
  ·simp only [beq_eq_false_iff_ne, ne_eq] at hk
   rw [if_neg hk]
   exact Ok.pure rfl
end Go.Proofs.YtkngbnedbgndoaaGreat
