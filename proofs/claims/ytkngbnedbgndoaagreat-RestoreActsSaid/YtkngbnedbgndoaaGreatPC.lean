import Derived.Test.YtkngbnedbgndoaaGreatPB
namespace Go.Proofs.YtkngbnedbgndoaaGreat
open Go.SL
def RunOk (x : api_Running) : Prop := (0 ≤ x.State ∧ x.State ≤ 3) ∧ (0 ≤ x.Since ∧ x.Since ≤ 2147483648) ∧ (0 ≤ x.Frequency ∧ x.Frequency ≤ 6000) ∧ 0 ≤ x.Phase ∧ x.Phase ≤ 3599
def PartIn (b : api_Board) (x : api_Part) : Prop :=
 0 ≤ x.Number ∧ ((x.Kind = 1 ∧ x.Number < b.Sources.length) ∨ (x.Kind = 2 ∧ x.Number < b.Breakers.length) ∨ (x.Kind = 3 ∧ x.Number < b.Buses) ∨ (x.Kind = 4 ∧ x.Number < b.Consumers.length))
def PartLt (x y : api_Part) : Prop := x.Kind < y.Kind ∨ x.Kind = y.Kind ∧ x.Number < y.Number
structure BrokenOk (b : api_Board) (l : List api_Part) : Prop where
 len : l.length ≤ 32
 mem : ∀ x, x ∈ l → PartIn b x
 asc : ∀ (j : Nat) x y, l[j]? = some x → l[j + 1]? = some y → PartLt x y
def feeds (l : List api_Breaker) (c : List Bool) (i : Nat) : List (api_Breaker × Bool) := (l.zip c).filter fun z => (z.1.Kind == 3 && z.1.B == (i : Int)) && z.2
structure StateOk (b : api_Board) (p : api_Power) : Prop where
 ncl : p.Closed.length = b.Breakers.length
 nso : p.Sources.length = b.Sources.length
 nli : p.Limits.length = b.Consumers.length
 run : ∀ x, x ∈ p.Sources → RunOk x
 lim : ∀ (i : Nat) n c, p.Limits[i]? = some n → b.Consumers[i]? = some c → 0 ≤ n ∧ n ≤ c.Load
 one : ∀ i, i < b.Consumers.length → (feeds b.Breakers p.Closed i).length ≤ 1
 brk : BrokenOk b p.Broken
theorem running_ok {x : api_Running} (h : RunOk x) : F131 x = true := by
 obtain ⟨h1, h2, h3, h4⟩ := h
 simp only [F131, Bool.and_eq_true, in_iff]
 omega
theorem notRunning (l : List api_Running) (h : l.length ≤ 9223372036854775807) : F129s0 l = some (l.any fun x => !F131 x) := by
 unfold F129s0 F211s0
 rw [search_eq (fun y => !F131 y) (fun i y => rfl) l h]
 simp only [Option.bind_some, idxI_any]
theorem cmp_eq (x y : Int) : F210 x y = if x < y then -1 else if x > y then 1 else 0 := by
 have h : ∀ z : Int, F248 z = false := fun z => by simp [F248]
 unfold F210
 rw [h x, h y]
 by_cases h1 : x < y
 ·simp [h1]
 ·by_cases h2 : y < x <;> simp [h1, h2]
theorem or_eq (x y : Int) : F209 [x, y] = some (if x = 0 then y else x) := by
 unfold F209
 by_cases h : x = 0
 ·subst h
  by_cases h2 : y = 0
  ·subst h2; rfl
  ·have : (y != 0) = true := by simpa using h2
   simp [foldI, F209_l0, andThen, this]
 ·have : (x != 0) = true := by simpa using h
  simp [foldI, F209_l0, andThen, this, h]
theorem size_in {b : api_Board} (h : BoardOk b) {x : api_Part} (hx : PartIn b x) : F132 x.Number 0 (w64 ((F208 b x.Kind) - 1)) = true := by
 have h1 := h.buses
 have h2 := h.brl
 have h3 := h.sol
 have h4 := h.col
 obtain ⟨hn, hk⟩ := hx
 have hsz : ∃ n, F208 b x.Kind = n ∧ x.Number < n ∧ n ≤ 100 := by
  unfold F208
  rcases hk with ⟨k, hk⟩ | ⟨k, hk⟩ | ⟨k, hk⟩ | ⟨k, hk⟩ <;> rw [k] <;> exact ⟨_, rfl, by simpa using hk, by simp; omega⟩
 obtain ⟨n, e, g1, g2⟩ := hsz
 rw [e, in_iff, w64_in (by omega)]
 omega
theorem broken_ok {b : api_Board} (h : BoardOk b) {l : List api_Part} (hl : BrokenOk b l) : F128 b l = some true := by
 have hlen := hl.len
 unfold F128
 have hf : foldI (F128_l0 b l) l 0 () = some (.next ()) := by
  refine all_fold _ _ fun j x hj => ?_
  rw [Nat.zero_add]
  have hjl := (List.getElem?_eq_some_iff.1 hj).1
  have hcnt : cnt 0 j = (j : Int) := cnt0 (by omega)
  have hin := size_in h (hl.mem x (List.mem_of_getElem? hj))
  unfold F128_l0 c128_1
  rw [hcnt, hin]
  cases j with
  | zero => simp [guardO, allEqB]
  | succ j =>
   obtain ⟨p, hp⟩ : ∃ p, l[j]? = some p := ⟨_, List.getElem?_eq_getElem (by omega)⟩
   have hlt := hl.asc j p x hp hj
   have e : w64 ((((j + 1 : Nat) : Int)) - 1) = (j : Int) := by rw [w64_in (by omega)]; omega
   have hg : getI l (j : Int) = some p := by unfold getI; simp [hp]
   have hd : decide (((j + 1 : Nat) : Int) > 0) = true := decide_eq_true (by omega)
   have ho : F209 [F210 p.Kind x.Kind, F210 p.Number x.Number] = some (-1) := by
    rw [or_eq, cmp_eq, cmp_eq]
    rcases hlt with h1 | ⟨h1, h2⟩
    ·simp [h1]
    ·simp [h1, h2]
   rw [e, hg, hd]
   simp [guardO, allEqB, ho]
 rw [hf]
 have : decide ((l.length : Int) ≤ 32) = true := by simp; omega
 simp [andThen, this]
theorem feeds_take {l : List api_Breaker} {c : List Bool} {j : Nat} {x : api_Breaker} {v : Bool} (hx : l[j]? = some x) (hv : c[j]? = some v) (i : Nat) :
  feeds (l.take (j + 1)) (c.take (j + 1)) i = feeds (l.take j) (c.take j) i ++ if ((x.Kind == 3 && x.B == (i : Int)) && v) = true then [(x, v)] else [] := by
 unfold feeds
 rw [take_succ' hx, take_succ' hv, List.zip_append (by
  have h1 := (List.getElem?_eq_some_iff.1 hx).1
  have h2 := (List.getElem?_eq_some_iff.1 hv).1
  simp; omega), List.filter_append]
 congr 1
 simp only [List.zip_cons_cons, List.zip_nil_right, List.filter_cons, List.filter_nil]
theorem closed_eq {b : api_Board} (h : BoardOk b) {p : api_Power} (hc : p.Closed.length = b.Breakers.length) (i : Nat) : F133 b p (i : Int) = some (((feeds b.Breakers p.Closed i).length : Nat) : Int) := by
 refine Ok.eq ?_
 unfold F133
 have hb := h.brl
 refine Ok.andThen (A := fun s => s = (((feeds b.Breakers p.Closed i).length : Nat) : Int)) (B := fun (_ : Unit) => False) ?_ (fun s hs => Ok.pure hs) (fun _ h => h.elim)
 refine Ok.foldI0 (I := fun j s => s = (((feeds (b.Breakers.take j) (p.Closed.take j) i).length : Nat) : Int)) ?_ (fun j x s hx hs => ?_) fun s hs => ?_
 ·simp [feeds]
 ·have hj := (List.getElem?_eq_some_iff.1 hx).1
  obtain ⟨v, hv⟩ : ∃ v, p.Closed[j]? = some v := ⟨_, List.getElem?_eq_getElem (by omega)⟩
  have hcnt : cnt 0 j = (j : Int) := cnt0 (by omega)
  have hg : getI p.Closed (j : Int) = some v := by unfold getI; simp [hv]
  have hle : (feeds (b.Breakers.take j) (p.Closed.take j) i).length ≤ 24 := by
   have h1 : (feeds (b.Breakers.take j) (p.Closed.take j) i).length ≤ ((b.Breakers.take j).zip (p.Closed.take j)).length := List.length_filter_le _ _
   simp at h1; omega
  subst hs
  unfold F133_l0 c133_2
  rw [hcnt, hg, feeds_take hx hv]
  cases hk : (x.Kind == 3 && x.B == (i : Int)) with
  | false =>
   simp only [guardO, allEqB, Bool.false_and]
   exact Ok.next (by simp)
  | true =>
   simp only [guardO, allEqB, Bool.true_and]
   cases v with
   | false => exact Ok.next (by simp)
   | true =>
    refine Ok.next ?_
    show w64 _ = _
    rw [w64_in (by omega)]
    simp
 ·rw [List.take_length, ← hc, List.take_length] at hs
  exact hs
theorem state_ok {b : api_Board} (h : BoardOk b) {p : api_Power} (hp : StateOk b p) : F65 b p = some 0 := by
 refine Ok.eq ?_
 unfold F65
 have h1 := hp.ncl
 have h2 := hp.nso
 have h3 := hp.nli
 have h4 := h.col
 have h5 := h.sol
 rw [check_ok h]
 simp only [Option.bind_some]
 have c0 : c65_0 b p = false := by
  simp [c65_0, h1, h2, h3]
 have c1 : ((0 : Int) != 0) = false := rfl
 rw [c1, c0, broken_ok h hp.brk]
 simp only [cond_false, Option.bind_some]
 have hr : (p.Sources.any fun x => !F131 x) = false := by
  rw [List.any_eq_false]
  intro x hx
  rw [running_ok (hp.run x hx)]; simp
 have : guardO [(true, true)] (F129s0 p.Sources) default = some false := by
  rw [notRunning _ (by omega), hr]; rfl
 rw [this]
 simp only [Option.bind_some]
 refine Ok.andThen (A := fun s => s = true) (B := fun (_ : Unit) => False) ?_ ?_ (fun _ h => h.elim)
 ·refine Ok.foldI0 (I := fun _ s => s = true) rfl (fun j x s hx hs => ?_) fun _ h => h
  subst hs
  have hj := (List.getElem?_eq_some_iff.1 hx).1
  obtain ⟨c, hc⟩ : ∃ c, b.Consumers[j]? = some c := ⟨_, List.getElem?_eq_getElem (by omega)⟩
  have hcnt : cnt 0 j = (j : Int) := cnt0 (by omega)
  have hg : getI b.Consumers (j : Int) = some c := by unfold getI; simp [hc]
  have hl := hp.lim j x c hx hc
  have hone := hp.one j (by omega)
  unfold F65_l0
  rw [hcnt, hg]
  have e1 : guardO [(true, true)] (some c) default = some c := rfl
  rw [e1]
  simp only [Option.bind_some]
  have e2 : (true && F132 x 0 c.Load) = true := by rw [in_t hl]; rfl
  rw [e2, closed_eq h h1]
  have e3 : guardO [(true, true)] (some (((feeds b.Breakers p.Closed j).length : Nat) : Int)) default = some (((feeds b.Breakers p.Closed j).length : Nat) : Int) := rfl
  rw [e3]
  simp only [Option.bind_some]
  refine Ok.next ?_
  simp; omega
 ·rintro s rfl
  exact Ok.pure rfl
end Go.Proofs.YtkngbnedbgndoaaGreat
