import Derived.Test.YtkngbnedbgndoaaGreatPG
namespace Go.Proofs.YtkngbnedbgndoaaGreat
open Go.SL
def brk (l : List api_Part) (k n : Int) : Bool := l.any fun x => k == x.Kind && n == x.Number
theorem broken_eq {p : api_Power} (h : p.Broken.length ≤ 1000) (k n : Int) : F134 p k n = some (brk p.Broken k n) := by
 unfold F134 F212 F249
 rw [search_eq (fun x : api_Part => (k == x.Kind) && ((n == x.Number) && true)) (fun i y => rfl) p.Broken (by omega)]
 simp only [Option.bind_some, idxI_any, brk, Bool.and_true]
def brkOf (b : api_Board) (i : Int) : Int := idxI (fun x : api_Breaker => x.Kind == 2 && x.B == i) b.Breakers
theorem breaker_eq {b : api_Board} (h : BoardOk b) (i : Int) : F67 b i = some (brkOf b i) := by
 have hb := h.brl
 unfold F67 F135s1
 refine Ok.eq ?_
 refine Ok.bind (P := fun y => y = (brkOf b i, i)) ?_ (fun y hy => Ok.pure (by rw [hy]))
 have key := search_from (f := fun n (a : api_Breaker) (z : Unit) => (bif (a.Kind == 2 && a.B == i) then some (.ret (cnt 0 n)) else some (.next ()) : Option (Ctl Unit Int))) (p := fun x : api_Breaker => x.Kind == 2 && x.B == i) (fun _ _ => rfl) b.Breakers 0 (by omega)
 have : ∀ (xs : List api_Breaker) (k : Nat), foldI (F135s1_l0 i) xs k () = match foldI (fun n (a : api_Breaker) (z : Unit) => (bif (a.Kind == 2 && a.B == i) then some (.ret (cnt 0 n)) else some (.next ()) : Option (Ctl Unit Int))) xs k () with
   | some (.ret r) => some (.ret (r, i))
   | some (.next _) => some (.next ())
   | some (.brk _) => some (.brk ())
   | none => none := by
  intro xs
  induction xs with
  | nil => intro k; rfl
  | cons x xs ih =>
   intro k
   simp only [foldI, F135s1_l0, F136s0]
   cases hq : (x.Kind == 2 && x.B == i) with
   | true => rfl
   | false => simp only [cond_false]; exact ih (k + 1)
 rw [this, key]
 unfold brkOf idxI
 cases b.Breakers.findIdx? (fun x : api_Breaker => x.Kind == 2 && x.B == i) with
 | none => exact Ok.pure rfl
 | some j => exact Ok.pure rfl
theorem brkOf_spec {b : api_Board} (h : BoardOk b) {i : Int} (h0 : 0 ≤ i) (h1 : i < b.Sources.length) : ∃ (j : Nat) (x : api_Breaker), brkOf b i = (j : Int) ∧ b.Breakers[j]? = some x ∧ x.Kind = 2 ∧ x.B = i ∧ j < 24 := by
 have hone := h.one i.toNat (by omega)
 have hb := h.brl
 unfold brkOf idxI
 cases hf : b.Breakers.findIdx? (fun x : api_Breaker => x.Kind == 2 && x.B == i) with
 | none =>
  exfalso
  rw [List.findIdx?_eq_none_iff] at hf
  have : brs b.Breakers 2 i.toNat = [] := brs_none fun x hx hk e => by
   have := hf x hx
   simp [hk] at this
   omega
  rw [this] at hone; simp at hone
 | some j =>
  rw [List.findIdx?_eq_some_iff_getElem] at hf
  obtain ⟨hj, hp, _⟩ := hf
  simp only [Bool.and_eq_true, beq_iff_eq] at hp
  exact ⟨j, b.Breakers[j], rfl, List.getElem?_eq_getElem hj, hp.1, hp.2, by omega⟩
def soundB (b : api_Board) (l : List api_Part) (i : Int) : Bool :=
 let x := b.Breakers.getD i.toNat default
 (!brk l 2 i && !brk l 3 x.A) && ((x.Kind != 1) || !brk l 3 x.B)
def usableB (b : api_Board) (p : api_Power) (i : Int) : Bool := (soundB b p.Broken (brkOf b i) && !brk p.Broken 1 i) && ((p.Sources.getD i.toNat default).State != 3)
def lit (b : api_Board) (u : Int → Bool) (s : List Bool) (i : Nat) : List Bool := if u (i : Int) then s.set (b.Breakers.getD (brkOf b (i : Int)).toNat default).A.toNat true else s
def spread (sd : Int → Bool) (s : List Bool) (z : api_Breaker × Nat) : List Bool :=
 if z.1.Kind = 1 ∧ sd (z.2 : Int) = true then (s.set z.1.A.toNat (s.getD z.1.A.toNat false || s.getD z.1.B.toNat false)).set z.1.B.toNat (s.getD z.1.A.toNat false || s.getD z.1.B.toNat false) else s
def round1 (sd : Int → Bool) (l : List (api_Breaker × Nat)) (s : List Bool) : List Bool := l.foldl (spread sd) s
def lits (b : api_Board) (u : Int → Bool) : List Bool := (List.range b.Sources.length).foldl (lit b u) (List.replicate b.Buses.toNat false)
def goalL (b : api_Board) (u sd : Int → Bool) : List Bool := (List.range b.Buses.toNat).foldl (fun s _ => round1 sd b.Breakers.zipIdx s) (lits b u)
def LeB (s t : List Bool) : Prop := s.length = t.length ∧ ∀ i : Nat, s[i]? = some true → t[i]? = some true
end Go.Proofs.YtkngbnedbgndoaaGreat
