import Derived.Test.YtkngbnedbgndoaaGreatPD
namespace Go.Proofs.YtkngbnedbgndoaaGreat
open Go.SL
def ledO (b : api_Board) (p : api_Power) (k i : Int) : Option Int := ((b.Breakers.zip p.Closed).find? fun z => (z.1.Kind == k && z.1.B == i) && z.2).map (·.1.A)
def flag (o : Option Int) : Int × Bool := match o with
 | some a => (a, true)
 | none => (0, false)
def conO (b : api_Board) (p : api_Power) (i : Int) : Option Int :=
 if 0 ≤ i ∧ i < p.Sources.length ∧ (p.Sources.getD i.toNat default).State = 2 then ledO b p 2 i else none
def gstep (s : List Int) (z : api_Breaker × Bool) : List Int :=
 if z.1.Kind = 1 ∧ z.2 = true then (s.set z.1.A.toNat (min (s.getD z.1.A.toNat 0) (s.getD z.1.B.toNat 0))).set z.1.B.toNat (min (s.getD z.1.A.toNat 0) (s.getD z.1.B.toNat 0)) else s
def ground (l : List (api_Breaker × Bool)) (s : List Int) : List Int := l.foldl gstep s
def rangeI (n : Nat) : List Int := (List.range n).map fun (i : Nat) => (i : Int)
def groups (b : api_Board) (p : api_Power) : List Int := (List.range b.Buses.toNat).foldl (fun s _ => ground (b.Breakers.zip p.Closed) s) (rangeI b.Buses.toNat)
end Go.Proofs.YtkngbnedbgndoaaGreat
