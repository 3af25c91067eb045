import Derived.Test.YtkngbnedbgndoaaGreatPE
namespace Go.Proofs.YtkngbnedbgndoaaGreat
open Go.SL
def full (x : api_Island) : Bool := !((x.Buses.length : Int) == 0)
def grpOf (b : api_Board) (p : api_Power) (o : Option Int) : Option Int := o.map fun a => (groups b p).getD a.toNat 0
def busesOf (b : api_Board) (p : api_Power) (n f : Nat) : List Int := ((List.range n).filter fun (i : Nat) => (groups b p).getD i 0 == (f : Int)).map fun (i : Nat) => (i : Int)
def srcsOf (b : api_Board) (p : api_Power) (n f : Nat) : List Int := ((List.range n).filter fun (i : Nat) => grpOf b p (conO b p (i : Int)) == some (f : Int)).map fun (i : Nat) => (i : Int)
def consOf (b : api_Board) (p : api_Power) (n f : Nat) : List Int := ((List.range n).filter fun (i : Nat) => grpOf b p (ledO b p 3 (i : Int)) == some (f : Int)).map fun (i : Nat) => (i : Int)
def isl (b : api_Board) (p : api_Power) (f : Nat) : api_Island := ⟨busesOf b p b.Buses.toNat f, srcsOf b p b.Sources.length f, consOf b p b.Consumers.length f⟩
def islands (b : api_Board) (p : api_Power) : List api_Island := ((List.range b.Buses.toNat).map (isl b p)).filter full
end Go.Proofs.YtkngbnedbgndoaaGreat
