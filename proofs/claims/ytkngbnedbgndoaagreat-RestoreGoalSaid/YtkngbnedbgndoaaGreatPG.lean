import Derived.Test.YtkngbnedbgndoaaGreatPF
namespace Go.Proofs.YtkngbnedbgndoaaGreat
open Go.SL
theorem app0 {α : Type} {B : Nat} {l : List α} (h : l.length * B ≤ 140737488355328) : appI B [] l = some l := by
 unfold appI
 have : decide ((([] : List α).length + l.length) * B ≤ 140737488355328) = true := by simpa using h
 rw [this]; rfl
theorem clone_eq {b : api_Board} (h : BoardOk b) {p : api_Power} (hp : StateOk b p) : F70 p = some p := by
 have h1 := hp.ncl
 have h2 := hp.nso
 have h3 := hp.nli
 have h4 := hp.brk.len
 have h5 := h.brl
 have h6 := h.sol
 have h7 := h.col
 unfold F70 F138 F139 F140 F141
 rw [app0 (by omega), app0 (by omega), app0 (by omega), app0 (by omega)]
 rfl
structure Lens (p : api_Power) : Prop where
 c : p.Closed.length ≤ 1000
 s : p.Sources.length ≤ 1000
 l : p.Limits.length ≤ 1000
 k : p.Broken.length ≤ 1000
theorem StateOk.lens {b : api_Board} (h : BoardOk b) {p : api_Power} (hp : StateOk b p) : Lens p := by
 have h1 := hp.ncl
 have h2 := hp.nso
 have h3 := hp.nli
 have h4 := hp.brk.len
 have h5 := h.brl
 have h6 := h.sol
 have h7 := h.col
 exact ⟨by omega, by omega, by omega, by omega⟩
theorem bools_refl (l : List Bool) (h : l.length ≤ 9223372036854775807) : F21 l l = some true := by
 unfold F21
 rw [all_fold l 0 fun j x hj => ?_]
 ·simp [andThen]
 ·have hjl := (List.getElem?_eq_some_iff.1 hj).1
  unfold F21_l0
  rw [Nat.zero_add, cnt0 (by omega), getI_nat hj]
  simp
def tune (like x : api_Running) : api_Running := ⟨x.State, x.Since, like.Frequency, like.Phase⟩
def setL (like : api_Running) (idx : List Int) (ss : List api_Running) : List api_Running := idx.foldl (fun s i => s.set i.toNat (tune like (s.getD i.toNat default))) ss
def followL (b : api_Board) (p : api_Power) : List api_Running := (islands b p).foldl (fun s x => match x.Sources with | [] => s | i :: _ => setL (p.Sources.getD i.toNat default) x.Sources s) p.Sources
def fstep (p : api_Power) (s : List api_Running) (x : api_Island) : List api_Running := match x.Sources with
 | [] => s
 | i :: _ => setL (p.Sources.getD i.toNat default) x.Sources s
end Go.Proofs.YtkngbnedbgndoaaGreat
