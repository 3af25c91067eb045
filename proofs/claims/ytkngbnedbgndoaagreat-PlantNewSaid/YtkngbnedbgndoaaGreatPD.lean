import Derived.Test.YtkngbnedbgndoaaGreatPC
namespace Go.Proofs.YtkngbnedbgndoaaGreat
open Go.SL
theorem getI_nat {α : Type} {l : List α} {j : Nat} {x : α} (h : l[j]? = some x) : getI l (j : Int) = some x := by unfold getI; simp [h]
end Go.Proofs.YtkngbnedbgndoaaGreat
