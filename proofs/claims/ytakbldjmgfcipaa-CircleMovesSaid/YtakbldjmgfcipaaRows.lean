/-
  No cell of these rows narrows 'for every input' (looked for: loops, veiled, ifaces, maps, wideKeys, modest, calm, conditions, laid).
  DERIVED. THE GIVEN ROWS OF THIS SEAT. 6 by the template 'for every input the law returns true; each argument reads behind the call as it read before'; 0 by the template 'total and deterministic' (their statements: YtakbldjmgfcipaaTotals.lean).
  GIVEN WITH THE SEED: the statements are not yours to turn. If you find one false, say at which input.
  Laid BY PROGRAM, IN A SANDBOX (cutbox-rows.mjs): the forced cells as the released guide's own fill.sh prints them over the translation a8486ef20f05d9ee… (all of the seat's roots in one cut). By AI agents, Wed Nov 11 2026. No macro, syntax, notation, axiom, sorry.
-/
import Derived.Test.YtakbldjmgfcipaaChecked
import GoSem.Claim
import GoSem.ClaimJoined
import GoSem.ClaimMapViews
import Derived.JoinedTies
import Derived.KernelRfl
namespace Go.Proofs.Ytakbldjmgfcipaa
/- THE CELL 'sum', in the pinned program and in every row, IS THE sha256 OF THE DUMP (.gsa) THAT YtakbldjmgfcipaaProg.lean LOADS. Nothing in Lean hashes anything: it is a label: what it is worth is what the hold of that sum in a sandbox is worth. -/
noncomputable def Try.pinned : Pinned := { name := "ytakbldjmgfcipaa", sum := "a8486ef20f05d9ee7c05b58b92fc70cdbf3d9ae96e4caf210b3bd5f620a49cc8", checked := Try.checked }
namespace Rows
def none {H : Type} : Left H := { results := [], args := [] }

/-- 'dynposlaw29.CircleExact': WHATEVER THE INPUT: true; the input reads as it did. -/
def circleExactSpec : ChangeSpec := { name := "circleExact", fn := fun _ => fun
  | [d1, d2, d3, d4] => { results := [.lit (.bool true)], args := [d1, d2, d3, d4] }
  | _ => none }
def circleExactRow : OpenClaim := { program := "ytakbldjmgfcipaa", sum := "a8486ef20f05d9ee7c05b58b92fc70cdbf3d9ae96e4caf210b3bd5f620a49cc8", func := "dynpos/dynposlaw29.CircleExact", spec := "circleExact", apart := false }
def CircleExactSaid : Prop := circleExactRow.holds Try.pinned (OpenSpec.ofChange circleExactSpec)

/-- ITS FALSE NEIGHBOUR: 'it returns false'. Refute it at one input. -/
def circleExactWrong : ChangeSpec := { name := "circleExact", fn := fun _ => fun
  | [d1, d2, d3, d4] => { results := [.lit (.bool false)], args := [d1, d2, d3, d4] }
  | _ => none }
def CircleExactWrongFalsely : Prop := circleExactRow.holds Try.pinned (OpenSpec.ofChange circleExactWrong)

/-- 'dynposlaw29.CircleCovers': WHATEVER THE INPUT: true; the input reads as it did. -/
def circleCoversSpec : ChangeSpec := { name := "circleCovers", fn := fun _ => fun
  | [d1, d2, d3] => { results := [.lit (.bool true)], args := [d1, d2, d3] }
  | _ => none }
def circleCoversRow : OpenClaim := { program := "ytakbldjmgfcipaa", sum := "a8486ef20f05d9ee7c05b58b92fc70cdbf3d9ae96e4caf210b3bd5f620a49cc8", func := "dynpos/dynposlaw29.CircleCovers", spec := "circleCovers", apart := false }
def CircleCoversSaid : Prop := circleCoversRow.holds Try.pinned (OpenSpec.ofChange circleCoversSpec)

/-- ITS FALSE NEIGHBOUR: 'it returns false'. Refute it at one input. -/
def circleCoversWrong : ChangeSpec := { name := "circleCovers", fn := fun _ => fun
  | [d1, d2, d3] => { results := [.lit (.bool false)], args := [d1, d2, d3] }
  | _ => none }
def CircleCoversWrongFalsely : Prop := circleCoversRow.holds Try.pinned (OpenSpec.ofChange circleCoversWrong)

/-- 'dynposlaw29.CircleGrows': WHATEVER THE INPUT: true; the input reads as it did. -/
def circleGrowsSpec : ChangeSpec := { name := "circleGrows", fn := fun _ => fun
  | [d1, d2] => { results := [.lit (.bool true)], args := [d1, d2] }
  | _ => none }
def circleGrowsRow : OpenClaim := { program := "ytakbldjmgfcipaa", sum := "a8486ef20f05d9ee7c05b58b92fc70cdbf3d9ae96e4caf210b3bd5f620a49cc8", func := "dynpos/dynposlaw29.CircleGrows", spec := "circleGrows", apart := false }
def CircleGrowsSaid : Prop := circleGrowsRow.holds Try.pinned (OpenSpec.ofChange circleGrowsSpec)

/-- ITS FALSE NEIGHBOUR: 'it returns false'. Refute it at one input. -/
def circleGrowsWrong : ChangeSpec := { name := "circleGrows", fn := fun _ => fun
  | [d1, d2] => { results := [.lit (.bool false)], args := [d1, d2] }
  | _ => none }
def CircleGrowsWrongFalsely : Prop := circleGrowsRow.holds Try.pinned (OpenSpec.ofChange circleGrowsWrong)

/-- 'dynposlaw29.CircleLeft': WHATEVER THE INPUT: true; the input reads as it did. -/
def circleLeftSpec : ChangeSpec := { name := "circleLeft", fn := fun _ => fun
  | [d1, d2] => { results := [.lit (.bool true)], args := [d1, d2] }
  | _ => none }
def circleLeftRow : OpenClaim := { program := "ytakbldjmgfcipaa", sum := "a8486ef20f05d9ee7c05b58b92fc70cdbf3d9ae96e4caf210b3bd5f620a49cc8", func := "dynpos/dynposlaw29.CircleLeft", spec := "circleLeft", apart := false }
def CircleLeftSaid : Prop := circleLeftRow.holds Try.pinned (OpenSpec.ofChange circleLeftSpec)

/-- ITS FALSE NEIGHBOUR: 'it returns false'. Refute it at one input. -/
def circleLeftWrong : ChangeSpec := { name := "circleLeft", fn := fun _ => fun
  | [d1, d2] => { results := [.lit (.bool false)], args := [d1, d2] }
  | _ => none }
def CircleLeftWrongFalsely : Prop := circleLeftRow.holds Try.pinned (OpenSpec.ofChange circleLeftWrong)

/-- 'dynposlaw29.CircleMoves': WHATEVER THE INPUT: true; the input reads as it did. -/
def circleMovesSpec : ChangeSpec := { name := "circleMoves", fn := fun _ => fun
  | [d1, d2, d3] => { results := [.lit (.bool true)], args := [d1, d2, d3] }
  | _ => none }
def circleMovesRow : OpenClaim := { program := "ytakbldjmgfcipaa", sum := "a8486ef20f05d9ee7c05b58b92fc70cdbf3d9ae96e4caf210b3bd5f620a49cc8", func := "dynpos/dynposlaw29.CircleMoves", spec := "circleMoves", apart := false }
def CircleMovesSaid : Prop := circleMovesRow.holds Try.pinned (OpenSpec.ofChange circleMovesSpec)

/-- ITS FALSE NEIGHBOUR: 'it returns false'. Refute it at one input. -/
def circleMovesWrong : ChangeSpec := { name := "circleMoves", fn := fun _ => fun
  | [d1, d2, d3] => { results := [.lit (.bool false)], args := [d1, d2, d3] }
  | _ => none }
def CircleMovesWrongFalsely : Prop := circleMovesRow.holds Try.pinned (OpenSpec.ofChange circleMovesWrong)

/-- 'dynposlaw29.CircleNowhere': WHATEVER THE INPUT: true; the input reads as it did. -/
def circleNowhereSpec : ChangeSpec := { name := "circleNowhere", fn := fun _ => fun
  | [d] => { results := [.lit (.bool true)], args := [d] }
  | _ => none }
def circleNowhereRow : OpenClaim := { program := "ytakbldjmgfcipaa", sum := "a8486ef20f05d9ee7c05b58b92fc70cdbf3d9ae96e4caf210b3bd5f620a49cc8", func := "dynpos/dynposlaw29.CircleNowhere", spec := "circleNowhere", apart := false }
def CircleNowhereSaid : Prop := circleNowhereRow.holds Try.pinned (OpenSpec.ofChange circleNowhereSpec)

/-- ITS FALSE NEIGHBOUR: 'it returns false'. Refute it at one input. -/
def circleNowhereWrong : ChangeSpec := { name := "circleNowhere", fn := fun _ => fun
  | [d] => { results := [.lit (.bool false)], args := [d] }
  | _ => none }
def CircleNowhereWrongFalsely : Prop := circleNowhereRow.holds Try.pinned (OpenSpec.ofChange circleNowhereWrong)

/- THE SECOND FORM. 'bulk': how many values and letters a reading holds, each counted each time it is reached (what is shared counts as often as it is met; a slice's spare places count too). A statement '..UptoSaid' is the law's where the arguments, and the package variables that the reading takes, are together of bulk at most 1048576: NARROWER than '..Said'. Prove '..Said' where nothing that the law and all that it calls make is longer than what came in: it says more and counts as full. Else prove '..UptoSaid'. A law counts once. -/
mutual
def uptoBulk {H : Type} : DataW H → Nat
  | .lit (.string bytes) => bytes.length + 1
  | .lit _ => 1
  | .nil => 1
  | .ptr d => uptoBulk d + 1
  | .slice elems spare => uptoBulkAll elems + uptoBulkAll spare + 1
  | .agg parts => uptoBulkAll parts + 1
  | .iface _ d => uptoBulk d + 1
  | .map entries => uptoBulkEntries entries + 1
  | .held _ => 1
def uptoBulkAll {H : Type} : List (DataW H) → Nat
  | [] => 0
  | d :: r => uptoBulk d + uptoBulkAll r
def uptoBulkEntries {H : Type} : List (Lit × DataW H) → Nat
  | [] => 0
  | x :: r => uptoBulkEntry x + uptoBulkEntries r
def uptoBulkEntry {H : Type} : Lit × DataW H → Nat
  | (.string bytes, d) => bytes.length + uptoBulk d + 1
  | (_, d) => uptoBulk d + 1
 end
def uptoSmall : (H : Type) → List (DataW H) → Bool := fun _ ds => decide (uptoBulkAll ds ≤ 1048576)
def OpenSpec.upto (s : _root_.Go.ChangeSpec) : _root_.Go.OpenSpec := { _root_.Go.OpenSpec.ofChange s with cond := some uptoSmall }

/-- 'dynposlaw29.CircleExact', WHERE WHAT IT READS IS OF BULK AT MOST 1048576: true; the input reads as it did. -/
def circleExactUptoRow : OpenClaim := { program := "ytakbldjmgfcipaa", sum := "a8486ef20f05d9ee7c05b58b92fc70cdbf3d9ae96e4caf210b3bd5f620a49cc8", func := "dynpos/dynposlaw29.CircleExact", spec := "circleExact", apart := false, narrowed := true }
def CircleExactUptoSaid : Prop := circleExactUptoRow.holds Try.pinned (OpenSpec.upto circleExactSpec)

/-- 'dynposlaw29.CircleCovers', WHERE WHAT IT READS IS OF BULK AT MOST 1048576: true; the input reads as it did. -/
def circleCoversUptoRow : OpenClaim := { program := "ytakbldjmgfcipaa", sum := "a8486ef20f05d9ee7c05b58b92fc70cdbf3d9ae96e4caf210b3bd5f620a49cc8", func := "dynpos/dynposlaw29.CircleCovers", spec := "circleCovers", apart := false, narrowed := true }
def CircleCoversUptoSaid : Prop := circleCoversUptoRow.holds Try.pinned (OpenSpec.upto circleCoversSpec)

/-- 'dynposlaw29.CircleGrows', WHERE WHAT IT READS IS OF BULK AT MOST 1048576: true; the input reads as it did. -/
def circleGrowsUptoRow : OpenClaim := { program := "ytakbldjmgfcipaa", sum := "a8486ef20f05d9ee7c05b58b92fc70cdbf3d9ae96e4caf210b3bd5f620a49cc8", func := "dynpos/dynposlaw29.CircleGrows", spec := "circleGrows", apart := false, narrowed := true }
def CircleGrowsUptoSaid : Prop := circleGrowsUptoRow.holds Try.pinned (OpenSpec.upto circleGrowsSpec)

/-- 'dynposlaw29.CircleLeft', WHERE WHAT IT READS IS OF BULK AT MOST 1048576: true; the input reads as it did. -/
def circleLeftUptoRow : OpenClaim := { program := "ytakbldjmgfcipaa", sum := "a8486ef20f05d9ee7c05b58b92fc70cdbf3d9ae96e4caf210b3bd5f620a49cc8", func := "dynpos/dynposlaw29.CircleLeft", spec := "circleLeft", apart := false, narrowed := true }
def CircleLeftUptoSaid : Prop := circleLeftUptoRow.holds Try.pinned (OpenSpec.upto circleLeftSpec)

/-- 'dynposlaw29.CircleMoves', WHERE WHAT IT READS IS OF BULK AT MOST 1048576: true; the input reads as it did. -/
def circleMovesUptoRow : OpenClaim := { program := "ytakbldjmgfcipaa", sum := "a8486ef20f05d9ee7c05b58b92fc70cdbf3d9ae96e4caf210b3bd5f620a49cc8", func := "dynpos/dynposlaw29.CircleMoves", spec := "circleMoves", apart := false, narrowed := true }
def CircleMovesUptoSaid : Prop := circleMovesUptoRow.holds Try.pinned (OpenSpec.upto circleMovesSpec)

/-- 'dynposlaw29.CircleNowhere', WHERE WHAT IT READS IS OF BULK AT MOST 1048576: true; the input reads as it did. -/
def circleNowhereUptoRow : OpenClaim := { program := "ytakbldjmgfcipaa", sum := "a8486ef20f05d9ee7c05b58b92fc70cdbf3d9ae96e4caf210b3bd5f620a49cc8", func := "dynpos/dynposlaw29.CircleNowhere", spec := "circleNowhere", apart := false, narrowed := true }
def CircleNowhereUptoSaid : Prop := circleNowhereUptoRow.holds Try.pinned (OpenSpec.upto circleNowhereSpec)

end Rows
end Go.Proofs.Ytakbldjmgfcipaa
