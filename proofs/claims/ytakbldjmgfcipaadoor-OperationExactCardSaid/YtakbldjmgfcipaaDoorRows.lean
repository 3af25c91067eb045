/-
  NARROWER THAN 'FOR EVERY INPUT', by the rows' own cells (each row's printed sentence says how): OperationLeaves: laid · OperationRed: laid · OperationBetter: laid · OperationFits: laid · OperationRuns: laid · OperationExact: laid.
  DERIVED. THE GIVEN ROWS OF THIS SEAT. 6 by the template 'for every input the law returns true; each argument reads behind the call as it read before'; 0 by the template 'total and deterministic' (their statements: YtakbldjmgfcipaaDoorTotals.lean).
  GIVEN WITH THE SEED: the statements are not yours to turn. If you find one false, say at which input.
  Laid BY PROGRAM, IN A SANDBOX (cutbox-rows.mjs): the forced cells as the released guide's own fill.sh prints them over the translation 0536a4bd5c49bc08… (all of the seat's roots in one cut). By AI agents, Wed Nov 11 2026. No macro, syntax, notation, axiom, sorry.
-/
import Derived.Test.YtakbldjmgfcipaaDoorChecked
import GoSem.Claim
import GoSem.ClaimJoined
import GoSem.ClaimMapViews
import Derived.JoinedTies
import Derived.KernelRfl
namespace Go.Proofs.YtakbldjmgfcipaaDoor
/- THE CELL 'sum', in the pinned program and in every row, IS THE sha256 OF THE DUMP (.gsa) THAT YtakbldjmgfcipaaDoorProg.lean LOADS. Nothing in Lean hashes anything: it is a label: what it is worth is what the hold of that sum in a sandbox is worth. -/
noncomputable def Tryd.pinned : Pinned := { name := "ytakbldjmgfcipaadoor", sum := "0536a4bd5c49bc08a957354ccfd47db7dcf21b7195f2a6bec8e558b2265b50d8", checked := Tryd.checked }
namespace Rows
def none {H : Type} : Left H := { results := [], args := [] }

/- WHAT THE LISTED PACKAGE-LEVEL VARIABLES READ AS WHEN THE CALL BEGINS. Each datum BY PROGRAM (the guide's laid-datum.mjs) off the statement by which the dump's own 'gosem.cut.vars' lays the variable. In a bare row this is a premise. The card (YtakbldjmgfcipaaDoorCards.lean) ties it to the program's text. -/
def laid_dynpos_operation_ways {H : Type} : DataW H := .agg [.agg [.lit (.int .i64 1), .lit (.int .i64 0), .lit (.int .i64 1), .lit (.bool true)], .agg [.lit (.int .i64 2), .lit (.int .i64 1), .lit (.int .i64 2), .lit (.bool true)], .agg [.lit (.int .i64 3), .lit (.int .i64 1), .lit (.int .i64 0), .lit (.bool false)], .agg [.lit (.int .i64 3), .lit (.int .i64 2), .lit (.int .i64 4), .lit (.bool false)], .agg [.lit (.int .i64 3), .lit (.int .i64 3), .lit (.int .i64 4), .lit (.bool false)], .agg [.lit (.int .i64 4), .lit (.int .i64 5), .lit (.int .i64 0), .lit (.bool false)]]

/-- 'dynposlaw30.OperationLeaves': WHATEVER THE INPUT: true; the input reads as it did. -/
def operationLeavesSpec : ChangeSpec := { name := "operationLeaves", fn := fun _ => fun
  | [d] => { results := [.lit (.bool true)], args := [d] }
  | _ => none }
def operationLeavesRow : OpenClaim := { program := "ytakbldjmgfcipaadoor", sum := "0536a4bd5c49bc08a957354ccfd47db7dcf21b7195f2a6bec8e558b2265b50d8", func := "dynpos/dynposlaw30.OperationLeaves", spec := "operationLeaves", named := ["dynpos/operation.ways"], apart := false, laid := [("dynpos/operation.ways", laid_dynpos_operation_ways)] }
def OperationLeavesSaid : Prop := operationLeavesRow.holds Tryd.pinned (OpenSpec.ofChange operationLeavesSpec)

/-- ITS FALSE NEIGHBOUR: 'it returns false'. Refute it at one input. -/
def operationLeavesWrong : ChangeSpec := { name := "operationLeaves", fn := fun _ => fun
  | [d] => { results := [.lit (.bool false)], args := [d] }
  | _ => none }
def OperationLeavesWrongFalsely : Prop := operationLeavesRow.holds Tryd.pinned (OpenSpec.ofChange operationLeavesWrong)

/-- 'dynposlaw30.OperationRed': WHATEVER THE INPUT: true; the input reads as it did. -/
def operationRedSpec : ChangeSpec := { name := "operationRed", fn := fun _ => fun
  | [d] => { results := [.lit (.bool true)], args := [d] }
  | _ => none }
def operationRedRow : OpenClaim := { program := "ytakbldjmgfcipaadoor", sum := "0536a4bd5c49bc08a957354ccfd47db7dcf21b7195f2a6bec8e558b2265b50d8", func := "dynpos/dynposlaw30.OperationRed", spec := "operationRed", named := ["dynpos/operation.ways"], apart := false, laid := [("dynpos/operation.ways", laid_dynpos_operation_ways)] }
def OperationRedSaid : Prop := operationRedRow.holds Tryd.pinned (OpenSpec.ofChange operationRedSpec)

/-- ITS FALSE NEIGHBOUR: 'it returns false'. Refute it at one input. -/
def operationRedWrong : ChangeSpec := { name := "operationRed", fn := fun _ => fun
  | [d] => { results := [.lit (.bool false)], args := [d] }
  | _ => none }
def OperationRedWrongFalsely : Prop := operationRedRow.holds Tryd.pinned (OpenSpec.ofChange operationRedWrong)

/-- 'dynposlaw30.OperationBetter': WHATEVER THE INPUT: true; the input reads as it did. -/
def operationBetterSpec : ChangeSpec := { name := "operationBetter", fn := fun _ => fun
  | [d] => { results := [.lit (.bool true)], args := [d] }
  | _ => none }
def operationBetterRow : OpenClaim := { program := "ytakbldjmgfcipaadoor", sum := "0536a4bd5c49bc08a957354ccfd47db7dcf21b7195f2a6bec8e558b2265b50d8", func := "dynpos/dynposlaw30.OperationBetter", spec := "operationBetter", named := ["dynpos/operation.ways"], apart := false, laid := [("dynpos/operation.ways", laid_dynpos_operation_ways)] }
def OperationBetterSaid : Prop := operationBetterRow.holds Tryd.pinned (OpenSpec.ofChange operationBetterSpec)

/-- ITS FALSE NEIGHBOUR: 'it returns false'. Refute it at one input. -/
def operationBetterWrong : ChangeSpec := { name := "operationBetter", fn := fun _ => fun
  | [d] => { results := [.lit (.bool false)], args := [d] }
  | _ => none }
def OperationBetterWrongFalsely : Prop := operationBetterRow.holds Tryd.pinned (OpenSpec.ofChange operationBetterWrong)

/-- 'dynposlaw30.OperationFits': WHATEVER THE INPUT: true; the input reads as it did. -/
def operationFitsSpec : ChangeSpec := { name := "operationFits", fn := fun _ => fun
  | [d] => { results := [.lit (.bool true)], args := [d] }
  | _ => none }
def operationFitsRow : OpenClaim := { program := "ytakbldjmgfcipaadoor", sum := "0536a4bd5c49bc08a957354ccfd47db7dcf21b7195f2a6bec8e558b2265b50d8", func := "dynpos/dynposlaw30.OperationFits", spec := "operationFits", named := ["dynpos/operation.ways"], apart := false, laid := [("dynpos/operation.ways", laid_dynpos_operation_ways)] }
def OperationFitsSaid : Prop := operationFitsRow.holds Tryd.pinned (OpenSpec.ofChange operationFitsSpec)

/-- ITS FALSE NEIGHBOUR: 'it returns false'. Refute it at one input. -/
def operationFitsWrong : ChangeSpec := { name := "operationFits", fn := fun _ => fun
  | [d] => { results := [.lit (.bool false)], args := [d] }
  | _ => none }
def OperationFitsWrongFalsely : Prop := operationFitsRow.holds Tryd.pinned (OpenSpec.ofChange operationFitsWrong)

/-- 'dynposlaw30.OperationRuns': WHATEVER THE INPUT: true; the input reads as it did. -/
def operationRunsSpec : ChangeSpec := { name := "operationRuns", fn := fun _ => fun
  | [d1, d2] => { results := [.lit (.bool true)], args := [d1, d2] }
  | _ => none }
def operationRunsRow : OpenClaim := { program := "ytakbldjmgfcipaadoor", sum := "0536a4bd5c49bc08a957354ccfd47db7dcf21b7195f2a6bec8e558b2265b50d8", func := "dynpos/dynposlaw30.OperationRuns", spec := "operationRuns", named := ["dynpos/operation.ways"], apart := false, laid := [("dynpos/operation.ways", laid_dynpos_operation_ways)] }
def OperationRunsSaid : Prop := operationRunsRow.holds Tryd.pinned (OpenSpec.ofChange operationRunsSpec)

/-- ITS FALSE NEIGHBOUR: 'it returns false'. Refute it at one input. -/
def operationRunsWrong : ChangeSpec := { name := "operationRuns", fn := fun _ => fun
  | [d1, d2] => { results := [.lit (.bool false)], args := [d1, d2] }
  | _ => none }
def OperationRunsWrongFalsely : Prop := operationRunsRow.holds Tryd.pinned (OpenSpec.ofChange operationRunsWrong)

/-- 'dynposlaw30.OperationExact': WHATEVER THE INPUT: true; the input reads as it did. -/
def operationExactSpec : ChangeSpec := { name := "operationExact", fn := fun _ => fun
  | [d1, d2, d3, d4, d5, d6, d7, d8, d9] => { results := [.lit (.bool true)], args := [d1, d2, d3, d4, d5, d6, d7, d8, d9] }
  | _ => none }
def operationExactRow : OpenClaim := { program := "ytakbldjmgfcipaadoor", sum := "0536a4bd5c49bc08a957354ccfd47db7dcf21b7195f2a6bec8e558b2265b50d8", func := "dynpos/dynposlaw30.OperationExact", spec := "operationExact", named := ["dynpos/operation.ways"], apart := false, laid := [("dynpos/operation.ways", laid_dynpos_operation_ways)] }
def OperationExactSaid : Prop := operationExactRow.holds Tryd.pinned (OpenSpec.ofChange operationExactSpec)

/-- ITS FALSE NEIGHBOUR: 'it returns false'. Refute it at one input. -/
def operationExactWrong : ChangeSpec := { name := "operationExact", fn := fun _ => fun
  | [d1, d2, d3, d4, d5, d6, d7, d8, d9] => { results := [.lit (.bool false)], args := [d1, d2, d3, d4, d5, d6, d7, d8, d9] }
  | _ => none }
def OperationExactWrongFalsely : Prop := operationExactRow.holds Tryd.pinned (OpenSpec.ofChange operationExactWrong)

/- THE SECOND FORM. 'bulk': how many values and letters a reading holds, each counted each time it is reached (what is shared counts as often as it is met; a slice's spare places count too). A statement '..UptoSaid' is the law's where the arguments, and the package variables that the reading takes, are together of bulk at most 1048576: NARROWER than '..Said'. Prove '..Said' where nothing that the law and all that it calls make is longer than what came in: it says more and counts as full. Else prove '..UptoSaid'. A law counts once. -/
mutual
def uptoBulk {H : Type} : DataW H → Nat
  | .lit (.string bytes) => bytes.length + 1
  | .lit _ => 1
  | .nil => 1
  | .ptr d => uptoBulk d + 1
  | .slice elems spare => uptoBulkAll elems + uptoBulkAll spare + 1
  | .agg parts => uptoBulkAll parts + 1
  | .iface _ d => uptoBulk d + 1
  | .map entries => uptoBulkEntries entries + 1
  | .held _ => 1
def uptoBulkAll {H : Type} : List (DataW H) → Nat
  | [] => 0
  | d :: r => uptoBulk d + uptoBulkAll r
def uptoBulkEntries {H : Type} : List (Lit × DataW H) → Nat
  | [] => 0
  | x :: r => uptoBulkEntry x + uptoBulkEntries r
def uptoBulkEntry {H : Type} : Lit × DataW H → Nat
  | (.string bytes, d) => bytes.length + uptoBulk d + 1
  | (_, d) => uptoBulk d + 1
 end
def uptoSmall : (H : Type) → List (DataW H) → Bool := fun _ ds => decide (uptoBulkAll ds ≤ 1048576)
def OpenSpec.upto (s : _root_.Go.ChangeSpec) : _root_.Go.OpenSpec := { _root_.Go.OpenSpec.ofChange s with cond := some uptoSmall }

/-- 'dynposlaw30.OperationLeaves', WHERE WHAT IT READS IS OF BULK AT MOST 1048576: true; the input reads as it did. -/
def operationLeavesUptoRow : OpenClaim := { program := "ytakbldjmgfcipaadoor", sum := "0536a4bd5c49bc08a957354ccfd47db7dcf21b7195f2a6bec8e558b2265b50d8", func := "dynpos/dynposlaw30.OperationLeaves", spec := "operationLeaves", named := ["dynpos/operation.ways"], apart := false, laid := [("dynpos/operation.ways", laid_dynpos_operation_ways)], narrowed := true }
def OperationLeavesUptoSaid : Prop := operationLeavesUptoRow.holds Tryd.pinned (OpenSpec.upto operationLeavesSpec)

/-- 'dynposlaw30.OperationRed', WHERE WHAT IT READS IS OF BULK AT MOST 1048576: true; the input reads as it did. -/
def operationRedUptoRow : OpenClaim := { program := "ytakbldjmgfcipaadoor", sum := "0536a4bd5c49bc08a957354ccfd47db7dcf21b7195f2a6bec8e558b2265b50d8", func := "dynpos/dynposlaw30.OperationRed", spec := "operationRed", named := ["dynpos/operation.ways"], apart := false, laid := [("dynpos/operation.ways", laid_dynpos_operation_ways)], narrowed := true }
def OperationRedUptoSaid : Prop := operationRedUptoRow.holds Tryd.pinned (OpenSpec.upto operationRedSpec)

/-- 'dynposlaw30.OperationBetter', WHERE WHAT IT READS IS OF BULK AT MOST 1048576: true; the input reads as it did. -/
def operationBetterUptoRow : OpenClaim := { program := "ytakbldjmgfcipaadoor", sum := "0536a4bd5c49bc08a957354ccfd47db7dcf21b7195f2a6bec8e558b2265b50d8", func := "dynpos/dynposlaw30.OperationBetter", spec := "operationBetter", named := ["dynpos/operation.ways"], apart := false, laid := [("dynpos/operation.ways", laid_dynpos_operation_ways)], narrowed := true }
def OperationBetterUptoSaid : Prop := operationBetterUptoRow.holds Tryd.pinned (OpenSpec.upto operationBetterSpec)

/-- 'dynposlaw30.OperationFits', WHERE WHAT IT READS IS OF BULK AT MOST 1048576: true; the input reads as it did. -/
def operationFitsUptoRow : OpenClaim := { program := "ytakbldjmgfcipaadoor", sum := "0536a4bd5c49bc08a957354ccfd47db7dcf21b7195f2a6bec8e558b2265b50d8", func := "dynpos/dynposlaw30.OperationFits", spec := "operationFits", named := ["dynpos/operation.ways"], apart := false, laid := [("dynpos/operation.ways", laid_dynpos_operation_ways)], narrowed := true }
def OperationFitsUptoSaid : Prop := operationFitsUptoRow.holds Tryd.pinned (OpenSpec.upto operationFitsSpec)

/-- 'dynposlaw30.OperationRuns', WHERE WHAT IT READS IS OF BULK AT MOST 1048576: true; the input reads as it did. -/
def operationRunsUptoRow : OpenClaim := { program := "ytakbldjmgfcipaadoor", sum := "0536a4bd5c49bc08a957354ccfd47db7dcf21b7195f2a6bec8e558b2265b50d8", func := "dynpos/dynposlaw30.OperationRuns", spec := "operationRuns", named := ["dynpos/operation.ways"], apart := false, laid := [("dynpos/operation.ways", laid_dynpos_operation_ways)], narrowed := true }
def OperationRunsUptoSaid : Prop := operationRunsUptoRow.holds Tryd.pinned (OpenSpec.upto operationRunsSpec)

/-- 'dynposlaw30.OperationExact', WHERE WHAT IT READS IS OF BULK AT MOST 1048576: true; the input reads as it did. -/
def operationExactUptoRow : OpenClaim := { program := "ytakbldjmgfcipaadoor", sum := "0536a4bd5c49bc08a957354ccfd47db7dcf21b7195f2a6bec8e558b2265b50d8", func := "dynpos/dynposlaw30.OperationExact", spec := "operationExact", named := ["dynpos/operation.ways"], apart := false, laid := [("dynpos/operation.ways", laid_dynpos_operation_ways)], narrowed := true }
def OperationExactUptoSaid : Prop := operationExactUptoRow.holds Tryd.pinned (OpenSpec.upto operationExactSpec)

end Rows
end Go.Proofs.YtakbldjmgfcipaaDoor
