/-
  DERIVED. GIVEN WITH THE SEED: THE CARDS: each row of YtakbldjmgfcipaaDoorRows.lean that lists a variable, with what it lists TIED to the program's text (the seventh form; the later family's looks); each row that meets fmt, with fmt's text TOLD by the authors' own Lean function (tested against real Go, not proved from fmt's source: count such statements apart). THE CARD IS WHAT COUNTS. Prove the row's statement (the work); the ties are given (YtakbldjmgfcipaaDoorTie.lean); close each card by the builder's one call (the guide's Derived/Test/ToyasCard.lean, 'card_holds'). Laid BY PROGRAM, IN A SANDBOX (cutbox-door.mjs). By AI agents, Wed Nov 11 2026. No macro, syntax, notation, axiom, sorry.
-/
import Derived.Test.YtakbldjmgfcipaaDoorRows
import GoSem.ClaimSeven
namespace Go.Proofs.YtakbldjmgfcipaaDoor
namespace Rows

/-- THE TIED CARD OF 'dynposlaw30.OperationLeaves'. -/
def operationLeavesCard : Claim7 := { stood := { row := operationLeavesRow, standIns := [], harness := (true, "f879743863f0e094bd273b665010eda7b470addf4998a3d1a5a4e3112b9ea8c1"), looks := false }, kinds := [], alts := [], laidByText := true, laidKinds := [.data], laidTests := true, laidLooks := .later }
def OperationLeavesCardSaid : Prop := Claim7.holds Tryd.pinned (.plain (OpenSpec.ofChange operationLeavesSpec)) operationLeavesCard

/-- THE TIED CARD OF 'dynposlaw30.OperationRed'. -/
def operationRedCard : Claim7 := { stood := { row := operationRedRow, standIns := [], harness := (true, "f879743863f0e094bd273b665010eda7b470addf4998a3d1a5a4e3112b9ea8c1"), looks := false }, kinds := [], alts := [], laidByText := true, laidKinds := [.data], laidTests := true, laidLooks := .later }
def OperationRedCardSaid : Prop := Claim7.holds Tryd.pinned (.plain (OpenSpec.ofChange operationRedSpec)) operationRedCard

/-- THE TIED CARD OF 'dynposlaw30.OperationBetter'. -/
def operationBetterCard : Claim7 := { stood := { row := operationBetterRow, standIns := [], harness := (true, "f879743863f0e094bd273b665010eda7b470addf4998a3d1a5a4e3112b9ea8c1"), looks := false }, kinds := [], alts := [], laidByText := true, laidKinds := [.data], laidTests := true, laidLooks := .later }
def OperationBetterCardSaid : Prop := Claim7.holds Tryd.pinned (.plain (OpenSpec.ofChange operationBetterSpec)) operationBetterCard

/-- THE TIED CARD OF 'dynposlaw30.OperationFits'. -/
def operationFitsCard : Claim7 := { stood := { row := operationFitsRow, standIns := [], harness := (true, "f879743863f0e094bd273b665010eda7b470addf4998a3d1a5a4e3112b9ea8c1"), looks := false }, kinds := [], alts := [], laidByText := true, laidKinds := [.data], laidTests := true, laidLooks := .later }
def OperationFitsCardSaid : Prop := Claim7.holds Tryd.pinned (.plain (OpenSpec.ofChange operationFitsSpec)) operationFitsCard

/-- THE TIED CARD OF 'dynposlaw30.OperationRuns'. -/
def operationRunsCard : Claim7 := { stood := { row := operationRunsRow, standIns := [], harness := (true, "f879743863f0e094bd273b665010eda7b470addf4998a3d1a5a4e3112b9ea8c1"), looks := false }, kinds := [], alts := [], laidByText := true, laidKinds := [.data], laidTests := true, laidLooks := .later }
def OperationRunsCardSaid : Prop := Claim7.holds Tryd.pinned (.plain (OpenSpec.ofChange operationRunsSpec)) operationRunsCard

/-- THE TIED CARD OF 'dynposlaw30.OperationExact'. -/
def operationExactCard : Claim7 := { stood := { row := operationExactRow, standIns := [], harness := (true, "f879743863f0e094bd273b665010eda7b470addf4998a3d1a5a4e3112b9ea8c1"), looks := false }, kinds := [], alts := [], laidByText := true, laidKinds := [.data], laidTests := true, laidLooks := .later }
def OperationExactCardSaid : Prop := Claim7.holds Tryd.pinned (.plain (OpenSpec.ofChange operationExactSpec)) operationExactCard

/-- THE SECOND FORM's CARD OF 'dynposlaw30.OperationLeaves'. -/
def operationLeavesUptoCard : Claim7 := { stood := { row := operationLeavesUptoRow, standIns := [], harness := (true, "f879743863f0e094bd273b665010eda7b470addf4998a3d1a5a4e3112b9ea8c1"), looks := false }, kinds := [], alts := [], laidByText := true, laidKinds := [.data], laidTests := true, laidLooks := .later }
def OperationLeavesUptoCardSaid : Prop := Claim7.holds Tryd.pinned (.plain (OpenSpec.upto operationLeavesSpec)) operationLeavesUptoCard

/-- THE SECOND FORM's CARD OF 'dynposlaw30.OperationRed'. -/
def operationRedUptoCard : Claim7 := { stood := { row := operationRedUptoRow, standIns := [], harness := (true, "f879743863f0e094bd273b665010eda7b470addf4998a3d1a5a4e3112b9ea8c1"), looks := false }, kinds := [], alts := [], laidByText := true, laidKinds := [.data], laidTests := true, laidLooks := .later }
def OperationRedUptoCardSaid : Prop := Claim7.holds Tryd.pinned (.plain (OpenSpec.upto operationRedSpec)) operationRedUptoCard

/-- THE SECOND FORM's CARD OF 'dynposlaw30.OperationBetter'. -/
def operationBetterUptoCard : Claim7 := { stood := { row := operationBetterUptoRow, standIns := [], harness := (true, "f879743863f0e094bd273b665010eda7b470addf4998a3d1a5a4e3112b9ea8c1"), looks := false }, kinds := [], alts := [], laidByText := true, laidKinds := [.data], laidTests := true, laidLooks := .later }
def OperationBetterUptoCardSaid : Prop := Claim7.holds Tryd.pinned (.plain (OpenSpec.upto operationBetterSpec)) operationBetterUptoCard

/-- THE SECOND FORM's CARD OF 'dynposlaw30.OperationFits'. -/
def operationFitsUptoCard : Claim7 := { stood := { row := operationFitsUptoRow, standIns := [], harness := (true, "f879743863f0e094bd273b665010eda7b470addf4998a3d1a5a4e3112b9ea8c1"), looks := false }, kinds := [], alts := [], laidByText := true, laidKinds := [.data], laidTests := true, laidLooks := .later }
def OperationFitsUptoCardSaid : Prop := Claim7.holds Tryd.pinned (.plain (OpenSpec.upto operationFitsSpec)) operationFitsUptoCard

/-- THE SECOND FORM's CARD OF 'dynposlaw30.OperationRuns'. -/
def operationRunsUptoCard : Claim7 := { stood := { row := operationRunsUptoRow, standIns := [], harness := (true, "f879743863f0e094bd273b665010eda7b470addf4998a3d1a5a4e3112b9ea8c1"), looks := false }, kinds := [], alts := [], laidByText := true, laidKinds := [.data], laidTests := true, laidLooks := .later }
def OperationRunsUptoCardSaid : Prop := Claim7.holds Tryd.pinned (.plain (OpenSpec.upto operationRunsSpec)) operationRunsUptoCard

/-- THE SECOND FORM's CARD OF 'dynposlaw30.OperationExact'. -/
def operationExactUptoCard : Claim7 := { stood := { row := operationExactUptoRow, standIns := [], harness := (true, "f879743863f0e094bd273b665010eda7b470addf4998a3d1a5a4e3112b9ea8c1"), looks := false }, kinds := [], alts := [], laidByText := true, laidKinds := [.data], laidTests := true, laidLooks := .later }
def OperationExactUptoCardSaid : Prop := Claim7.holds Tryd.pinned (.plain (OpenSpec.upto operationExactSpec)) operationExactUptoCard
end Rows
end Go.Proofs.YtakbldjmgfcipaaDoor
