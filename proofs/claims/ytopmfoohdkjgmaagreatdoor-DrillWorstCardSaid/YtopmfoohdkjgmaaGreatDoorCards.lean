/-
  DERIVED. GIVEN WITH THE SEED: THE CARDS: each row of YtopmfoohdkjgmaaGreatDoorRows.lean that lists a variable, with what it lists TIED to the program's text (the seventh form; the later family's looks); each row that meets fmt, with fmt's text TOLD by the authors' own Lean function (tested against real Go, not proved from fmt's source: count such statements apart). THE CARD IS WHAT COUNTS. Prove the row's statement (the work); the ties are given (YtopmfoohdkjgmaaGreatDoorTie.lean); close each card by the builder's one call (the guide's Derived/Test/ToyasCard.lean, 'card_holds'). Laid BY PROGRAM, IN A SANDBOX (cutbox-door.mjs). By AI agents, Wed Nov 11 2026. No macro, syntax, notation, axiom, sorry.
-/
import Derived.Test.YtopmfoohdkjgmaaGreatDoorRows
import GoSem.ClaimSeven
namespace Go.Proofs.YtopmfoohdkjgmaaGreatDoor
namespace Rows

/-- THE TIED CARD OF 'dynposlaw42.DrillWorst'. -/
def drillWorstCard : Claim7 := { stood := { row := drillWorstRow, standIns := [], harness := (true, "ba6039fff54b345d69880fa59524c62e75d2f007d4cb0dd8f8a47e92a563a41d"), looks := false }, kinds := [], alts := [], laidByText := true, laidKinds := [.data, .data, .data, .data], laidTests := true, laidLooks := .later }
def DrillWorstCardSaid : Prop := Claim7.holds Tryz.pinned (.plain (OpenSpec.ofChange drillWorstSpec)) drillWorstCard

/-- THE SECOND FORM's CARD OF 'dynposlaw42.DrillWorst'. -/
def drillWorstUptoCard : Claim7 := { stood := { row := drillWorstUptoRow, standIns := [], harness := (true, "ba6039fff54b345d69880fa59524c62e75d2f007d4cb0dd8f8a47e92a563a41d"), looks := false }, kinds := [], alts := [], laidByText := true, laidKinds := [.data, .data, .data, .data], laidTests := true, laidLooks := .later }
def DrillWorstUptoCardSaid : Prop := Claim7.holds Tryz.pinned (.plain (OpenSpec.upto drillWorstSpec)) drillWorstUptoCard
end Rows
end Go.Proofs.YtopmfoohdkjgmaaGreatDoor
