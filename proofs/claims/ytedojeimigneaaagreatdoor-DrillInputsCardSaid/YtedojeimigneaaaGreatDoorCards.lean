/-
  DERIVED. GIVEN WITH THE SEED: THE CARDS: each row of YtedojeimigneaaaGreatDoorRows.lean that lists a variable, with what it lists TIED to the program's text (the seventh form; the later family's looks); each row that meets fmt, with fmt's text TOLD by the authors' own Lean function (tested against real Go, not proved from fmt's source: count such statements apart). THE CARD IS WHAT COUNTS. Prove the row's statement (the work); the ties are given (YtedojeimigneaaaGreatDoorTie.lean); close each card by the builder's one call (the guide's Derived/Test/ToyasCard.lean, 'card_holds'). Laid BY PROGRAM, IN A SANDBOX (cutbox-door.mjs). By AI agents, Wed Nov 11 2026. No macro, syntax, notation, axiom, sorry.
-/
import Derived.Test.YtedojeimigneaaaGreatDoorRows
import GoSem.ClaimSeven
namespace Go.Proofs.YtedojeimigneaaaGreatDoor
namespace Rows

/-- THE TIED CARD OF 'dynposlaw42.DrillInputs'. -/
def drillInputsCard : Claim7 := { stood := { row := drillInputsRow, standIns := [], harness := (true, "25730d80c671e43d2fadb57447540903924105fc30da05128673d97d362512f9"), looks := false }, kinds := [], alts := [], laidByText := true, laidKinds := [.data, .data, .data, .data], laidTests := true, laidLooks := .later }
def DrillInputsCardSaid : Prop := Claim7.holds Tryz.pinned (.plain (OpenSpec.ofChange drillInputsSpec)) drillInputsCard

/-- THE SECOND FORM's CARD OF 'dynposlaw42.DrillInputs'. -/
def drillInputsUptoCard : Claim7 := { stood := { row := drillInputsUptoRow, standIns := [], harness := (true, "25730d80c671e43d2fadb57447540903924105fc30da05128673d97d362512f9"), looks := false }, kinds := [], alts := [], laidByText := true, laidKinds := [.data, .data, .data, .data], laidTests := true, laidLooks := .later }
def DrillInputsUptoCardSaid : Prop := Claim7.holds Tryz.pinned (.plain (OpenSpec.upto drillInputsSpec)) drillInputsUptoCard
end Rows
end Go.Proofs.YtedojeimigneaaaGreatDoor
