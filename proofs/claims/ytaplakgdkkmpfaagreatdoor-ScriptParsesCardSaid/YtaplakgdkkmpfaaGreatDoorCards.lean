/-
  DERIVED. GIVEN WITH THE SEED: THE CARDS: each row of YtaplakgdkkmpfaaGreatDoorRows.lean that lists a variable, with what it lists TIED to the program's text (the seventh form; the later family's looks); each row that meets fmt, with fmt's text TOLD by the authors' own Lean function (tested against real Go, not proved from fmt's source: count such statements apart). THE CARD IS WHAT COUNTS. Prove the row's statement (the work); the ties are given (YtaplakgdkkmpfaaGreatDoorTie.lean); close each card by the builder's one call (the guide's Derived/Test/ToyasCard.lean, 'card_holds'). Laid BY PROGRAM, IN A SANDBOX (cutbox-door.mjs). By AI agents, Wed Nov 11 2026. No macro, syntax, notation, axiom, sorry.
-/
import Derived.Test.YtaplakgdkkmpfaaGreatDoorRows
import GoSem.ClaimSeven
namespace Go.Proofs.YtaplakgdkkmpfaaGreatDoor
namespace Rows

/-- THE TIED CARD OF 'dynposlaw39.ScriptExact'. -/
def scriptExactCard : Claim7 := { stood := { row := scriptExactRow, standIns := [], harness := (true, "1f6a9e5473510996acd2a0b374cc24dcc0385f7235730827d6d7c4cc11c3063d"), looks := true }, kinds := [], alts := [], laidByText := true, laidKinds := [.data, .data, .data, .data, .sentinel, .sentinel, .pinned], laidTests := true, laidLooks := .later }
def ScriptExactCardSaid : Prop := Claim7.holds Tryz.pinned (.plain (OpenSpec.ofChange scriptExactSpec)) scriptExactCard

/-- THE TIED CARD OF 'dynposlaw39.ScriptParses'. -/
def scriptParsesCard : Claim7 := { stood := { row := scriptParsesRow, standIns := [], harness := (true, "1f6a9e5473510996acd2a0b374cc24dcc0385f7235730827d6d7c4cc11c3063d"), looks := true }, kinds := [], alts := [], laidByText := true, laidKinds := [.data, .data, .data, .data, .sentinel, .sentinel, .pinned], laidTests := true, laidLooks := .later }
def ScriptParsesCardSaid : Prop := Claim7.holds Tryz.pinned (.plain (OpenSpec.ofChange scriptParsesSpec)) scriptParsesCard

/-- THE SECOND FORM's CARD OF 'dynposlaw39.ScriptExact'. -/
def scriptExactUptoCard : Claim7 := { stood := { row := scriptExactUptoRow, standIns := [], harness := (true, "1f6a9e5473510996acd2a0b374cc24dcc0385f7235730827d6d7c4cc11c3063d"), looks := true }, kinds := [], alts := [], laidByText := true, laidKinds := [.data, .data, .data, .data, .sentinel, .sentinel, .pinned], laidTests := true, laidLooks := .later }
def ScriptExactUptoCardSaid : Prop := Claim7.holds Tryz.pinned (.plain (OpenSpec.upto scriptExactSpec)) scriptExactUptoCard

/-- THE SECOND FORM's CARD OF 'dynposlaw39.ScriptParses'. -/
def scriptParsesUptoCard : Claim7 := { stood := { row := scriptParsesUptoRow, standIns := [], harness := (true, "1f6a9e5473510996acd2a0b374cc24dcc0385f7235730827d6d7c4cc11c3063d"), looks := true }, kinds := [], alts := [], laidByText := true, laidKinds := [.data, .data, .data, .data, .sentinel, .sentinel, .pinned], laidTests := true, laidLooks := .later }
def ScriptParsesUptoCardSaid : Prop := Claim7.holds Tryz.pinned (.plain (OpenSpec.upto scriptParsesSpec)) scriptParsesUptoCard
end Rows
end Go.Proofs.YtaplakgdkkmpfaaGreatDoor
