/-
  DERIVED. GIVEN WITH THE SEED: THE CARDS: each row of YtaplakgdkkmpfaaDoorRows.lean that lists a variable, with what it lists TIED to the program's text (the seventh form; the later family's looks); each row that meets fmt, with fmt's text TOLD by the authors' own Lean function (tested against real Go, not proved from fmt's source: count such statements apart). THE CARD IS WHAT COUNTS. Prove the row's statement (the work); the ties are given (YtaplakgdkkmpfaaDoorTie.lean); close each card by the builder's one call (the guide's Derived/Test/ToyasCard.lean, 'card_holds'). Laid BY PROGRAM, IN A SANDBOX (cutbox-door.mjs). By AI agents, Wed Nov 11 2026. No macro, syntax, notation, axiom, sorry.
-/
import Derived.Test.YtaplakgdkkmpfaaDoorRows
import GoSem.ClaimSeven
namespace Go.Proofs.YtaplakgdkkmpfaaDoor
namespace Rows

/-- THE TIED CARD OF 'dynposlaw39.ScriptBack'. -/
def scriptBackCard : Claim7 := { stood := { row := scriptBackRow, standIns := [], harness := (true, "157d6df237fae8c0ec39cb93d2cd51e8dedacee4681267f52b1f0358126fc7af"), looks := true }, kinds := [], alts := [], laidByText := true, laidKinds := [.data, .data, .data, .data, .sentinel, .sentinel, .pinned], laidTests := true, laidLooks := .later }
def ScriptBackCardSaid : Prop := Claim7.holds Tryd.pinned (.plain (OpenSpec.ofChange scriptBackSpec)) scriptBackCard

/-- THE TIED CARD OF 'dynposlaw39.ScriptCounts'. -/
def scriptCountsCard : Claim7 := { stood := { row := scriptCountsRow, standIns := [], harness := (true, "157d6df237fae8c0ec39cb93d2cd51e8dedacee4681267f52b1f0358126fc7af"), looks := true }, kinds := [], alts := [], laidByText := true, laidKinds := [.data, .data, .data, .data, .sentinel, .sentinel, .pinned], laidTests := true, laidLooks := .later }
def ScriptCountsCardSaid : Prop := Claim7.holds Tryd.pinned (.plain (OpenSpec.ofChange scriptCountsSpec)) scriptCountsCard

/-- THE TIED CARD OF 'dynposlaw39.ScriptStays'. -/
def scriptStaysCard : Claim7 := { stood := { row := scriptStaysRow, standIns := [], harness := (true, "157d6df237fae8c0ec39cb93d2cd51e8dedacee4681267f52b1f0358126fc7af"), looks := true }, kinds := [], alts := [], laidByText := true, laidKinds := [.data, .data, .data, .data, .sentinel, .sentinel, .pinned], laidTests := true, laidLooks := .later }
def ScriptStaysCardSaid : Prop := Claim7.holds Tryd.pinned (.plain (OpenSpec.ofChange scriptStaysSpec)) scriptStaysCard

/-- THE SECOND FORM's CARD OF 'dynposlaw39.ScriptBack'. -/
def scriptBackUptoCard : Claim7 := { stood := { row := scriptBackUptoRow, standIns := [], harness := (true, "157d6df237fae8c0ec39cb93d2cd51e8dedacee4681267f52b1f0358126fc7af"), looks := true }, kinds := [], alts := [], laidByText := true, laidKinds := [.data, .data, .data, .data, .sentinel, .sentinel, .pinned], laidTests := true, laidLooks := .later }
def ScriptBackUptoCardSaid : Prop := Claim7.holds Tryd.pinned (.plain (OpenSpec.upto scriptBackSpec)) scriptBackUptoCard

/-- THE SECOND FORM's CARD OF 'dynposlaw39.ScriptCounts'. -/
def scriptCountsUptoCard : Claim7 := { stood := { row := scriptCountsUptoRow, standIns := [], harness := (true, "157d6df237fae8c0ec39cb93d2cd51e8dedacee4681267f52b1f0358126fc7af"), looks := true }, kinds := [], alts := [], laidByText := true, laidKinds := [.data, .data, .data, .data, .sentinel, .sentinel, .pinned], laidTests := true, laidLooks := .later }
def ScriptCountsUptoCardSaid : Prop := Claim7.holds Tryd.pinned (.plain (OpenSpec.upto scriptCountsSpec)) scriptCountsUptoCard

/-- THE SECOND FORM's CARD OF 'dynposlaw39.ScriptStays'. -/
def scriptStaysUptoCard : Claim7 := { stood := { row := scriptStaysUptoRow, standIns := [], harness := (true, "157d6df237fae8c0ec39cb93d2cd51e8dedacee4681267f52b1f0358126fc7af"), looks := true }, kinds := [], alts := [], laidByText := true, laidKinds := [.data, .data, .data, .data, .sentinel, .sentinel, .pinned], laidTests := true, laidLooks := .later }
def ScriptStaysUptoCardSaid : Prop := Claim7.holds Tryd.pinned (.plain (OpenSpec.upto scriptStaysSpec)) scriptStaysUptoCard
end Rows
end Go.Proofs.YtaplakgdkkmpfaaDoor
