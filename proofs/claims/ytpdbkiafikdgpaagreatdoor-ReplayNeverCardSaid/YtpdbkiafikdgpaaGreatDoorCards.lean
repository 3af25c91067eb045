/-
  DERIVED. GIVEN WITH THE SEED: THE CARDS: each row of YtpdbkiafikdgpaaGreatDoorRows.lean that lists a variable, with what it lists TIED to the program's text (the seventh form; the later family's looks); each row that meets fmt, with fmt's text TOLD by the authors' own Lean function (tested against real Go, not proved from fmt's source: count such statements apart). THE CARD IS WHAT COUNTS. Prove the row's statement (the work); the ties are given (YtpdbkiafikdgpaaGreatDoorTie.lean); close each card by the builder's one call (the guide's Derived/Test/ToyasCard.lean, 'card_holds'). Laid BY PROGRAM, IN A SANDBOX (cutbox-door.mjs). By AI agents, Wed Nov 11 2026. No macro, syntax, notation, axiom, sorry.
-/
import Derived.Test.YtpdbkiafikdgpaaGreatDoorRows
import GoSem.ClaimSeven
namespace Go.Proofs.YtpdbkiafikdgpaaGreatDoor
namespace Rows

/-- THE TIED CARD OF 'dynposlaw37.ReplaySplits'. -/
def replaySplitsCard : Claim7 := { stood := { row := replaySplitsRow, standIns := [], harness := (true, "273122f0a8af5a41017e407c3b4c2141e6d160e84bc540754073c4da5d3ff135"), looks := false }, kinds := [], alts := [], laidByText := true, laidKinds := [.data, .data, .data], laidTests := true, laidLooks := .later }
def ReplaySplitsCardSaid : Prop := Claim7.holds Tryz.pinned (.plain (OpenSpec.ofChange replaySplitsSpec)) replaySplitsCard

/-- THE TIED CARD OF 'dynposlaw37.ReplayDiffers'. -/
def replayDiffersCard : Claim7 := { stood := { row := replayDiffersRow, standIns := [], harness := (true, "273122f0a8af5a41017e407c3b4c2141e6d160e84bc540754073c4da5d3ff135"), looks := false }, kinds := [], alts := [], laidByText := true, laidKinds := [.data, .data, .data], laidTests := true, laidLooks := .later }
def ReplayDiffersCardSaid : Prop := Claim7.holds Tryz.pinned (.plain (OpenSpec.ofChange replayDiffersSpec)) replayDiffersCard

/-- THE TIED CARD OF 'dynposlaw37.ReplayShorter'. -/
def replayShorterCard : Claim7 := { stood := { row := replayShorterRow, standIns := [], harness := (true, "273122f0a8af5a41017e407c3b4c2141e6d160e84bc540754073c4da5d3ff135"), looks := false }, kinds := [], alts := [], laidByText := true, laidKinds := [.data, .data, .data], laidTests := true, laidLooks := .later }
def ReplayShorterCardSaid : Prop := Claim7.holds Tryz.pinned (.plain (OpenSpec.ofChange replayShorterSpec)) replayShorterCard

/-- THE TIED CARD OF 'dynposlaw37.ReplayTexts'. -/
def replayTextsCard : Claim7 := { stood := { row := replayTextsRow, standIns := [], harness := (true, "273122f0a8af5a41017e407c3b4c2141e6d160e84bc540754073c4da5d3ff135"), looks := false }, kinds := [], alts := [], laidByText := true, laidKinds := [.data, .data, .data], laidTests := true, laidLooks := .later }
def ReplayTextsCardSaid : Prop := Claim7.holds Tryz.pinned (.plain (OpenSpec.ofChange replayTextsSpec)) replayTextsCard

/-- THE TIED CARD OF 'dynposlaw37.ReplayNever'. -/
def replayNeverCard : Claim7 := { stood := { row := replayNeverRow, standIns := [], harness := (true, "273122f0a8af5a41017e407c3b4c2141e6d160e84bc540754073c4da5d3ff135"), looks := false }, kinds := [], alts := [], laidByText := true, laidKinds := [.data, .data, .data], laidTests := true, laidLooks := .later }
def ReplayNeverCardSaid : Prop := Claim7.holds Tryz.pinned (.plain (OpenSpec.ofChange replayNeverSpec)) replayNeverCard

/-- THE SECOND FORM's CARD OF 'dynposlaw37.ReplaySplits'. -/
def replaySplitsUptoCard : Claim7 := { stood := { row := replaySplitsUptoRow, standIns := [], harness := (true, "273122f0a8af5a41017e407c3b4c2141e6d160e84bc540754073c4da5d3ff135"), looks := false }, kinds := [], alts := [], laidByText := true, laidKinds := [.data, .data, .data], laidTests := true, laidLooks := .later }
def ReplaySplitsUptoCardSaid : Prop := Claim7.holds Tryz.pinned (.plain (OpenSpec.upto replaySplitsSpec)) replaySplitsUptoCard

/-- THE SECOND FORM's CARD OF 'dynposlaw37.ReplayDiffers'. -/
def replayDiffersUptoCard : Claim7 := { stood := { row := replayDiffersUptoRow, standIns := [], harness := (true, "273122f0a8af5a41017e407c3b4c2141e6d160e84bc540754073c4da5d3ff135"), looks := false }, kinds := [], alts := [], laidByText := true, laidKinds := [.data, .data, .data], laidTests := true, laidLooks := .later }
def ReplayDiffersUptoCardSaid : Prop := Claim7.holds Tryz.pinned (.plain (OpenSpec.upto replayDiffersSpec)) replayDiffersUptoCard

/-- THE SECOND FORM's CARD OF 'dynposlaw37.ReplayShorter'. -/
def replayShorterUptoCard : Claim7 := { stood := { row := replayShorterUptoRow, standIns := [], harness := (true, "273122f0a8af5a41017e407c3b4c2141e6d160e84bc540754073c4da5d3ff135"), looks := false }, kinds := [], alts := [], laidByText := true, laidKinds := [.data, .data, .data], laidTests := true, laidLooks := .later }
def ReplayShorterUptoCardSaid : Prop := Claim7.holds Tryz.pinned (.plain (OpenSpec.upto replayShorterSpec)) replayShorterUptoCard

/-- THE SECOND FORM's CARD OF 'dynposlaw37.ReplayTexts'. -/
def replayTextsUptoCard : Claim7 := { stood := { row := replayTextsUptoRow, standIns := [], harness := (true, "273122f0a8af5a41017e407c3b4c2141e6d160e84bc540754073c4da5d3ff135"), looks := false }, kinds := [], alts := [], laidByText := true, laidKinds := [.data, .data, .data], laidTests := true, laidLooks := .later }
def ReplayTextsUptoCardSaid : Prop := Claim7.holds Tryz.pinned (.plain (OpenSpec.upto replayTextsSpec)) replayTextsUptoCard

/-- THE SECOND FORM's CARD OF 'dynposlaw37.ReplayNever'. -/
def replayNeverUptoCard : Claim7 := { stood := { row := replayNeverUptoRow, standIns := [], harness := (true, "273122f0a8af5a41017e407c3b4c2141e6d160e84bc540754073c4da5d3ff135"), looks := false }, kinds := [], alts := [], laidByText := true, laidKinds := [.data, .data, .data], laidTests := true, laidLooks := .later }
def ReplayNeverUptoCardSaid : Prop := Claim7.holds Tryz.pinned (.plain (OpenSpec.upto replayNeverSpec)) replayNeverUptoCard
end Rows
end Go.Proofs.YtpdbkiafikdgpaaGreatDoor
