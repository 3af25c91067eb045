/-
  No cell of these rows narrows 'for every input' (looked for: loops, veiled, ifaces, maps, wideKeys, modest, calm, conditions, laid).
  DERIVED. THE GIVEN ROWS OF THIS SEAT. 5 by the template 'for every input the law returns true; each argument reads behind the call as it read before'; 0 by the template 'total and deterministic' (their statements: YthgnbpdjncbkfaaGreatTotals.lean).
  GIVEN WITH THE SEED: the statements are not yours to turn. If you find one false, say at which input.
  Laid BY PROGRAM, IN A SANDBOX (cutbox-rows.mjs): the forced cells as the released guide's own fill.sh prints them over the translation 1f9c81d4252b82d7… (all of the seat's roots in one cut). By AI agents, Wed Nov 11 2026. No macro, syntax, notation, axiom, sorry.
-/
import Derived.Test.YthgnbpdjncbkfaaGreatChecked
import GoSem.Claim
import GoSem.ClaimJoined
import GoSem.ClaimMapViews
import Derived.JoinedTies
import Derived.KernelRfl
namespace Go.Proofs.YthgnbpdjncbkfaaGreat
/- THE CELL 'sum', in the pinned program and in every row, IS THE sha256 OF THE DUMP (.gsa) THAT YthgnbpdjncbkfaaGreatProg.lean LOADS. Nothing in Lean hashes anything: it is a label: what it is worth is what the hold of that sum in a sandbox is worth. -/
noncomputable def Tryz.pinned : Pinned := { name := "ythgnbpdjncbkfaagreat", sum := "1f9c81d4252b82d7dce4b2f732f8442a199530c040b7ac08da1db2741d0b8741", checked := Tryz.checked }
namespace Rows
def none {H : Type} : Left H := { results := [], args := [] }

/-- 'dynposlaw21.PlantNotes': WHATEVER THE INPUT: true; the input reads as it did. -/
def plantNotesSpec : ChangeSpec := { name := "plantNotes", fn := fun _ => fun
  | [d] => { results := [.lit (.bool true)], args := [d] }
  | _ => none }
def plantNotesRow : OpenClaim := { program := "ythgnbpdjncbkfaagreat", sum := "1f9c81d4252b82d7dce4b2f732f8442a199530c040b7ac08da1db2741d0b8741", func := "dynpos/dynposlaw21.PlantNotes", spec := "plantNotes", inPlace := ["slices.overlaps[dynpos/api.Part]"], unfollowed := true, recurses := true, apart := false }
def PlantNotesSaid : Prop := plantNotesRow.holds Tryz.pinned (OpenSpec.ofChange plantNotesSpec)

/-- ITS FALSE NEIGHBOUR: 'it returns false'. Refute it at one input. -/
def plantNotesWrong : ChangeSpec := { name := "plantNotes", fn := fun _ => fun
  | [d] => { results := [.lit (.bool false)], args := [d] }
  | _ => none }
def PlantNotesWrongFalsely : Prop := plantNotesRow.holds Tryz.pinned (OpenSpec.ofChange plantNotesWrong)

/-- 'dynposlaw21.PlantAble': WHATEVER THE INPUT: true; the input reads as it did. -/
def plantAbleSpec : ChangeSpec := { name := "plantAble", fn := fun _ => fun
  | [d] => { results := [.lit (.bool true)], args := [d] }
  | _ => none }
def plantAbleRow : OpenClaim := { program := "ythgnbpdjncbkfaagreat", sum := "1f9c81d4252b82d7dce4b2f732f8442a199530c040b7ac08da1db2741d0b8741", func := "dynpos/dynposlaw21.PlantAble", spec := "plantAble", inPlace := ["slices.overlaps[dynpos/api.Part]"], unfollowed := true, recurses := true, apart := false }
def PlantAbleSaid : Prop := plantAbleRow.holds Tryz.pinned (OpenSpec.ofChange plantAbleSpec)

/-- ITS FALSE NEIGHBOUR: 'it returns false'. Refute it at one input. -/
def plantAbleWrong : ChangeSpec := { name := "plantAble", fn := fun _ => fun
  | [d] => { results := [.lit (.bool false)], args := [d] }
  | _ => none }
def PlantAbleWrongFalsely : Prop := plantAbleRow.holds Tryz.pinned (OpenSpec.ofChange plantAbleWrong)

/-- 'dynposlaw21.PlantNever': WHATEVER THE INPUT: true; the input reads as it did. -/
def plantNeverSpec : ChangeSpec := { name := "plantNever", fn := fun _ => fun
  | [d] => { results := [.lit (.bool true)], args := [d] }
  | _ => none }
def plantNeverRow : OpenClaim := { program := "ythgnbpdjncbkfaagreat", sum := "1f9c81d4252b82d7dce4b2f732f8442a199530c040b7ac08da1db2741d0b8741", func := "dynpos/dynposlaw21.PlantNever", spec := "plantNever", inPlace := ["slices.overlaps[dynpos/api.Part]"], unfollowed := true, recurses := true, apart := false }
def PlantNeverSaid : Prop := plantNeverRow.holds Tryz.pinned (OpenSpec.ofChange plantNeverSpec)

/-- ITS FALSE NEIGHBOUR: 'it returns false'. Refute it at one input. -/
def plantNeverWrong : ChangeSpec := { name := "plantNever", fn := fun _ => fun
  | [d] => { results := [.lit (.bool false)], args := [d] }
  | _ => none }
def PlantNeverWrongFalsely : Prop := plantNeverRow.holds Tryz.pinned (OpenSpec.ofChange plantNeverWrong)

/-- 'dynposlaw21.PlantTicks': WHATEVER THE INPUT: true; the input reads as it did. -/
def plantTicksSpec : ChangeSpec := { name := "plantTicks", fn := fun _ => fun
  | [d] => { results := [.lit (.bool true)], args := [d] }
  | _ => none }
def plantTicksRow : OpenClaim := { program := "ythgnbpdjncbkfaagreat", sum := "1f9c81d4252b82d7dce4b2f732f8442a199530c040b7ac08da1db2741d0b8741", func := "dynpos/dynposlaw21.PlantTicks", spec := "plantTicks", inPlace := ["slices.overlaps[dynpos/api.Part]"], unfollowed := true, recurses := true, apart := false }
def PlantTicksSaid : Prop := plantTicksRow.holds Tryz.pinned (OpenSpec.ofChange plantTicksSpec)

/-- ITS FALSE NEIGHBOUR: 'it returns false'. Refute it at one input. -/
def plantTicksWrong : ChangeSpec := { name := "plantTicks", fn := fun _ => fun
  | [d] => { results := [.lit (.bool false)], args := [d] }
  | _ => none }
def PlantTicksWrongFalsely : Prop := plantTicksRow.holds Tryz.pinned (OpenSpec.ofChange plantTicksWrong)

/-- 'dynposlaw21.PlantGuards': WHATEVER THE INPUT: true; the input reads as it did. -/
def plantGuardsSpec : ChangeSpec := { name := "plantGuards", fn := fun _ => fun
  | [d] => { results := [.lit (.bool true)], args := [d] }
  | _ => none }
def plantGuardsRow : OpenClaim := { program := "ythgnbpdjncbkfaagreat", sum := "1f9c81d4252b82d7dce4b2f732f8442a199530c040b7ac08da1db2741d0b8741", func := "dynpos/dynposlaw21.PlantGuards", spec := "plantGuards", inPlace := ["slices.overlaps[dynpos/api.Part]"], unfollowed := true, recurses := true, apart := false }
def PlantGuardsSaid : Prop := plantGuardsRow.holds Tryz.pinned (OpenSpec.ofChange plantGuardsSpec)

/-- ITS FALSE NEIGHBOUR: 'it returns false'. Refute it at one input. -/
def plantGuardsWrong : ChangeSpec := { name := "plantGuards", fn := fun _ => fun
  | [d] => { results := [.lit (.bool false)], args := [d] }
  | _ => none }
def PlantGuardsWrongFalsely : Prop := plantGuardsRow.holds Tryz.pinned (OpenSpec.ofChange plantGuardsWrong)

/- THE SECOND FORM. 'bulk': how many values and letters a reading holds, each counted each time it is reached (what is shared counts as often as it is met; a slice's spare places count too). A statement '..UptoSaid' is the law's where the arguments, and the package variables that the reading takes, are together of bulk at most 1048576: NARROWER than '..Said'. Prove '..Said' where nothing that the law and all that it calls make is longer than what came in: it says more and counts as full. Else prove '..UptoSaid'. A law counts once. -/
mutual
def uptoBulk {H : Type} : DataW H → Nat
  | .lit (.string bytes) => bytes.length + 1
  | .lit _ => 1
  | .nil => 1
  | .ptr d => uptoBulk d + 1
  | .slice elems spare => uptoBulkAll elems + uptoBulkAll spare + 1
  | .agg parts => uptoBulkAll parts + 1
  | .iface _ d => uptoBulk d + 1
  | .map entries => uptoBulkEntries entries + 1
  | .held _ => 1
def uptoBulkAll {H : Type} : List (DataW H) → Nat
  | [] => 0
  | d :: r => uptoBulk d + uptoBulkAll r
def uptoBulkEntries {H : Type} : List (Lit × DataW H) → Nat
  | [] => 0
  | x :: r => uptoBulkEntry x + uptoBulkEntries r
def uptoBulkEntry {H : Type} : Lit × DataW H → Nat
  | (.string bytes, d) => bytes.length + uptoBulk d + 1
  | (_, d) => uptoBulk d + 1
 end
def uptoSmall : (H : Type) → List (DataW H) → Bool := fun _ ds => decide (uptoBulkAll ds ≤ 1048576)
def OpenSpec.upto (s : _root_.Go.ChangeSpec) : _root_.Go.OpenSpec := { _root_.Go.OpenSpec.ofChange s with cond := some uptoSmall }

/-- 'dynposlaw21.PlantNotes', WHERE WHAT IT READS IS OF BULK AT MOST 1048576: true; the input reads as it did. -/
def plantNotesUptoRow : OpenClaim := { program := "ythgnbpdjncbkfaagreat", sum := "1f9c81d4252b82d7dce4b2f732f8442a199530c040b7ac08da1db2741d0b8741", func := "dynpos/dynposlaw21.PlantNotes", spec := "plantNotes", inPlace := ["slices.overlaps[dynpos/api.Part]"], unfollowed := true, recurses := true, apart := false, narrowed := true }
def PlantNotesUptoSaid : Prop := plantNotesUptoRow.holds Tryz.pinned (OpenSpec.upto plantNotesSpec)

/-- 'dynposlaw21.PlantAble', WHERE WHAT IT READS IS OF BULK AT MOST 1048576: true; the input reads as it did. -/
def plantAbleUptoRow : OpenClaim := { program := "ythgnbpdjncbkfaagreat", sum := "1f9c81d4252b82d7dce4b2f732f8442a199530c040b7ac08da1db2741d0b8741", func := "dynpos/dynposlaw21.PlantAble", spec := "plantAble", inPlace := ["slices.overlaps[dynpos/api.Part]"], unfollowed := true, recurses := true, apart := false, narrowed := true }
def PlantAbleUptoSaid : Prop := plantAbleUptoRow.holds Tryz.pinned (OpenSpec.upto plantAbleSpec)

/-- 'dynposlaw21.PlantNever', WHERE WHAT IT READS IS OF BULK AT MOST 1048576: true; the input reads as it did. -/
def plantNeverUptoRow : OpenClaim := { program := "ythgnbpdjncbkfaagreat", sum := "1f9c81d4252b82d7dce4b2f732f8442a199530c040b7ac08da1db2741d0b8741", func := "dynpos/dynposlaw21.PlantNever", spec := "plantNever", inPlace := ["slices.overlaps[dynpos/api.Part]"], unfollowed := true, recurses := true, apart := false, narrowed := true }
def PlantNeverUptoSaid : Prop := plantNeverUptoRow.holds Tryz.pinned (OpenSpec.upto plantNeverSpec)

/-- 'dynposlaw21.PlantTicks', WHERE WHAT IT READS IS OF BULK AT MOST 1048576: true; the input reads as it did. -/
def plantTicksUptoRow : OpenClaim := { program := "ythgnbpdjncbkfaagreat", sum := "1f9c81d4252b82d7dce4b2f732f8442a199530c040b7ac08da1db2741d0b8741", func := "dynpos/dynposlaw21.PlantTicks", spec := "plantTicks", inPlace := ["slices.overlaps[dynpos/api.Part]"], unfollowed := true, recurses := true, apart := false, narrowed := true }
def PlantTicksUptoSaid : Prop := plantTicksUptoRow.holds Tryz.pinned (OpenSpec.upto plantTicksSpec)

/-- 'dynposlaw21.PlantGuards', WHERE WHAT IT READS IS OF BULK AT MOST 1048576: true; the input reads as it did. -/
def plantGuardsUptoRow : OpenClaim := { program := "ythgnbpdjncbkfaagreat", sum := "1f9c81d4252b82d7dce4b2f732f8442a199530c040b7ac08da1db2741d0b8741", func := "dynpos/dynposlaw21.PlantGuards", spec := "plantGuards", inPlace := ["slices.overlaps[dynpos/api.Part]"], unfollowed := true, recurses := true, apart := false, narrowed := true }
def PlantGuardsUptoSaid : Prop := plantGuardsUptoRow.holds Tryz.pinned (OpenSpec.upto plantGuardsSpec)

end Rows
end Go.Proofs.YthgnbpdjncbkfaaGreat
