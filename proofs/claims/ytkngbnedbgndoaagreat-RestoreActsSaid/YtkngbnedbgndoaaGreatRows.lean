/-
  No cell of these rows narrows 'for every input' (looked for: loops, veiled, ifaces, maps, wideKeys, modest, calm, conditions, laid).
  DERIVED. THE GIVEN ROWS OF THIS SEAT. 12 by the template 'for every input the law returns true; each argument reads behind the call as it read before'; 0 by the template 'total and deterministic' (their statements: YtkngbnedbgndoaaGreatTotals.lean).
  GIVEN WITH THE SEED: the statements are not yours to turn. If you find one false, say at which input.
  Laid BY PROGRAM, IN A SANDBOX (cutbox-rows.mjs): the forced cells as the released guide's own fill.sh prints them over the translation 037fe7f58892fd1a… (all of the seat's roots in one cut). By AI agents, Wed Nov 11 2026. No macro, syntax, notation, axiom, sorry.
-/
import Derived.Test.YtkngbnedbgndoaaGreatChecked
import GoSem.Claim
import GoSem.ClaimJoined
import GoSem.ClaimMapViews
import Derived.JoinedTies
import Derived.KernelRfl
namespace Go.Proofs.YtkngbnedbgndoaaGreat
/- THE CELL 'sum', in the pinned program and in every row, IS THE sha256 OF THE DUMP (.gsa) THAT YtkngbnedbgndoaaGreatProg.lean LOADS. Nothing in Lean hashes anything: it is a label: what it is worth is what the hold of that sum in a sandbox is worth. -/
noncomputable def Tryz.pinned : Pinned := { name := "ytkngbnedbgndoaagreat", sum := "037fe7f58892fd1a2b17be9873fa604d7fe4289f22e41361e73df6cfef02d7db", checked := Tryz.checked }
namespace Rows
def none {H : Type} : Left H := { results := [], args := [] }

/-- 'dynposlaw20.RestoreGoal': WHATEVER THE INPUT: true; the input reads as it did. -/
def restoreGoalSpec : ChangeSpec := { name := "restoreGoal", fn := fun _ => fun
  | [d1, d2, d3] => { results := [.lit (.bool true)], args := [d1, d2, d3] }
  | _ => none }
def restoreGoalRow : OpenClaim := { program := "ytkngbnedbgndoaagreat", sum := "037fe7f58892fd1a2b17be9873fa604d7fe4289f22e41361e73df6cfef02d7db", func := "dynpos/dynposlaw20.RestoreGoal", spec := "restoreGoal", inPlace := ["slices.overlaps[dynpos/api.Part]"], unfollowed := true, recurses := true, apart := false }
def RestoreGoalSaid : Prop := restoreGoalRow.holds Tryz.pinned (OpenSpec.ofChange restoreGoalSpec)

/-- ITS FALSE NEIGHBOUR: 'it returns false'. Refute it at one input. -/
def restoreGoalWrong : ChangeSpec := { name := "restoreGoal", fn := fun _ => fun
  | [d1, d2, d3] => { results := [.lit (.bool false)], args := [d1, d2, d3] }
  | _ => none }
def RestoreGoalWrongFalsely : Prop := restoreGoalRow.holds Tryz.pinned (OpenSpec.ofChange restoreGoalWrong)

/-- 'dynposlaw20.RestoreActs': WHATEVER THE INPUT: true; the input reads as it did. -/
def restoreActsSpec : ChangeSpec := { name := "restoreActs", fn := fun _ => fun
  | [d] => { results := [.lit (.bool true)], args := [d] }
  | _ => none }
def restoreActsRow : OpenClaim := { program := "ytkngbnedbgndoaagreat", sum := "037fe7f58892fd1a2b17be9873fa604d7fe4289f22e41361e73df6cfef02d7db", func := "dynpos/dynposlaw20.RestoreActs", spec := "restoreActs", inPlace := ["slices.overlaps[dynpos/api.Part]"], unfollowed := true, recurses := true, apart := false }
def RestoreActsSaid : Prop := restoreActsRow.holds Tryz.pinned (OpenSpec.ofChange restoreActsSpec)

/-- ITS FALSE NEIGHBOUR: 'it returns false'. Refute it at one input. -/
def restoreActsWrong : ChangeSpec := { name := "restoreActs", fn := fun _ => fun
  | [d] => { results := [.lit (.bool false)], args := [d] }
  | _ => none }
def RestoreActsWrongFalsely : Prop := restoreActsRow.holds Tryz.pinned (OpenSpec.ofChange restoreActsWrong)

/-- 'dynposlaw20.RestoreStarts': WHATEVER THE INPUT: true; the input reads as it did. -/
def restoreStartsSpec : ChangeSpec := { name := "restoreStarts", fn := fun _ => fun
  | [d] => { results := [.lit (.bool true)], args := [d] }
  | _ => none }
def restoreStartsRow : OpenClaim := { program := "ytkngbnedbgndoaagreat", sum := "037fe7f58892fd1a2b17be9873fa604d7fe4289f22e41361e73df6cfef02d7db", func := "dynpos/dynposlaw20.RestoreStarts", spec := "restoreStarts", inPlace := ["slices.overlaps[dynpos/api.Part]"], unfollowed := true, recurses := true, apart := false }
def RestoreStartsSaid : Prop := restoreStartsRow.holds Tryz.pinned (OpenSpec.ofChange restoreStartsSpec)

/-- ITS FALSE NEIGHBOUR: 'it returns false'. Refute it at one input. -/
def restoreStartsWrong : ChangeSpec := { name := "restoreStarts", fn := fun _ => fun
  | [d] => { results := [.lit (.bool false)], args := [d] }
  | _ => none }
def RestoreStartsWrongFalsely : Prop := restoreStartsRow.holds Tryz.pinned (OpenSpec.ofChange restoreStartsWrong)

/-- 'dynposlaw20.RestoreOrder': WHATEVER THE INPUT: true; the input reads as it did. -/
def restoreOrderSpec : ChangeSpec := { name := "restoreOrder", fn := fun _ => fun
  | [d] => { results := [.lit (.bool true)], args := [d] }
  | _ => none }
def restoreOrderRow : OpenClaim := { program := "ytkngbnedbgndoaagreat", sum := "037fe7f58892fd1a2b17be9873fa604d7fe4289f22e41361e73df6cfef02d7db", func := "dynpos/dynposlaw20.RestoreOrder", spec := "restoreOrder", inPlace := ["slices.overlaps[dynpos/api.Part]"], unfollowed := true, recurses := true, apart := false }
def RestoreOrderSaid : Prop := restoreOrderRow.holds Tryz.pinned (OpenSpec.ofChange restoreOrderSpec)

/-- ITS FALSE NEIGHBOUR: 'it returns false'. Refute it at one input. -/
def restoreOrderWrong : ChangeSpec := { name := "restoreOrder", fn := fun _ => fun
  | [d] => { results := [.lit (.bool false)], args := [d] }
  | _ => none }
def RestoreOrderWrongFalsely : Prop := restoreOrderRow.holds Tryz.pinned (OpenSpec.ofChange restoreOrderWrong)

/-- 'dynposlaw20.RestoreReaches': WHATEVER THE INPUT: true; the input reads as it did. -/
def restoreReachesSpec : ChangeSpec := { name := "restoreReaches", fn := fun _ => fun
  | [d] => { results := [.lit (.bool true)], args := [d] }
  | _ => none }
def restoreReachesRow : OpenClaim := { program := "ytkngbnedbgndoaagreat", sum := "037fe7f58892fd1a2b17be9873fa604d7fe4289f22e41361e73df6cfef02d7db", func := "dynpos/dynposlaw20.RestoreReaches", spec := "restoreReaches", inPlace := ["slices.overlaps[dynpos/api.Part]"], unfollowed := true, recurses := true, apart := false }
def RestoreReachesSaid : Prop := restoreReachesRow.holds Tryz.pinned (OpenSpec.ofChange restoreReachesSpec)

/-- ITS FALSE NEIGHBOUR: 'it returns false'. Refute it at one input. -/
def restoreReachesWrong : ChangeSpec := { name := "restoreReaches", fn := fun _ => fun
  | [d] => { results := [.lit (.bool false)], args := [d] }
  | _ => none }
def RestoreReachesWrongFalsely : Prop := restoreReachesRow.holds Tryz.pinned (OpenSpec.ofChange restoreReachesWrong)

/-- 'dynposlaw20.RestoreProves': WHATEVER THE INPUT: true; the input reads as it did. -/
def restoreProvesSpec : ChangeSpec := { name := "restoreProves", fn := fun _ => fun
  | [d] => { results := [.lit (.bool true)], args := [d] }
  | _ => none }
def restoreProvesRow : OpenClaim := { program := "ytkngbnedbgndoaagreat", sum := "037fe7f58892fd1a2b17be9873fa604d7fe4289f22e41361e73df6cfef02d7db", func := "dynpos/dynposlaw20.RestoreProves", spec := "restoreProves", inPlace := ["slices.overlaps[dynpos/api.Part]"], unfollowed := true, recurses := true, apart := false }
def RestoreProvesSaid : Prop := restoreProvesRow.holds Tryz.pinned (OpenSpec.ofChange restoreProvesSpec)

/-- ITS FALSE NEIGHBOUR: 'it returns false'. Refute it at one input. -/
def restoreProvesWrong : ChangeSpec := { name := "restoreProves", fn := fun _ => fun
  | [d] => { results := [.lit (.bool false)], args := [d] }
  | _ => none }
def RestoreProvesWrongFalsely : Prop := restoreProvesRow.holds Tryz.pinned (OpenSpec.ofChange restoreProvesWrong)

/-- 'dynposlaw21.PlantNew': WHATEVER THE INPUT: true; the input reads as it did. -/
def plantNewSpec : ChangeSpec := { name := "plantNew", fn := fun _ => fun
  | [d] => { results := [.lit (.bool true)], args := [d] }
  | _ => none }
def plantNewRow : OpenClaim := { program := "ytkngbnedbgndoaagreat", sum := "037fe7f58892fd1a2b17be9873fa604d7fe4289f22e41361e73df6cfef02d7db", func := "dynpos/dynposlaw21.PlantNew", spec := "plantNew", inPlace := ["slices.overlaps[dynpos/api.Part]"], unfollowed := true, recurses := true, apart := false }
def PlantNewSaid : Prop := plantNewRow.holds Tryz.pinned (OpenSpec.ofChange plantNewSpec)

/-- ITS FALSE NEIGHBOUR: 'it returns false'. Refute it at one input. -/
def plantNewWrong : ChangeSpec := { name := "plantNew", fn := fun _ => fun
  | [d] => { results := [.lit (.bool false)], args := [d] }
  | _ => none }
def PlantNewWrongFalsely : Prop := plantNewRow.holds Tryz.pinned (OpenSpec.ofChange plantNewWrong)

/-- 'dynposlaw21.PlantNotes': WHATEVER THE INPUT: true; the input reads as it did. -/
def plantNotesSpec : ChangeSpec := { name := "plantNotes", fn := fun _ => fun
  | [d] => { results := [.lit (.bool true)], args := [d] }
  | _ => none }
def plantNotesRow : OpenClaim := { program := "ytkngbnedbgndoaagreat", sum := "037fe7f58892fd1a2b17be9873fa604d7fe4289f22e41361e73df6cfef02d7db", func := "dynpos/dynposlaw21.PlantNotes", spec := "plantNotes", inPlace := ["slices.overlaps[dynpos/api.Part]"], unfollowed := true, recurses := true, apart := false }
def PlantNotesSaid : Prop := plantNotesRow.holds Tryz.pinned (OpenSpec.ofChange plantNotesSpec)

/-- ITS FALSE NEIGHBOUR: 'it returns false'. Refute it at one input. -/
def plantNotesWrong : ChangeSpec := { name := "plantNotes", fn := fun _ => fun
  | [d] => { results := [.lit (.bool false)], args := [d] }
  | _ => none }
def PlantNotesWrongFalsely : Prop := plantNotesRow.holds Tryz.pinned (OpenSpec.ofChange plantNotesWrong)

/-- 'dynposlaw21.PlantAble': WHATEVER THE INPUT: true; the input reads as it did. -/
def plantAbleSpec : ChangeSpec := { name := "plantAble", fn := fun _ => fun
  | [d] => { results := [.lit (.bool true)], args := [d] }
  | _ => none }
def plantAbleRow : OpenClaim := { program := "ytkngbnedbgndoaagreat", sum := "037fe7f58892fd1a2b17be9873fa604d7fe4289f22e41361e73df6cfef02d7db", func := "dynpos/dynposlaw21.PlantAble", spec := "plantAble", inPlace := ["slices.overlaps[dynpos/api.Part]"], unfollowed := true, recurses := true, apart := false }
def PlantAbleSaid : Prop := plantAbleRow.holds Tryz.pinned (OpenSpec.ofChange plantAbleSpec)

/-- ITS FALSE NEIGHBOUR: 'it returns false'. Refute it at one input. -/
def plantAbleWrong : ChangeSpec := { name := "plantAble", fn := fun _ => fun
  | [d] => { results := [.lit (.bool false)], args := [d] }
  | _ => none }
def PlantAbleWrongFalsely : Prop := plantAbleRow.holds Tryz.pinned (OpenSpec.ofChange plantAbleWrong)

/-- 'dynposlaw21.PlantNever': WHATEVER THE INPUT: true; the input reads as it did. -/
def plantNeverSpec : ChangeSpec := { name := "plantNever", fn := fun _ => fun
  | [d] => { results := [.lit (.bool true)], args := [d] }
  | _ => none }
def plantNeverRow : OpenClaim := { program := "ytkngbnedbgndoaagreat", sum := "037fe7f58892fd1a2b17be9873fa604d7fe4289f22e41361e73df6cfef02d7db", func := "dynpos/dynposlaw21.PlantNever", spec := "plantNever", inPlace := ["slices.overlaps[dynpos/api.Part]"], unfollowed := true, recurses := true, apart := false }
def PlantNeverSaid : Prop := plantNeverRow.holds Tryz.pinned (OpenSpec.ofChange plantNeverSpec)

/-- ITS FALSE NEIGHBOUR: 'it returns false'. Refute it at one input. -/
def plantNeverWrong : ChangeSpec := { name := "plantNever", fn := fun _ => fun
  | [d] => { results := [.lit (.bool false)], args := [d] }
  | _ => none }
def PlantNeverWrongFalsely : Prop := plantNeverRow.holds Tryz.pinned (OpenSpec.ofChange plantNeverWrong)

/-- 'dynposlaw21.PlantTicks': WHATEVER THE INPUT: true; the input reads as it did. -/
def plantTicksSpec : ChangeSpec := { name := "plantTicks", fn := fun _ => fun
  | [d] => { results := [.lit (.bool true)], args := [d] }
  | _ => none }
def plantTicksRow : OpenClaim := { program := "ytkngbnedbgndoaagreat", sum := "037fe7f58892fd1a2b17be9873fa604d7fe4289f22e41361e73df6cfef02d7db", func := "dynpos/dynposlaw21.PlantTicks", spec := "plantTicks", inPlace := ["slices.overlaps[dynpos/api.Part]"], unfollowed := true, recurses := true, apart := false }
def PlantTicksSaid : Prop := plantTicksRow.holds Tryz.pinned (OpenSpec.ofChange plantTicksSpec)

/-- ITS FALSE NEIGHBOUR: 'it returns false'. Refute it at one input. -/
def plantTicksWrong : ChangeSpec := { name := "plantTicks", fn := fun _ => fun
  | [d] => { results := [.lit (.bool false)], args := [d] }
  | _ => none }
def PlantTicksWrongFalsely : Prop := plantTicksRow.holds Tryz.pinned (OpenSpec.ofChange plantTicksWrong)

/-- 'dynposlaw21.PlantGuards': WHATEVER THE INPUT: true; the input reads as it did. -/
def plantGuardsSpec : ChangeSpec := { name := "plantGuards", fn := fun _ => fun
  | [d] => { results := [.lit (.bool true)], args := [d] }
  | _ => none }
def plantGuardsRow : OpenClaim := { program := "ytkngbnedbgndoaagreat", sum := "037fe7f58892fd1a2b17be9873fa604d7fe4289f22e41361e73df6cfef02d7db", func := "dynpos/dynposlaw21.PlantGuards", spec := "plantGuards", inPlace := ["slices.overlaps[dynpos/api.Part]"], unfollowed := true, recurses := true, apart := false }
def PlantGuardsSaid : Prop := plantGuardsRow.holds Tryz.pinned (OpenSpec.ofChange plantGuardsSpec)

/-- ITS FALSE NEIGHBOUR: 'it returns false'. Refute it at one input. -/
def plantGuardsWrong : ChangeSpec := { name := "plantGuards", fn := fun _ => fun
  | [d] => { results := [.lit (.bool false)], args := [d] }
  | _ => none }
def PlantGuardsWrongFalsely : Prop := plantGuardsRow.holds Tryz.pinned (OpenSpec.ofChange plantGuardsWrong)

/- THE SECOND FORM. 'bulk': how many values and letters a reading holds, each counted each time it is reached (what is shared counts as often as it is met; a slice's spare places count too). A statement '..UptoSaid' is the law's where the arguments, and the package variables that the reading takes, are together of bulk at most 1048576: NARROWER than '..Said'. Prove '..Said' where nothing that the law and all that it calls make is longer than what came in: it says more and counts as full. Else prove '..UptoSaid'. A law counts once. -/
mutual
def uptoBulk {H : Type} : DataW H → Nat
  | .lit (.string bytes) => bytes.length + 1
  | .lit _ => 1
  | .nil => 1
  | .ptr d => uptoBulk d + 1
  | .slice elems spare => uptoBulkAll elems + uptoBulkAll spare + 1
  | .agg parts => uptoBulkAll parts + 1
  | .iface _ d => uptoBulk d + 1
  | .map entries => uptoBulkEntries entries + 1
  | .held _ => 1
def uptoBulkAll {H : Type} : List (DataW H) → Nat
  | [] => 0
  | d :: r => uptoBulk d + uptoBulkAll r
def uptoBulkEntries {H : Type} : List (Lit × DataW H) → Nat
  | [] => 0
  | x :: r => uptoBulkEntry x + uptoBulkEntries r
def uptoBulkEntry {H : Type} : Lit × DataW H → Nat
  | (.string bytes, d) => bytes.length + uptoBulk d + 1
  | (_, d) => uptoBulk d + 1
 end
def uptoSmall : (H : Type) → List (DataW H) → Bool := fun _ ds => decide (uptoBulkAll ds ≤ 1048576)
def OpenSpec.upto (s : _root_.Go.ChangeSpec) : _root_.Go.OpenSpec := { _root_.Go.OpenSpec.ofChange s with cond := some uptoSmall }

/-- 'dynposlaw20.RestoreGoal', WHERE WHAT IT READS IS OF BULK AT MOST 1048576: true; the input reads as it did. -/
def restoreGoalUptoRow : OpenClaim := { program := "ytkngbnedbgndoaagreat", sum := "037fe7f58892fd1a2b17be9873fa604d7fe4289f22e41361e73df6cfef02d7db", func := "dynpos/dynposlaw20.RestoreGoal", spec := "restoreGoal", inPlace := ["slices.overlaps[dynpos/api.Part]"], unfollowed := true, recurses := true, apart := false, narrowed := true }
def RestoreGoalUptoSaid : Prop := restoreGoalUptoRow.holds Tryz.pinned (OpenSpec.upto restoreGoalSpec)

/-- 'dynposlaw20.RestoreActs', WHERE WHAT IT READS IS OF BULK AT MOST 1048576: true; the input reads as it did. -/
def restoreActsUptoRow : OpenClaim := { program := "ytkngbnedbgndoaagreat", sum := "037fe7f58892fd1a2b17be9873fa604d7fe4289f22e41361e73df6cfef02d7db", func := "dynpos/dynposlaw20.RestoreActs", spec := "restoreActs", inPlace := ["slices.overlaps[dynpos/api.Part]"], unfollowed := true, recurses := true, apart := false, narrowed := true }
def RestoreActsUptoSaid : Prop := restoreActsUptoRow.holds Tryz.pinned (OpenSpec.upto restoreActsSpec)

/-- 'dynposlaw20.RestoreStarts', WHERE WHAT IT READS IS OF BULK AT MOST 1048576: true; the input reads as it did. -/
def restoreStartsUptoRow : OpenClaim := { program := "ytkngbnedbgndoaagreat", sum := "037fe7f58892fd1a2b17be9873fa604d7fe4289f22e41361e73df6cfef02d7db", func := "dynpos/dynposlaw20.RestoreStarts", spec := "restoreStarts", inPlace := ["slices.overlaps[dynpos/api.Part]"], unfollowed := true, recurses := true, apart := false, narrowed := true }
def RestoreStartsUptoSaid : Prop := restoreStartsUptoRow.holds Tryz.pinned (OpenSpec.upto restoreStartsSpec)

/-- 'dynposlaw20.RestoreOrder', WHERE WHAT IT READS IS OF BULK AT MOST 1048576: true; the input reads as it did. -/
def restoreOrderUptoRow : OpenClaim := { program := "ytkngbnedbgndoaagreat", sum := "037fe7f58892fd1a2b17be9873fa604d7fe4289f22e41361e73df6cfef02d7db", func := "dynpos/dynposlaw20.RestoreOrder", spec := "restoreOrder", inPlace := ["slices.overlaps[dynpos/api.Part]"], unfollowed := true, recurses := true, apart := false, narrowed := true }
def RestoreOrderUptoSaid : Prop := restoreOrderUptoRow.holds Tryz.pinned (OpenSpec.upto restoreOrderSpec)

/-- 'dynposlaw20.RestoreReaches', WHERE WHAT IT READS IS OF BULK AT MOST 1048576: true; the input reads as it did. -/
def restoreReachesUptoRow : OpenClaim := { program := "ytkngbnedbgndoaagreat", sum := "037fe7f58892fd1a2b17be9873fa604d7fe4289f22e41361e73df6cfef02d7db", func := "dynpos/dynposlaw20.RestoreReaches", spec := "restoreReaches", inPlace := ["slices.overlaps[dynpos/api.Part]"], unfollowed := true, recurses := true, apart := false, narrowed := true }
def RestoreReachesUptoSaid : Prop := restoreReachesUptoRow.holds Tryz.pinned (OpenSpec.upto restoreReachesSpec)

/-- 'dynposlaw20.RestoreProves', WHERE WHAT IT READS IS OF BULK AT MOST 1048576: true; the input reads as it did. -/
def restoreProvesUptoRow : OpenClaim := { program := "ytkngbnedbgndoaagreat", sum := "037fe7f58892fd1a2b17be9873fa604d7fe4289f22e41361e73df6cfef02d7db", func := "dynpos/dynposlaw20.RestoreProves", spec := "restoreProves", inPlace := ["slices.overlaps[dynpos/api.Part]"], unfollowed := true, recurses := true, apart := false, narrowed := true }
def RestoreProvesUptoSaid : Prop := restoreProvesUptoRow.holds Tryz.pinned (OpenSpec.upto restoreProvesSpec)

/-- 'dynposlaw21.PlantNew', WHERE WHAT IT READS IS OF BULK AT MOST 1048576: true; the input reads as it did. -/
def plantNewUptoRow : OpenClaim := { program := "ytkngbnedbgndoaagreat", sum := "037fe7f58892fd1a2b17be9873fa604d7fe4289f22e41361e73df6cfef02d7db", func := "dynpos/dynposlaw21.PlantNew", spec := "plantNew", inPlace := ["slices.overlaps[dynpos/api.Part]"], unfollowed := true, recurses := true, apart := false, narrowed := true }
def PlantNewUptoSaid : Prop := plantNewUptoRow.holds Tryz.pinned (OpenSpec.upto plantNewSpec)

/-- 'dynposlaw21.PlantNotes', WHERE WHAT IT READS IS OF BULK AT MOST 1048576: true; the input reads as it did. -/
def plantNotesUptoRow : OpenClaim := { program := "ytkngbnedbgndoaagreat", sum := "037fe7f58892fd1a2b17be9873fa604d7fe4289f22e41361e73df6cfef02d7db", func := "dynpos/dynposlaw21.PlantNotes", spec := "plantNotes", inPlace := ["slices.overlaps[dynpos/api.Part]"], unfollowed := true, recurses := true, apart := false, narrowed := true }
def PlantNotesUptoSaid : Prop := plantNotesUptoRow.holds Tryz.pinned (OpenSpec.upto plantNotesSpec)

/-- 'dynposlaw21.PlantAble', WHERE WHAT IT READS IS OF BULK AT MOST 1048576: true; the input reads as it did. -/
def plantAbleUptoRow : OpenClaim := { program := "ytkngbnedbgndoaagreat", sum := "037fe7f58892fd1a2b17be9873fa604d7fe4289f22e41361e73df6cfef02d7db", func := "dynpos/dynposlaw21.PlantAble", spec := "plantAble", inPlace := ["slices.overlaps[dynpos/api.Part]"], unfollowed := true, recurses := true, apart := false, narrowed := true }
def PlantAbleUptoSaid : Prop := plantAbleUptoRow.holds Tryz.pinned (OpenSpec.upto plantAbleSpec)

/-- 'dynposlaw21.PlantNever', WHERE WHAT IT READS IS OF BULK AT MOST 1048576: true; the input reads as it did. -/
def plantNeverUptoRow : OpenClaim := { program := "ytkngbnedbgndoaagreat", sum := "037fe7f58892fd1a2b17be9873fa604d7fe4289f22e41361e73df6cfef02d7db", func := "dynpos/dynposlaw21.PlantNever", spec := "plantNever", inPlace := ["slices.overlaps[dynpos/api.Part]"], unfollowed := true, recurses := true, apart := false, narrowed := true }
def PlantNeverUptoSaid : Prop := plantNeverUptoRow.holds Tryz.pinned (OpenSpec.upto plantNeverSpec)

/-- 'dynposlaw21.PlantTicks', WHERE WHAT IT READS IS OF BULK AT MOST 1048576: true; the input reads as it did. -/
def plantTicksUptoRow : OpenClaim := { program := "ytkngbnedbgndoaagreat", sum := "037fe7f58892fd1a2b17be9873fa604d7fe4289f22e41361e73df6cfef02d7db", func := "dynpos/dynposlaw21.PlantTicks", spec := "plantTicks", inPlace := ["slices.overlaps[dynpos/api.Part]"], unfollowed := true, recurses := true, apart := false, narrowed := true }
def PlantTicksUptoSaid : Prop := plantTicksUptoRow.holds Tryz.pinned (OpenSpec.upto plantTicksSpec)

/-- 'dynposlaw21.PlantGuards', WHERE WHAT IT READS IS OF BULK AT MOST 1048576: true; the input reads as it did. -/
def plantGuardsUptoRow : OpenClaim := { program := "ytkngbnedbgndoaagreat", sum := "037fe7f58892fd1a2b17be9873fa604d7fe4289f22e41361e73df6cfef02d7db", func := "dynpos/dynposlaw21.PlantGuards", spec := "plantGuards", inPlace := ["slices.overlaps[dynpos/api.Part]"], unfollowed := true, recurses := true, apart := false, narrowed := true }
def PlantGuardsUptoSaid : Prop := plantGuardsUptoRow.holds Tryz.pinned (OpenSpec.upto plantGuardsSpec)

end Rows
end Go.Proofs.YtkngbnedbgndoaaGreat
