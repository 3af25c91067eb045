/-
  No cell of these rows narrows 'for every input' (looked for: loops, veiled, ifaces, maps, wideKeys, modest, calm, conditions, laid).
  DERIVED. THE GIVEN ROWS OF THIS SEAT. 6 by the template 'for every input the law returns true; each argument reads behind the call as it read before'; 0 by the template 'total and deterministic' (their statements: YtiaaaghdkhnonaaGreatTotals.lean).
  GIVEN WITH THE SEED: the statements are not yours to turn. If you find one false, say at which input.
  Laid BY PROGRAM, IN A SANDBOX (cutbox-rows.mjs): the forced cells as the released guide's own fill.sh prints them over the translation 1037f0dd4c6e75a1… (all of the seat's roots in one cut). By AI agents, Wed Nov 11 2026. No macro, syntax, notation, axiom, sorry.
-/
import Derived.Test.YtiaaaghdkhnonaaGreatChecked
import GoSem.Claim
import GoSem.ClaimJoined
import GoSem.ClaimMapViews
import Derived.JoinedTies
import Derived.KernelRfl
namespace Go.Proofs.YtiaaaghdkhnonaaGreat
/- THE CELL 'sum', in the pinned program and in every row, IS THE sha256 OF THE DUMP (.gsa) THAT YtiaaaghdkhnonaaGreatProg.lean LOADS. Nothing in Lean hashes anything: it is a label: what it is worth is what the hold of that sum in a sandbox is worth. -/
noncomputable def Tryz.pinned : Pinned := { name := "ytiaaaghdkhnonaagreat", sum := "1037f0dd4c6e75a11a17630d7fb55b582d7946e14fa7bf8206df5efcb5ddfb9a", checked := Tryz.checked }
namespace Rows
def none {H : Type} : Left H := { results := [], args := [] }

/-- 'dynposlaw27.ConsequenceFails': WHATEVER THE INPUT: true; the input reads as it did. -/
def consequenceFailsSpec : ChangeSpec := { name := "consequenceFails", fn := fun _ => fun
  | [d1, d2] => { results := [.lit (.bool true)], args := [d1, d2] }
  | _ => none }
def consequenceFailsRow : OpenClaim := { program := "ytiaaaghdkhnonaagreat", sum := "1037f0dd4c6e75a11a17630d7fb55b582d7946e14fa7bf8206df5efcb5ddfb9a", func := "dynpos/dynposlaw27.ConsequenceFails", spec := "consequenceFails", inPlace := ["slices.overlaps[dynpos/api.Part]"], unfollowed := true, recurses := true, plainKeys := false, apart := false }
def ConsequenceFailsSaid : Prop := consequenceFailsRow.holds Tryz.pinned (OpenSpec.ofChange consequenceFailsSpec)

/-- ITS FALSE NEIGHBOUR: 'it returns false'. Refute it at one input. -/
def consequenceFailsWrong : ChangeSpec := { name := "consequenceFails", fn := fun _ => fun
  | [d1, d2] => { results := [.lit (.bool false)], args := [d1, d2] }
  | _ => none }
def ConsequenceFailsWrongFalsely : Prop := consequenceFailsRow.holds Tryz.pinned (OpenSpec.ofChange consequenceFailsWrong)

/-- 'dynposlaw27.ConsequenceSingles': WHATEVER THE INPUT: true; the input reads as it did. -/
def consequenceSinglesSpec : ChangeSpec := { name := "consequenceSingles", fn := fun _ => fun
  | [d] => { results := [.lit (.bool true)], args := [d] }
  | _ => none }
def consequenceSinglesRow : OpenClaim := { program := "ytiaaaghdkhnonaagreat", sum := "1037f0dd4c6e75a11a17630d7fb55b582d7946e14fa7bf8206df5efcb5ddfb9a", func := "dynpos/dynposlaw27.ConsequenceSingles", spec := "consequenceSingles", inPlace := ["slices.overlaps[dynpos/api.Part]"], unfollowed := true, recurses := true, plainKeys := false, apart := false }
def ConsequenceSinglesSaid : Prop := consequenceSinglesRow.holds Tryz.pinned (OpenSpec.ofChange consequenceSinglesSpec)

/-- ITS FALSE NEIGHBOUR: 'it returns false'. Refute it at one input. -/
def consequenceSinglesWrong : ChangeSpec := { name := "consequenceSingles", fn := fun _ => fun
  | [d] => { results := [.lit (.bool false)], args := [d] }
  | _ => none }
def ConsequenceSinglesWrongFalsely : Prop := consequenceSinglesRow.holds Tryz.pinned (OpenSpec.ofChange consequenceSinglesWrong)

/-- 'dynposlaw27.ConsequenceBroken': WHATEVER THE INPUT: true; the input reads as it did. -/
def consequenceBrokenSpec : ChangeSpec := { name := "consequenceBroken", fn := fun _ => fun
  | [d] => { results := [.lit (.bool true)], args := [d] }
  | _ => none }
def consequenceBrokenRow : OpenClaim := { program := "ytiaaaghdkhnonaagreat", sum := "1037f0dd4c6e75a11a17630d7fb55b582d7946e14fa7bf8206df5efcb5ddfb9a", func := "dynpos/dynposlaw27.ConsequenceBroken", spec := "consequenceBroken", inPlace := ["slices.overlaps[dynpos/api.Part]"], unfollowed := true, recurses := true, plainKeys := false, apart := false }
def ConsequenceBrokenSaid : Prop := consequenceBrokenRow.holds Tryz.pinned (OpenSpec.ofChange consequenceBrokenSpec)

/-- ITS FALSE NEIGHBOUR: 'it returns false'. Refute it at one input. -/
def consequenceBrokenWrong : ChangeSpec := { name := "consequenceBroken", fn := fun _ => fun
  | [d] => { results := [.lit (.bool false)], args := [d] }
  | _ => none }
def ConsequenceBrokenWrongFalsely : Prop := consequenceBrokenRow.holds Tryz.pinned (OpenSpec.ofChange consequenceBrokenWrong)

/-- 'dynposlaw27.ConsequenceThrusters': WHATEVER THE INPUT: true; the input reads as it did. -/
def consequenceThrustersSpec : ChangeSpec := { name := "consequenceThrusters", fn := fun _ => fun
  | [d] => { results := [.lit (.bool true)], args := [d] }
  | _ => none }
def consequenceThrustersRow : OpenClaim := { program := "ytiaaaghdkhnonaagreat", sum := "1037f0dd4c6e75a11a17630d7fb55b582d7946e14fa7bf8206df5efcb5ddfb9a", func := "dynpos/dynposlaw27.ConsequenceThrusters", spec := "consequenceThrusters", inPlace := ["slices.overlaps[dynpos/api.Part]"], unfollowed := true, recurses := true, plainKeys := false, apart := false }
def ConsequenceThrustersSaid : Prop := consequenceThrustersRow.holds Tryz.pinned (OpenSpec.ofChange consequenceThrustersSpec)

/-- ITS FALSE NEIGHBOUR: 'it returns false'. Refute it at one input. -/
def consequenceThrustersWrong : ChangeSpec := { name := "consequenceThrusters", fn := fun _ => fun
  | [d] => { results := [.lit (.bool false)], args := [d] }
  | _ => none }
def ConsequenceThrustersWrongFalsely : Prop := consequenceThrustersRow.holds Tryz.pinned (OpenSpec.ofChange consequenceThrustersWrong)

/-- 'dynposlaw27.ConsequenceExact': WHATEVER THE INPUT: true; the input reads as it did. -/
def consequenceExactSpec : ChangeSpec := { name := "consequenceExact", fn := fun _ => fun
  | [d1, d2, d3, d4] => { results := [.lit (.bool true)], args := [d1, d2, d3, d4] }
  | _ => none }
def consequenceExactRow : OpenClaim := { program := "ytiaaaghdkhnonaagreat", sum := "1037f0dd4c6e75a11a17630d7fb55b582d7946e14fa7bf8206df5efcb5ddfb9a", func := "dynpos/dynposlaw27.ConsequenceExact", spec := "consequenceExact", inPlace := ["slices.overlaps[dynpos/api.Part]"], unfollowed := true, recurses := true, plainKeys := false, apart := false }
def ConsequenceExactSaid : Prop := consequenceExactRow.holds Tryz.pinned (OpenSpec.ofChange consequenceExactSpec)

/-- ITS FALSE NEIGHBOUR: 'it returns false'. Refute it at one input. -/
def consequenceExactWrong : ChangeSpec := { name := "consequenceExact", fn := fun _ => fun
  | [d1, d2, d3, d4] => { results := [.lit (.bool false)], args := [d1, d2, d3, d4] }
  | _ => none }
def ConsequenceExactWrongFalsely : Prop := consequenceExactRow.holds Tryz.pinned (OpenSpec.ofChange consequenceExactWrong)

/-- 'dynposlaw27.ConsequenceTransfers': WHATEVER THE INPUT: true; the input reads as it did. -/
def consequenceTransfersSpec : ChangeSpec := { name := "consequenceTransfers", fn := fun _ => fun
  | [d] => { results := [.lit (.bool true)], args := [d] }
  | _ => none }
def consequenceTransfersRow : OpenClaim := { program := "ytiaaaghdkhnonaagreat", sum := "1037f0dd4c6e75a11a17630d7fb55b582d7946e14fa7bf8206df5efcb5ddfb9a", func := "dynpos/dynposlaw27.ConsequenceTransfers", spec := "consequenceTransfers", inPlace := ["slices.overlaps[dynpos/api.Part]"], unfollowed := true, recurses := true, plainKeys := false, apart := false }
def ConsequenceTransfersSaid : Prop := consequenceTransfersRow.holds Tryz.pinned (OpenSpec.ofChange consequenceTransfersSpec)

/-- ITS FALSE NEIGHBOUR: 'it returns false'. Refute it at one input. -/
def consequenceTransfersWrong : ChangeSpec := { name := "consequenceTransfers", fn := fun _ => fun
  | [d] => { results := [.lit (.bool false)], args := [d] }
  | _ => none }
def ConsequenceTransfersWrongFalsely : Prop := consequenceTransfersRow.holds Tryz.pinned (OpenSpec.ofChange consequenceTransfersWrong)

/- THE SECOND FORM. 'bulk': how many values and letters a reading holds, each counted each time it is reached (what is shared counts as often as it is met; a slice's spare places count too). A statement '..UptoSaid' is the law's where the arguments, and the package variables that the reading takes, are together of bulk at most 1048576: NARROWER than '..Said'. Prove '..Said' where nothing that the law and all that it calls make is longer than what came in: it says more and counts as full. Else prove '..UptoSaid'. A law counts once. -/
mutual
def uptoBulk {H : Type} : DataW H → Nat
  | .lit (.string bytes) => bytes.length + 1
  | .lit _ => 1
  | .nil => 1
  | .ptr d => uptoBulk d + 1
  | .slice elems spare => uptoBulkAll elems + uptoBulkAll spare + 1
  | .agg parts => uptoBulkAll parts + 1
  | .iface _ d => uptoBulk d + 1
  | .map entries => uptoBulkEntries entries + 1
  | .held _ => 1
def uptoBulkAll {H : Type} : List (DataW H) → Nat
  | [] => 0
  | d :: r => uptoBulk d + uptoBulkAll r
def uptoBulkEntries {H : Type} : List (Lit × DataW H) → Nat
  | [] => 0
  | x :: r => uptoBulkEntry x + uptoBulkEntries r
def uptoBulkEntry {H : Type} : Lit × DataW H → Nat
  | (.string bytes, d) => bytes.length + uptoBulk d + 1
  | (_, d) => uptoBulk d + 1
 end
def uptoSmall : (H : Type) → List (DataW H) → Bool := fun _ ds => decide (uptoBulkAll ds ≤ 1048576)
def OpenSpec.upto (s : _root_.Go.ChangeSpec) : _root_.Go.OpenSpec := { _root_.Go.OpenSpec.ofChange s with cond := some uptoSmall }

/-- 'dynposlaw27.ConsequenceFails', WHERE WHAT IT READS IS OF BULK AT MOST 1048576: true; the input reads as it did. -/
def consequenceFailsUptoRow : OpenClaim := { program := "ytiaaaghdkhnonaagreat", sum := "1037f0dd4c6e75a11a17630d7fb55b582d7946e14fa7bf8206df5efcb5ddfb9a", func := "dynpos/dynposlaw27.ConsequenceFails", spec := "consequenceFails", inPlace := ["slices.overlaps[dynpos/api.Part]"], unfollowed := true, recurses := true, plainKeys := false, apart := false, narrowed := true }
def ConsequenceFailsUptoSaid : Prop := consequenceFailsUptoRow.holds Tryz.pinned (OpenSpec.upto consequenceFailsSpec)

/-- 'dynposlaw27.ConsequenceSingles', WHERE WHAT IT READS IS OF BULK AT MOST 1048576: true; the input reads as it did. -/
def consequenceSinglesUptoRow : OpenClaim := { program := "ytiaaaghdkhnonaagreat", sum := "1037f0dd4c6e75a11a17630d7fb55b582d7946e14fa7bf8206df5efcb5ddfb9a", func := "dynpos/dynposlaw27.ConsequenceSingles", spec := "consequenceSingles", inPlace := ["slices.overlaps[dynpos/api.Part]"], unfollowed := true, recurses := true, plainKeys := false, apart := false, narrowed := true }
def ConsequenceSinglesUptoSaid : Prop := consequenceSinglesUptoRow.holds Tryz.pinned (OpenSpec.upto consequenceSinglesSpec)

/-- 'dynposlaw27.ConsequenceBroken', WHERE WHAT IT READS IS OF BULK AT MOST 1048576: true; the input reads as it did. -/
def consequenceBrokenUptoRow : OpenClaim := { program := "ytiaaaghdkhnonaagreat", sum := "1037f0dd4c6e75a11a17630d7fb55b582d7946e14fa7bf8206df5efcb5ddfb9a", func := "dynpos/dynposlaw27.ConsequenceBroken", spec := "consequenceBroken", inPlace := ["slices.overlaps[dynpos/api.Part]"], unfollowed := true, recurses := true, plainKeys := false, apart := false, narrowed := true }
def ConsequenceBrokenUptoSaid : Prop := consequenceBrokenUptoRow.holds Tryz.pinned (OpenSpec.upto consequenceBrokenSpec)

/-- 'dynposlaw27.ConsequenceThrusters', WHERE WHAT IT READS IS OF BULK AT MOST 1048576: true; the input reads as it did. -/
def consequenceThrustersUptoRow : OpenClaim := { program := "ytiaaaghdkhnonaagreat", sum := "1037f0dd4c6e75a11a17630d7fb55b582d7946e14fa7bf8206df5efcb5ddfb9a", func := "dynpos/dynposlaw27.ConsequenceThrusters", spec := "consequenceThrusters", inPlace := ["slices.overlaps[dynpos/api.Part]"], unfollowed := true, recurses := true, plainKeys := false, apart := false, narrowed := true }
def ConsequenceThrustersUptoSaid : Prop := consequenceThrustersUptoRow.holds Tryz.pinned (OpenSpec.upto consequenceThrustersSpec)

/-- 'dynposlaw27.ConsequenceExact', WHERE WHAT IT READS IS OF BULK AT MOST 1048576: true; the input reads as it did. -/
def consequenceExactUptoRow : OpenClaim := { program := "ytiaaaghdkhnonaagreat", sum := "1037f0dd4c6e75a11a17630d7fb55b582d7946e14fa7bf8206df5efcb5ddfb9a", func := "dynpos/dynposlaw27.ConsequenceExact", spec := "consequenceExact", inPlace := ["slices.overlaps[dynpos/api.Part]"], unfollowed := true, recurses := true, plainKeys := false, apart := false, narrowed := true }
def ConsequenceExactUptoSaid : Prop := consequenceExactUptoRow.holds Tryz.pinned (OpenSpec.upto consequenceExactSpec)

/-- 'dynposlaw27.ConsequenceTransfers', WHERE WHAT IT READS IS OF BULK AT MOST 1048576: true; the input reads as it did. -/
def consequenceTransfersUptoRow : OpenClaim := { program := "ytiaaaghdkhnonaagreat", sum := "1037f0dd4c6e75a11a17630d7fb55b582d7946e14fa7bf8206df5efcb5ddfb9a", func := "dynpos/dynposlaw27.ConsequenceTransfers", spec := "consequenceTransfers", inPlace := ["slices.overlaps[dynpos/api.Part]"], unfollowed := true, recurses := true, plainKeys := false, apart := false, narrowed := true }
def ConsequenceTransfersUptoSaid : Prop := consequenceTransfersUptoRow.holds Tryz.pinned (OpenSpec.upto consequenceTransfersSpec)

end Rows
end Go.Proofs.YtiaaaghdkhnonaaGreat
