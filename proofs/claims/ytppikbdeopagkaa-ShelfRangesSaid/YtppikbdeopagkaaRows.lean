/-
  No cell of these rows narrows 'for every input' (looked for: loops, veiled, ifaces, maps, wideKeys, modest, calm, conditions, laid).
  DERIVED. THE GIVEN ROWS OF THIS SEAT. 12 by the template 'for every input the law returns true; each argument reads behind the call as it read before'; 0 by the template 'total and deterministic' (their statements: YtppikbdeopagkaaTotals.lean).
  GIVEN WITH THE SEED: the statements are not yours to turn. If you find one false, say at which input.
  Laid BY PROGRAM, IN A SANDBOX (cutbox-rows.mjs): the forced cells as the released guide's own fill.sh prints them over the translation 1a462aa7cc558e6b… (all of the seat's roots in one cut). By AI agents, Wed Nov 11 2026. No macro, syntax, notation, axiom, sorry.
-/
import Derived.Test.YtppikbdeopagkaaChecked
import GoSem.Claim
import GoSem.ClaimJoined
import GoSem.ClaimMapViews
import Derived.JoinedTies
import Derived.KernelRfl
namespace Go.Proofs.Ytppikbdeopagkaa
/- THE CELL 'sum', in the pinned program and in every row, IS THE sha256 OF THE DUMP (.gsa) THAT YtppikbdeopagkaaProg.lean LOADS. Nothing in Lean hashes anything: it is a label: what it is worth is what the hold of that sum in a sandbox is worth. -/
noncomputable def Try.pinned : Pinned := { name := "ytppikbdeopagkaa", sum := "1a462aa7cc558e6b396697eec0b19628dcfbf2168fcedc2fafda06e28537519c", checked := Try.checked }
namespace Rows
def none {H : Type} : Left H := { results := [], args := [] }

/-- 'keellaw1.ShelfRuns': WHATEVER THE INPUT: true; the input reads as it did. -/
def shelfRunsSpec : ChangeSpec := { name := "shelfRuns", fn := fun _ => fun
  | [] => { results := [.lit (.bool true)], args := [] }
  | _ => none }
def shelfRunsRow : OpenClaim := { program := "ytppikbdeopagkaa", sum := "1a462aa7cc558e6b396697eec0b19628dcfbf2168fcedc2fafda06e28537519c", func := "keel/keellaw1.ShelfRuns", spec := "shelfRuns", inPlace := ["slices.overlaps[keel/shelf.row[keel/keellaw1.Num, string]]"], unfollowed := true, recurses := true, apart := false }
def ShelfRunsSaid : Prop := shelfRunsRow.holds Try.pinned (OpenSpec.ofChange shelfRunsSpec)

/-- ITS FALSE NEIGHBOUR: 'it returns false'. Refute it at one input. -/
def shelfRunsWrong : ChangeSpec := { name := "shelfRuns", fn := fun _ => fun
  | [] => { results := [.lit (.bool false)], args := [] }
  | _ => none }
def ShelfRunsWrongFalsely : Prop := shelfRunsRow.holds Try.pinned (OpenSpec.ofChange shelfRunsWrong)

/-- 'keellaw1.ShelfRings': WHATEVER THE INPUT: true; the input reads as it did. -/
def shelfRingsSpec : ChangeSpec := { name := "shelfRings", fn := fun _ => fun
  | [d1, d2] => { results := [.lit (.bool true)], args := [d1, d2] }
  | _ => none }
def shelfRingsRow : OpenClaim := { program := "ytppikbdeopagkaa", sum := "1a462aa7cc558e6b396697eec0b19628dcfbf2168fcedc2fafda06e28537519c", func := "keel/keellaw1.ShelfRings", spec := "shelfRings", inPlace := ["slices.overlaps[keel/shelf.row[keel/keellaw1.Num, string]]"], unfollowed := true, recurses := true, apart := false }
def ShelfRingsSaid : Prop := shelfRingsRow.holds Try.pinned (OpenSpec.ofChange shelfRingsSpec)

/-- ITS FALSE NEIGHBOUR: 'it returns false'. Refute it at one input. -/
def shelfRingsWrong : ChangeSpec := { name := "shelfRings", fn := fun _ => fun
  | [d1, d2] => { results := [.lit (.bool false)], args := [d1, d2] }
  | _ => none }
def ShelfRingsWrongFalsely : Prop := shelfRingsRow.holds Try.pinned (OpenSpec.ofChange shelfRingsWrong)

/-- 'keellaw1.ShelfSorted': WHATEVER THE INPUT: true; the input reads as it did. -/
def shelfSortedSpec : ChangeSpec := { name := "shelfSorted", fn := fun _ => fun
  | [d] => { results := [.lit (.bool true)], args := [d] }
  | _ => none }
def shelfSortedRow : OpenClaim := { program := "ytppikbdeopagkaa", sum := "1a462aa7cc558e6b396697eec0b19628dcfbf2168fcedc2fafda06e28537519c", func := "keel/keellaw1.ShelfSorted", spec := "shelfSorted", inPlace := ["slices.overlaps[keel/shelf.row[int, int]]", "slices.overlaps[keel/shelf.row[keel/keellaw1.Num, string]]"], unfollowed := true, recurses := true, apart := false }
def ShelfSortedSaid : Prop := shelfSortedRow.holds Try.pinned (OpenSpec.ofChange shelfSortedSpec)

/-- ITS FALSE NEIGHBOUR: 'it returns false'. Refute it at one input. -/
def shelfSortedWrong : ChangeSpec := { name := "shelfSorted", fn := fun _ => fun
  | [d] => { results := [.lit (.bool false)], args := [d] }
  | _ => none }
def ShelfSortedWrongFalsely : Prop := shelfSortedRow.holds Try.pinned (OpenSpec.ofChange shelfSortedWrong)

/-- 'keellaw1.ShelfStacks': WHATEVER THE INPUT: true; the input reads as it did. -/
def shelfStacksSpec : ChangeSpec := { name := "shelfStacks", fn := fun _ => fun
  | [d] => { results := [.lit (.bool true)], args := [d] }
  | _ => none }
def shelfStacksRow : OpenClaim := { program := "ytppikbdeopagkaa", sum := "1a462aa7cc558e6b396697eec0b19628dcfbf2168fcedc2fafda06e28537519c", func := "keel/keellaw1.ShelfStacks", spec := "shelfStacks", inPlace := ["slices.overlaps[keel/shelf.row[keel/keellaw1.Num, string]]"], unfollowed := true, recurses := true, apart := false }
def ShelfStacksSaid : Prop := shelfStacksRow.holds Try.pinned (OpenSpec.ofChange shelfStacksSpec)

/-- ITS FALSE NEIGHBOUR: 'it returns false'. Refute it at one input. -/
def shelfStacksWrong : ChangeSpec := { name := "shelfStacks", fn := fun _ => fun
  | [d] => { results := [.lit (.bool false)], args := [d] }
  | _ => none }
def ShelfStacksWrongFalsely : Prop := shelfStacksRow.holds Try.pinned (OpenSpec.ofChange shelfStacksWrong)

/-- 'keellaw1.ShelfKept': WHATEVER THE INPUT: true; the input reads as it did. -/
def shelfKeptSpec : ChangeSpec := { name := "shelfKept", fn := fun _ => fun
  | [d] => { results := [.lit (.bool true)], args := [d] }
  | _ => none }
def shelfKeptRow : OpenClaim := { program := "ytppikbdeopagkaa", sum := "1a462aa7cc558e6b396697eec0b19628dcfbf2168fcedc2fafda06e28537519c", func := "keel/keellaw1.ShelfKept", spec := "shelfKept", inPlace := ["slices.overlaps[keel/shelf.row[int, int]]", "slices.overlaps[keel/shelf.row[keel/keellaw1.Num, string]]"], unfollowed := true, recurses := true, apart := false }
def ShelfKeptSaid : Prop := shelfKeptRow.holds Try.pinned (OpenSpec.ofChange shelfKeptSpec)

/-- ITS FALSE NEIGHBOUR: 'it returns false'. Refute it at one input. -/
def shelfKeptWrong : ChangeSpec := { name := "shelfKept", fn := fun _ => fun
  | [d] => { results := [.lit (.bool false)], args := [d] }
  | _ => none }
def ShelfKeptWrongFalsely : Prop := shelfKeptRow.holds Try.pinned (OpenSpec.ofChange shelfKeptWrong)

/-- 'keellaw1.ShelfReversed': WHATEVER THE INPUT: true; the input reads as it did. -/
def shelfReversedSpec : ChangeSpec := { name := "shelfReversed", fn := fun _ => fun
  | [d] => { results := [.lit (.bool true)], args := [d] }
  | _ => none }
def shelfReversedRow : OpenClaim := { program := "ytppikbdeopagkaa", sum := "1a462aa7cc558e6b396697eec0b19628dcfbf2168fcedc2fafda06e28537519c", func := "keel/keellaw1.ShelfReversed", spec := "shelfReversed", inPlace := ["slices.overlaps[keel/shelf.row[keel/keellaw1.Num, string]]"], unfollowed := true, recurses := true, apart := false }
def ShelfReversedSaid : Prop := shelfReversedRow.holds Try.pinned (OpenSpec.ofChange shelfReversedSpec)

/-- ITS FALSE NEIGHBOUR: 'it returns false'. Refute it at one input. -/
def shelfReversedWrong : ChangeSpec := { name := "shelfReversed", fn := fun _ => fun
  | [d] => { results := [.lit (.bool false)], args := [d] }
  | _ => none }
def ShelfReversedWrongFalsely : Prop := shelfReversedRow.holds Try.pinned (OpenSpec.ofChange shelfReversedWrong)

/-- 'keellaw1.ShelfApart': WHATEVER THE INPUT: true; the input reads as it did. -/
def shelfApartSpec : ChangeSpec := { name := "shelfApart", fn := fun _ => fun
  | [d1, d2] => { results := [.lit (.bool true)], args := [d1, d2] }
  | _ => none }
def shelfApartRow : OpenClaim := { program := "ytppikbdeopagkaa", sum := "1a462aa7cc558e6b396697eec0b19628dcfbf2168fcedc2fafda06e28537519c", func := "keel/keellaw1.ShelfApart", spec := "shelfApart", inPlace := ["slices.overlaps[keel/shelf.row[keel/keellaw1.Num, int]]", "slices.overlaps[keel/shelf.row[keel/keellaw1.Num, string]]"], unfollowed := true, recurses := true, apart := false }
def ShelfApartSaid : Prop := shelfApartRow.holds Try.pinned (OpenSpec.ofChange shelfApartSpec)

/-- ITS FALSE NEIGHBOUR: 'it returns false'. Refute it at one input. -/
def shelfApartWrong : ChangeSpec := { name := "shelfApart", fn := fun _ => fun
  | [d1, d2] => { results := [.lit (.bool false)], args := [d1, d2] }
  | _ => none }
def ShelfApartWrongFalsely : Prop := shelfApartRow.holds Try.pinned (OpenSpec.ofChange shelfApartWrong)

/-- 'keellaw1.ShelfTaken': WHATEVER THE INPUT: true; the input reads as it did. -/
def shelfTakenSpec : ChangeSpec := { name := "shelfTaken", fn := fun _ => fun
  | [d1, d2] => { results := [.lit (.bool true)], args := [d1, d2] }
  | _ => none }
def shelfTakenRow : OpenClaim := { program := "ytppikbdeopagkaa", sum := "1a462aa7cc558e6b396697eec0b19628dcfbf2168fcedc2fafda06e28537519c", func := "keel/keellaw1.ShelfTaken", spec := "shelfTaken", inPlace := ["slices.overlaps[keel/shelf.row[keel/keellaw1.Num, string]]"], unfollowed := true, recurses := true, apart := false }
def ShelfTakenSaid : Prop := shelfTakenRow.holds Try.pinned (OpenSpec.ofChange shelfTakenSpec)

/-- ITS FALSE NEIGHBOUR: 'it returns false'. Refute it at one input. -/
def shelfTakenWrong : ChangeSpec := { name := "shelfTaken", fn := fun _ => fun
  | [d1, d2] => { results := [.lit (.bool false)], args := [d1, d2] }
  | _ => none }
def ShelfTakenWrongFalsely : Prop := shelfTakenRow.holds Try.pinned (OpenSpec.ofChange shelfTakenWrong)

/-- 'keellaw1.ShelfQueues': WHATEVER THE INPUT: true; the input reads as it did. -/
def shelfQueuesSpec : ChangeSpec := { name := "shelfQueues", fn := fun _ => fun
  | [d] => { results := [.lit (.bool true)], args := [d] }
  | _ => none }
def shelfQueuesRow : OpenClaim := { program := "ytppikbdeopagkaa", sum := "1a462aa7cc558e6b396697eec0b19628dcfbf2168fcedc2fafda06e28537519c", func := "keel/keellaw1.ShelfQueues", spec := "shelfQueues", inPlace := ["slices.overlaps[keel/shelf.row[keel/keellaw1.Num, string]]"], unfollowed := true, recurses := true, apart := false }
def ShelfQueuesSaid : Prop := shelfQueuesRow.holds Try.pinned (OpenSpec.ofChange shelfQueuesSpec)

/-- ITS FALSE NEIGHBOUR: 'it returns false'. Refute it at one input. -/
def shelfQueuesWrong : ChangeSpec := { name := "shelfQueues", fn := fun _ => fun
  | [d] => { results := [.lit (.bool false)], args := [d] }
  | _ => none }
def ShelfQueuesWrongFalsely : Prop := shelfQueuesRow.holds Try.pinned (OpenSpec.ofChange shelfQueuesWrong)

/-- 'keellaw1.ShelfTables': WHATEVER THE INPUT: true; the input reads as it did. -/
def shelfTablesSpec : ChangeSpec := { name := "shelfTables", fn := fun _ => fun
  | [d] => { results := [.lit (.bool true)], args := [d] }
  | _ => none }
def shelfTablesRow : OpenClaim := { program := "ytppikbdeopagkaa", sum := "1a462aa7cc558e6b396697eec0b19628dcfbf2168fcedc2fafda06e28537519c", func := "keel/keellaw1.ShelfTables", spec := "shelfTables", inPlace := ["slices.overlaps[keel/shelf.row[keel/keellaw1.Num, int]]", "slices.overlaps[keel/shelf.row[keel/keellaw1.Tag, keel/keellaw1.Pair]]", "slices.overlaps[keel/shelf.row[keel/keellaw1.Num, string]]"], unfollowed := true, recurses := true, apart := false }
def ShelfTablesSaid : Prop := shelfTablesRow.holds Try.pinned (OpenSpec.ofChange shelfTablesSpec)

/-- ITS FALSE NEIGHBOUR: 'it returns false'. Refute it at one input. -/
def shelfTablesWrong : ChangeSpec := { name := "shelfTables", fn := fun _ => fun
  | [d] => { results := [.lit (.bool false)], args := [d] }
  | _ => none }
def ShelfTablesWrongFalsely : Prop := shelfTablesRow.holds Try.pinned (OpenSpec.ofChange shelfTablesWrong)

/-- 'keellaw1.ShelfRanges': WHATEVER THE INPUT: true; the input reads as it did. -/
def shelfRangesSpec : ChangeSpec := { name := "shelfRanges", fn := fun _ => fun
  | [d1, d2] => { results := [.lit (.bool true)], args := [d1, d2] }
  | _ => none }
def shelfRangesRow : OpenClaim := { program := "ytppikbdeopagkaa", sum := "1a462aa7cc558e6b396697eec0b19628dcfbf2168fcedc2fafda06e28537519c", func := "keel/keellaw1.ShelfRanges", spec := "shelfRanges", inPlace := ["slices.overlaps[keel/shelf.row[int, int]]", "slices.overlaps[keel/shelf.row[keel/keellaw1.Num, string]]"], unfollowed := true, recurses := true, apart := false }
def ShelfRangesSaid : Prop := shelfRangesRow.holds Try.pinned (OpenSpec.ofChange shelfRangesSpec)

/-- ITS FALSE NEIGHBOUR: 'it returns false'. Refute it at one input. -/
def shelfRangesWrong : ChangeSpec := { name := "shelfRanges", fn := fun _ => fun
  | [d1, d2] => { results := [.lit (.bool false)], args := [d1, d2] }
  | _ => none }
def ShelfRangesWrongFalsely : Prop := shelfRangesRow.holds Try.pinned (OpenSpec.ofChange shelfRangesWrong)

/-- 'keellaw1.ShelfLevels': WHATEVER THE INPUT: true; the input reads as it did. -/
def shelfLevelsSpec : ChangeSpec := { name := "shelfLevels", fn := fun _ => fun
  | [d1, d2] => { results := [.lit (.bool true)], args := [d1, d2] }
  | _ => none }
def shelfLevelsRow : OpenClaim := { program := "ytppikbdeopagkaa", sum := "1a462aa7cc558e6b396697eec0b19628dcfbf2168fcedc2fafda06e28537519c", func := "keel/keellaw1.ShelfLevels", spec := "shelfLevels", inPlace := ["slices.overlaps[keel/shelf.row[keel/keellaw1.Num, string]]"], unfollowed := true, recurses := true, apart := false }
def ShelfLevelsSaid : Prop := shelfLevelsRow.holds Try.pinned (OpenSpec.ofChange shelfLevelsSpec)

/-- ITS FALSE NEIGHBOUR: 'it returns false'. Refute it at one input. -/
def shelfLevelsWrong : ChangeSpec := { name := "shelfLevels", fn := fun _ => fun
  | [d1, d2] => { results := [.lit (.bool false)], args := [d1, d2] }
  | _ => none }
def ShelfLevelsWrongFalsely : Prop := shelfLevelsRow.holds Try.pinned (OpenSpec.ofChange shelfLevelsWrong)

/- THE SECOND FORM. 'bulk': how many values and letters a reading holds, each counted each time it is reached (what is shared counts as often as it is met; a slice's spare places count too). A statement '..UptoSaid' is the law's where the arguments, and the package variables that the reading takes, are together of bulk at most 1048576: NARROWER than '..Said'. Prove '..Said' where nothing that the law and all that it calls make is longer than what came in: it says more and counts as full. Else prove '..UptoSaid'. A law counts once. -/
mutual
def uptoBulk {H : Type} : DataW H → Nat
  | .lit (.string bytes) => bytes.length + 1
  | .lit _ => 1
  | .nil => 1
  | .ptr d => uptoBulk d + 1
  | .slice elems spare => uptoBulkAll elems + uptoBulkAll spare + 1
  | .agg parts => uptoBulkAll parts + 1
  | .iface _ d => uptoBulk d + 1
  | .map entries => uptoBulkEntries entries + 1
  | .held _ => 1
def uptoBulkAll {H : Type} : List (DataW H) → Nat
  | [] => 0
  | d :: r => uptoBulk d + uptoBulkAll r
def uptoBulkEntries {H : Type} : List (Lit × DataW H) → Nat
  | [] => 0
  | x :: r => uptoBulkEntry x + uptoBulkEntries r
def uptoBulkEntry {H : Type} : Lit × DataW H → Nat
  | (.string bytes, d) => bytes.length + uptoBulk d + 1
  | (_, d) => uptoBulk d + 1
 end
def uptoSmall : (H : Type) → List (DataW H) → Bool := fun _ ds => decide (uptoBulkAll ds ≤ 1048576)
def OpenSpec.upto (s : _root_.Go.ChangeSpec) : _root_.Go.OpenSpec := { _root_.Go.OpenSpec.ofChange s with cond := some uptoSmall }

/-- 'keellaw1.ShelfRuns', WHERE WHAT IT READS IS OF BULK AT MOST 1048576: true; the input reads as it did. -/
def shelfRunsUptoRow : OpenClaim := { program := "ytppikbdeopagkaa", sum := "1a462aa7cc558e6b396697eec0b19628dcfbf2168fcedc2fafda06e28537519c", func := "keel/keellaw1.ShelfRuns", spec := "shelfRuns", inPlace := ["slices.overlaps[keel/shelf.row[keel/keellaw1.Num, string]]"], unfollowed := true, recurses := true, apart := false, narrowed := true }
def ShelfRunsUptoSaid : Prop := shelfRunsUptoRow.holds Try.pinned (OpenSpec.upto shelfRunsSpec)

/-- 'keellaw1.ShelfRings', WHERE WHAT IT READS IS OF BULK AT MOST 1048576: true; the input reads as it did. -/
def shelfRingsUptoRow : OpenClaim := { program := "ytppikbdeopagkaa", sum := "1a462aa7cc558e6b396697eec0b19628dcfbf2168fcedc2fafda06e28537519c", func := "keel/keellaw1.ShelfRings", spec := "shelfRings", inPlace := ["slices.overlaps[keel/shelf.row[keel/keellaw1.Num, string]]"], unfollowed := true, recurses := true, apart := false, narrowed := true }
def ShelfRingsUptoSaid : Prop := shelfRingsUptoRow.holds Try.pinned (OpenSpec.upto shelfRingsSpec)

/-- 'keellaw1.ShelfSorted', WHERE WHAT IT READS IS OF BULK AT MOST 1048576: true; the input reads as it did. -/
def shelfSortedUptoRow : OpenClaim := { program := "ytppikbdeopagkaa", sum := "1a462aa7cc558e6b396697eec0b19628dcfbf2168fcedc2fafda06e28537519c", func := "keel/keellaw1.ShelfSorted", spec := "shelfSorted", inPlace := ["slices.overlaps[keel/shelf.row[int, int]]", "slices.overlaps[keel/shelf.row[keel/keellaw1.Num, string]]"], unfollowed := true, recurses := true, apart := false, narrowed := true }
def ShelfSortedUptoSaid : Prop := shelfSortedUptoRow.holds Try.pinned (OpenSpec.upto shelfSortedSpec)

/-- 'keellaw1.ShelfStacks', WHERE WHAT IT READS IS OF BULK AT MOST 1048576: true; the input reads as it did. -/
def shelfStacksUptoRow : OpenClaim := { program := "ytppikbdeopagkaa", sum := "1a462aa7cc558e6b396697eec0b19628dcfbf2168fcedc2fafda06e28537519c", func := "keel/keellaw1.ShelfStacks", spec := "shelfStacks", inPlace := ["slices.overlaps[keel/shelf.row[keel/keellaw1.Num, string]]"], unfollowed := true, recurses := true, apart := false, narrowed := true }
def ShelfStacksUptoSaid : Prop := shelfStacksUptoRow.holds Try.pinned (OpenSpec.upto shelfStacksSpec)

/-- 'keellaw1.ShelfKept', WHERE WHAT IT READS IS OF BULK AT MOST 1048576: true; the input reads as it did. -/
def shelfKeptUptoRow : OpenClaim := { program := "ytppikbdeopagkaa", sum := "1a462aa7cc558e6b396697eec0b19628dcfbf2168fcedc2fafda06e28537519c", func := "keel/keellaw1.ShelfKept", spec := "shelfKept", inPlace := ["slices.overlaps[keel/shelf.row[int, int]]", "slices.overlaps[keel/shelf.row[keel/keellaw1.Num, string]]"], unfollowed := true, recurses := true, apart := false, narrowed := true }
def ShelfKeptUptoSaid : Prop := shelfKeptUptoRow.holds Try.pinned (OpenSpec.upto shelfKeptSpec)

/-- 'keellaw1.ShelfReversed', WHERE WHAT IT READS IS OF BULK AT MOST 1048576: true; the input reads as it did. -/
def shelfReversedUptoRow : OpenClaim := { program := "ytppikbdeopagkaa", sum := "1a462aa7cc558e6b396697eec0b19628dcfbf2168fcedc2fafda06e28537519c", func := "keel/keellaw1.ShelfReversed", spec := "shelfReversed", inPlace := ["slices.overlaps[keel/shelf.row[keel/keellaw1.Num, string]]"], unfollowed := true, recurses := true, apart := false, narrowed := true }
def ShelfReversedUptoSaid : Prop := shelfReversedUptoRow.holds Try.pinned (OpenSpec.upto shelfReversedSpec)

/-- 'keellaw1.ShelfApart', WHERE WHAT IT READS IS OF BULK AT MOST 1048576: true; the input reads as it did. -/
def shelfApartUptoRow : OpenClaim := { program := "ytppikbdeopagkaa", sum := "1a462aa7cc558e6b396697eec0b19628dcfbf2168fcedc2fafda06e28537519c", func := "keel/keellaw1.ShelfApart", spec := "shelfApart", inPlace := ["slices.overlaps[keel/shelf.row[keel/keellaw1.Num, int]]", "slices.overlaps[keel/shelf.row[keel/keellaw1.Num, string]]"], unfollowed := true, recurses := true, apart := false, narrowed := true }
def ShelfApartUptoSaid : Prop := shelfApartUptoRow.holds Try.pinned (OpenSpec.upto shelfApartSpec)

/-- 'keellaw1.ShelfTaken', WHERE WHAT IT READS IS OF BULK AT MOST 1048576: true; the input reads as it did. -/
def shelfTakenUptoRow : OpenClaim := { program := "ytppikbdeopagkaa", sum := "1a462aa7cc558e6b396697eec0b19628dcfbf2168fcedc2fafda06e28537519c", func := "keel/keellaw1.ShelfTaken", spec := "shelfTaken", inPlace := ["slices.overlaps[keel/shelf.row[keel/keellaw1.Num, string]]"], unfollowed := true, recurses := true, apart := false, narrowed := true }
def ShelfTakenUptoSaid : Prop := shelfTakenUptoRow.holds Try.pinned (OpenSpec.upto shelfTakenSpec)

/-- 'keellaw1.ShelfQueues', WHERE WHAT IT READS IS OF BULK AT MOST 1048576: true; the input reads as it did. -/
def shelfQueuesUptoRow : OpenClaim := { program := "ytppikbdeopagkaa", sum := "1a462aa7cc558e6b396697eec0b19628dcfbf2168fcedc2fafda06e28537519c", func := "keel/keellaw1.ShelfQueues", spec := "shelfQueues", inPlace := ["slices.overlaps[keel/shelf.row[keel/keellaw1.Num, string]]"], unfollowed := true, recurses := true, apart := false, narrowed := true }
def ShelfQueuesUptoSaid : Prop := shelfQueuesUptoRow.holds Try.pinned (OpenSpec.upto shelfQueuesSpec)

/-- 'keellaw1.ShelfTables', WHERE WHAT IT READS IS OF BULK AT MOST 1048576: true; the input reads as it did. -/
def shelfTablesUptoRow : OpenClaim := { program := "ytppikbdeopagkaa", sum := "1a462aa7cc558e6b396697eec0b19628dcfbf2168fcedc2fafda06e28537519c", func := "keel/keellaw1.ShelfTables", spec := "shelfTables", inPlace := ["slices.overlaps[keel/shelf.row[keel/keellaw1.Num, int]]", "slices.overlaps[keel/shelf.row[keel/keellaw1.Tag, keel/keellaw1.Pair]]", "slices.overlaps[keel/shelf.row[keel/keellaw1.Num, string]]"], unfollowed := true, recurses := true, apart := false, narrowed := true }
def ShelfTablesUptoSaid : Prop := shelfTablesUptoRow.holds Try.pinned (OpenSpec.upto shelfTablesSpec)

/-- 'keellaw1.ShelfRanges', WHERE WHAT IT READS IS OF BULK AT MOST 1048576: true; the input reads as it did. -/
def shelfRangesUptoRow : OpenClaim := { program := "ytppikbdeopagkaa", sum := "1a462aa7cc558e6b396697eec0b19628dcfbf2168fcedc2fafda06e28537519c", func := "keel/keellaw1.ShelfRanges", spec := "shelfRanges", inPlace := ["slices.overlaps[keel/shelf.row[int, int]]", "slices.overlaps[keel/shelf.row[keel/keellaw1.Num, string]]"], unfollowed := true, recurses := true, apart := false, narrowed := true }
def ShelfRangesUptoSaid : Prop := shelfRangesUptoRow.holds Try.pinned (OpenSpec.upto shelfRangesSpec)

/-- 'keellaw1.ShelfLevels', WHERE WHAT IT READS IS OF BULK AT MOST 1048576: true; the input reads as it did. -/
def shelfLevelsUptoRow : OpenClaim := { program := "ytppikbdeopagkaa", sum := "1a462aa7cc558e6b396697eec0b19628dcfbf2168fcedc2fafda06e28537519c", func := "keel/keellaw1.ShelfLevels", spec := "shelfLevels", inPlace := ["slices.overlaps[keel/shelf.row[keel/keellaw1.Num, string]]"], unfollowed := true, recurses := true, apart := false, narrowed := true }
def ShelfLevelsUptoSaid : Prop := shelfLevelsUptoRow.holds Try.pinned (OpenSpec.upto shelfLevelsSpec)

end Rows
end Go.Proofs.Ytppikbdeopagkaa
