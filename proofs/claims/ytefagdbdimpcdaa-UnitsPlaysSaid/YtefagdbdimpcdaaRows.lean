/-
  No cell of these rows narrows 'for every input' (looked for: loops, veiled, ifaces, maps, wideKeys, modest, calm, conditions, laid).
  DERIVED. THE GIVEN ROWS OF THIS SEAT. 8 by the template 'for every input the law returns true; each argument reads behind the call as it read before'; 0 by the template 'total and deterministic' (their statements: YtefagdbdimpcdaaTotals.lean).
  GIVEN WITH THE SEED: the statements are not yours to turn. If you find one false, say at which input.
  Laid BY PROGRAM, IN A SANDBOX (cutbox-rows.mjs): the forced cells as the released guide's own fill.sh prints them over the translation 0965f3f947d95781… (all of the seat's roots in one cut). By AI agents, Wed Nov 11 2026. No macro, syntax, notation, axiom, sorry.
-/
import Derived.Test.YtefagdbdimpcdaaChecked
import GoSem.Claim
import GoSem.ClaimJoined
import GoSem.ClaimMapViews
import Derived.JoinedTies
import Derived.KernelRfl
namespace Go.Proofs.Ytefagdbdimpcdaa
/- THE CELL 'sum', in the pinned program and in every row, IS THE sha256 OF THE DUMP (.gsa) THAT YtefagdbdimpcdaaProg.lean LOADS. Nothing in Lean hashes anything: it is a label: what it is worth is what the hold of that sum in a sandbox is worth. -/
noncomputable def Try.pinned : Pinned := { name := "ytefagdbdimpcdaa", sum := "0965f3f947d957817a8412c78a2c76db98d4e933930196c69a3ce1929bad03f4", checked := Try.checked }
namespace Rows
def none {H : Type} : Left H := { results := [], args := [] }

/-- 'keellaw5.UnitsRuns': WHATEVER THE INPUT: true; the input reads as it did. -/
def unitsRunsSpec : ChangeSpec := { name := "unitsRuns", fn := fun _ => fun
  | [] => { results := [.lit (.bool true)], args := [] }
  | _ => none }
def unitsRunsRow : OpenClaim := { program := "ytefagdbdimpcdaa", sum := "0965f3f947d957817a8412c78a2c76db98d4e933930196c69a3ce1929bad03f4", func := "keel/keellaw5.UnitsRuns", spec := "unitsRuns", inPlace := ["slices.overlaps[keel/shelf.row[int, *keel/units.holder]]"], unfollowed := true, recurses := true, apart := false }
def UnitsRunsSaid : Prop := unitsRunsRow.holds Try.pinned (OpenSpec.ofChange unitsRunsSpec)

/-- ITS FALSE NEIGHBOUR: 'it returns false'. Refute it at one input. -/
def unitsRunsWrong : ChangeSpec := { name := "unitsRuns", fn := fun _ => fun
  | [] => { results := [.lit (.bool false)], args := [] }
  | _ => none }
def UnitsRunsWrongFalsely : Prop := unitsRunsRow.holds Try.pinned (OpenSpec.ofChange unitsRunsWrong)

/-- 'keellaw5.UnitsCells': WHATEVER THE INPUT: true; the input reads as it did. -/
def unitsCellsSpec : ChangeSpec := { name := "unitsCells", fn := fun _ => fun
  | [d1, d2] => { results := [.lit (.bool true)], args := [d1, d2] }
  | _ => none }
def unitsCellsRow : OpenClaim := { program := "ytefagdbdimpcdaa", sum := "0965f3f947d957817a8412c78a2c76db98d4e933930196c69a3ce1929bad03f4", func := "keel/keellaw5.UnitsCells", spec := "unitsCells", inPlace := ["slices.overlaps[keel/shelf.row[int, *keel/units.holder]]"], unfollowed := true, recurses := true, apart := false }
def UnitsCellsSaid : Prop := unitsCellsRow.holds Try.pinned (OpenSpec.ofChange unitsCellsSpec)

/-- ITS FALSE NEIGHBOUR: 'it returns false'. Refute it at one input. -/
def unitsCellsWrong : ChangeSpec := { name := "unitsCells", fn := fun _ => fun
  | [d1, d2] => { results := [.lit (.bool false)], args := [d1, d2] }
  | _ => none }
def UnitsCellsWrongFalsely : Prop := unitsCellsRow.holds Try.pinned (OpenSpec.ofChange unitsCellsWrong)

/-- 'keellaw5.UnitsNested': WHATEVER THE INPUT: true; the input reads as it did. -/
def unitsNestedSpec : ChangeSpec := { name := "unitsNested", fn := fun _ => fun
  | [d1, d2, d3, d4] => { results := [.lit (.bool true)], args := [d1, d2, d3, d4] }
  | _ => none }
def unitsNestedRow : OpenClaim := { program := "ytefagdbdimpcdaa", sum := "0965f3f947d957817a8412c78a2c76db98d4e933930196c69a3ce1929bad03f4", func := "keel/keellaw5.UnitsNested", spec := "unitsNested", inPlace := ["slices.overlaps[keel/shelf.row[int, *keel/units.holder]]"], unfollowed := true, recurses := true, apart := false }
def UnitsNestedSaid : Prop := unitsNestedRow.holds Try.pinned (OpenSpec.ofChange unitsNestedSpec)

/-- ITS FALSE NEIGHBOUR: 'it returns false'. Refute it at one input. -/
def unitsNestedWrong : ChangeSpec := { name := "unitsNested", fn := fun _ => fun
  | [d1, d2, d3, d4] => { results := [.lit (.bool false)], args := [d1, d2, d3, d4] }
  | _ => none }
def UnitsNestedWrongFalsely : Prop := unitsNestedRow.holds Try.pinned (OpenSpec.ofChange unitsNestedWrong)

/-- 'keellaw5.UnitsWhen': WHATEVER THE INPUT: true; the input reads as it did. -/
def unitsWhenSpec : ChangeSpec := { name := "unitsWhen", fn := fun _ => fun
  | [d1, d2] => { results := [.lit (.bool true)], args := [d1, d2] }
  | _ => none }
def unitsWhenRow : OpenClaim := { program := "ytefagdbdimpcdaa", sum := "0965f3f947d957817a8412c78a2c76db98d4e933930196c69a3ce1929bad03f4", func := "keel/keellaw5.UnitsWhen", spec := "unitsWhen", inPlace := ["slices.overlaps[keel/shelf.row[int, *keel/units.holder]]"], unfollowed := true, recurses := true, apart := false }
def UnitsWhenSaid : Prop := unitsWhenRow.holds Try.pinned (OpenSpec.ofChange unitsWhenSpec)

/-- ITS FALSE NEIGHBOUR: 'it returns false'. Refute it at one input. -/
def unitsWhenWrong : ChangeSpec := { name := "unitsWhen", fn := fun _ => fun
  | [d1, d2] => { results := [.lit (.bool false)], args := [d1, d2] }
  | _ => none }
def UnitsWhenWrongFalsely : Prop := unitsWhenRow.holds Try.pinned (OpenSpec.ofChange unitsWhenWrong)

/-- 'keellaw5.UnitsOthers': WHATEVER THE INPUT: true; the input reads as it did. -/
def unitsOthersSpec : ChangeSpec := { name := "unitsOthers", fn := fun _ => fun
  | [d1, d2, d3, d4, d5] => { results := [.lit (.bool true)], args := [d1, d2, d3, d4, d5] }
  | _ => none }
def unitsOthersRow : OpenClaim := { program := "ytefagdbdimpcdaa", sum := "0965f3f947d957817a8412c78a2c76db98d4e933930196c69a3ce1929bad03f4", func := "keel/keellaw5.UnitsOthers", spec := "unitsOthers", inPlace := ["slices.overlaps[keel/shelf.row[int, *keel/units.holder]]"], unfollowed := true, recurses := true, apart := false }
def UnitsOthersSaid : Prop := unitsOthersRow.holds Try.pinned (OpenSpec.ofChange unitsOthersSpec)

/-- ITS FALSE NEIGHBOUR: 'it returns false'. Refute it at one input. -/
def unitsOthersWrong : ChangeSpec := { name := "unitsOthers", fn := fun _ => fun
  | [d1, d2, d3, d4, d5] => { results := [.lit (.bool false)], args := [d1, d2, d3, d4, d5] }
  | _ => none }
def UnitsOthersWrongFalsely : Prop := unitsOthersRow.holds Try.pinned (OpenSpec.ofChange unitsOthersWrong)

/-- 'keellaw5.UnitsKept': WHATEVER THE INPUT: true; the input reads as it did. -/
def unitsKeptSpec : ChangeSpec := { name := "unitsKept", fn := fun _ => fun
  | [d1, d2] => { results := [.lit (.bool true)], args := [d1, d2] }
  | _ => none }
def unitsKeptRow : OpenClaim := { program := "ytefagdbdimpcdaa", sum := "0965f3f947d957817a8412c78a2c76db98d4e933930196c69a3ce1929bad03f4", func := "keel/keellaw5.UnitsKept", spec := "unitsKept", inPlace := ["slices.overlaps[keel/shelf.row[int, *keel/units.holder]]"], unfollowed := true, recurses := true, apart := false }
def UnitsKeptSaid : Prop := unitsKeptRow.holds Try.pinned (OpenSpec.ofChange unitsKeptSpec)

/-- ITS FALSE NEIGHBOUR: 'it returns false'. Refute it at one input. -/
def unitsKeptWrong : ChangeSpec := { name := "unitsKept", fn := fun _ => fun
  | [d1, d2] => { results := [.lit (.bool false)], args := [d1, d2] }
  | _ => none }
def UnitsKeptWrongFalsely : Prop := unitsKeptRow.holds Try.pinned (OpenSpec.ofChange unitsKeptWrong)

/-- 'keellaw5.UnitsSums': WHATEVER THE INPUT: true; the input reads as it did. -/
def unitsSumsSpec : ChangeSpec := { name := "unitsSums", fn := fun _ => fun
  | [d1, d2, d3] => { results := [.lit (.bool true)], args := [d1, d2, d3] }
  | _ => none }
def unitsSumsRow : OpenClaim := { program := "ytefagdbdimpcdaa", sum := "0965f3f947d957817a8412c78a2c76db98d4e933930196c69a3ce1929bad03f4", func := "keel/keellaw5.UnitsSums", spec := "unitsSums", inPlace := ["slices.overlaps[keel/shelf.row[int, *keel/units.holder]]"], unfollowed := true, recurses := true, apart := false }
def UnitsSumsSaid : Prop := unitsSumsRow.holds Try.pinned (OpenSpec.ofChange unitsSumsSpec)

/-- ITS FALSE NEIGHBOUR: 'it returns false'. Refute it at one input. -/
def unitsSumsWrong : ChangeSpec := { name := "unitsSums", fn := fun _ => fun
  | [d1, d2, d3] => { results := [.lit (.bool false)], args := [d1, d2, d3] }
  | _ => none }
def UnitsSumsWrongFalsely : Prop := unitsSumsRow.holds Try.pinned (OpenSpec.ofChange unitsSumsWrong)

/-- 'keellaw5.UnitsPlays': WHATEVER THE INPUT: true; the input reads as it did. -/
def unitsPlaysSpec : ChangeSpec := { name := "unitsPlays", fn := fun _ => fun
  | [d1, d2] => { results := [.lit (.bool true)], args := [d1, d2] }
  | _ => none }
def unitsPlaysRow : OpenClaim := { program := "ytefagdbdimpcdaa", sum := "0965f3f947d957817a8412c78a2c76db98d4e933930196c69a3ce1929bad03f4", func := "keel/keellaw5.UnitsPlays", spec := "unitsPlays", inPlace := ["slices.overlaps[keel/shelf.row[int, *keel/units.holder]]"], unfollowed := true, recurses := true, apart := false }
def UnitsPlaysSaid : Prop := unitsPlaysRow.holds Try.pinned (OpenSpec.ofChange unitsPlaysSpec)

/-- ITS FALSE NEIGHBOUR: 'it returns false'. Refute it at one input. -/
def unitsPlaysWrong : ChangeSpec := { name := "unitsPlays", fn := fun _ => fun
  | [d1, d2] => { results := [.lit (.bool false)], args := [d1, d2] }
  | _ => none }
def UnitsPlaysWrongFalsely : Prop := unitsPlaysRow.holds Try.pinned (OpenSpec.ofChange unitsPlaysWrong)

/- THE SECOND FORM. 'bulk': how many values and letters a reading holds, each counted each time it is reached (what is shared counts as often as it is met; a slice's spare places count too). A statement '..UptoSaid' is the law's where the arguments, and the package variables that the reading takes, are together of bulk at most 1048576: NARROWER than '..Said'. Prove '..Said' where nothing that the law and all that it calls make is longer than what came in: it says more and counts as full. Else prove '..UptoSaid'. A law counts once. -/
mutual
def uptoBulk {H : Type} : DataW H → Nat
  | .lit (.string bytes) => bytes.length + 1
  | .lit _ => 1
  | .nil => 1
  | .ptr d => uptoBulk d + 1
  | .slice elems spare => uptoBulkAll elems + uptoBulkAll spare + 1
  | .agg parts => uptoBulkAll parts + 1
  | .iface _ d => uptoBulk d + 1
  | .map entries => uptoBulkEntries entries + 1
  | .held _ => 1
def uptoBulkAll {H : Type} : List (DataW H) → Nat
  | [] => 0
  | d :: r => uptoBulk d + uptoBulkAll r
def uptoBulkEntries {H : Type} : List (Lit × DataW H) → Nat
  | [] => 0
  | x :: r => uptoBulkEntry x + uptoBulkEntries r
def uptoBulkEntry {H : Type} : Lit × DataW H → Nat
  | (.string bytes, d) => bytes.length + uptoBulk d + 1
  | (_, d) => uptoBulk d + 1
 end
def uptoSmall : (H : Type) → List (DataW H) → Bool := fun _ ds => decide (uptoBulkAll ds ≤ 1048576)
def OpenSpec.upto (s : _root_.Go.ChangeSpec) : _root_.Go.OpenSpec := { _root_.Go.OpenSpec.ofChange s with cond := some uptoSmall }

/-- 'keellaw5.UnitsRuns', WHERE WHAT IT READS IS OF BULK AT MOST 1048576: true; the input reads as it did. -/
def unitsRunsUptoRow : OpenClaim := { program := "ytefagdbdimpcdaa", sum := "0965f3f947d957817a8412c78a2c76db98d4e933930196c69a3ce1929bad03f4", func := "keel/keellaw5.UnitsRuns", spec := "unitsRuns", inPlace := ["slices.overlaps[keel/shelf.row[int, *keel/units.holder]]"], unfollowed := true, recurses := true, apart := false, narrowed := true }
def UnitsRunsUptoSaid : Prop := unitsRunsUptoRow.holds Try.pinned (OpenSpec.upto unitsRunsSpec)

/-- 'keellaw5.UnitsCells', WHERE WHAT IT READS IS OF BULK AT MOST 1048576: true; the input reads as it did. -/
def unitsCellsUptoRow : OpenClaim := { program := "ytefagdbdimpcdaa", sum := "0965f3f947d957817a8412c78a2c76db98d4e933930196c69a3ce1929bad03f4", func := "keel/keellaw5.UnitsCells", spec := "unitsCells", inPlace := ["slices.overlaps[keel/shelf.row[int, *keel/units.holder]]"], unfollowed := true, recurses := true, apart := false, narrowed := true }
def UnitsCellsUptoSaid : Prop := unitsCellsUptoRow.holds Try.pinned (OpenSpec.upto unitsCellsSpec)

/-- 'keellaw5.UnitsNested', WHERE WHAT IT READS IS OF BULK AT MOST 1048576: true; the input reads as it did. -/
def unitsNestedUptoRow : OpenClaim := { program := "ytefagdbdimpcdaa", sum := "0965f3f947d957817a8412c78a2c76db98d4e933930196c69a3ce1929bad03f4", func := "keel/keellaw5.UnitsNested", spec := "unitsNested", inPlace := ["slices.overlaps[keel/shelf.row[int, *keel/units.holder]]"], unfollowed := true, recurses := true, apart := false, narrowed := true }
def UnitsNestedUptoSaid : Prop := unitsNestedUptoRow.holds Try.pinned (OpenSpec.upto unitsNestedSpec)

/-- 'keellaw5.UnitsWhen', WHERE WHAT IT READS IS OF BULK AT MOST 1048576: true; the input reads as it did. -/
def unitsWhenUptoRow : OpenClaim := { program := "ytefagdbdimpcdaa", sum := "0965f3f947d957817a8412c78a2c76db98d4e933930196c69a3ce1929bad03f4", func := "keel/keellaw5.UnitsWhen", spec := "unitsWhen", inPlace := ["slices.overlaps[keel/shelf.row[int, *keel/units.holder]]"], unfollowed := true, recurses := true, apart := false, narrowed := true }
def UnitsWhenUptoSaid : Prop := unitsWhenUptoRow.holds Try.pinned (OpenSpec.upto unitsWhenSpec)

/-- 'keellaw5.UnitsOthers', WHERE WHAT IT READS IS OF BULK AT MOST 1048576: true; the input reads as it did. -/
def unitsOthersUptoRow : OpenClaim := { program := "ytefagdbdimpcdaa", sum := "0965f3f947d957817a8412c78a2c76db98d4e933930196c69a3ce1929bad03f4", func := "keel/keellaw5.UnitsOthers", spec := "unitsOthers", inPlace := ["slices.overlaps[keel/shelf.row[int, *keel/units.holder]]"], unfollowed := true, recurses := true, apart := false, narrowed := true }
def UnitsOthersUptoSaid : Prop := unitsOthersUptoRow.holds Try.pinned (OpenSpec.upto unitsOthersSpec)

/-- 'keellaw5.UnitsKept', WHERE WHAT IT READS IS OF BULK AT MOST 1048576: true; the input reads as it did. -/
def unitsKeptUptoRow : OpenClaim := { program := "ytefagdbdimpcdaa", sum := "0965f3f947d957817a8412c78a2c76db98d4e933930196c69a3ce1929bad03f4", func := "keel/keellaw5.UnitsKept", spec := "unitsKept", inPlace := ["slices.overlaps[keel/shelf.row[int, *keel/units.holder]]"], unfollowed := true, recurses := true, apart := false, narrowed := true }
def UnitsKeptUptoSaid : Prop := unitsKeptUptoRow.holds Try.pinned (OpenSpec.upto unitsKeptSpec)

/-- 'keellaw5.UnitsSums', WHERE WHAT IT READS IS OF BULK AT MOST 1048576: true; the input reads as it did. -/
def unitsSumsUptoRow : OpenClaim := { program := "ytefagdbdimpcdaa", sum := "0965f3f947d957817a8412c78a2c76db98d4e933930196c69a3ce1929bad03f4", func := "keel/keellaw5.UnitsSums", spec := "unitsSums", inPlace := ["slices.overlaps[keel/shelf.row[int, *keel/units.holder]]"], unfollowed := true, recurses := true, apart := false, narrowed := true }
def UnitsSumsUptoSaid : Prop := unitsSumsUptoRow.holds Try.pinned (OpenSpec.upto unitsSumsSpec)

/-- 'keellaw5.UnitsPlays', WHERE WHAT IT READS IS OF BULK AT MOST 1048576: true; the input reads as it did. -/
def unitsPlaysUptoRow : OpenClaim := { program := "ytefagdbdimpcdaa", sum := "0965f3f947d957817a8412c78a2c76db98d4e933930196c69a3ce1929bad03f4", func := "keel/keellaw5.UnitsPlays", spec := "unitsPlays", inPlace := ["slices.overlaps[keel/shelf.row[int, *keel/units.holder]]"], unfollowed := true, recurses := true, apart := false, narrowed := true }
def UnitsPlaysUptoSaid : Prop := unitsPlaysUptoRow.holds Try.pinned (OpenSpec.upto unitsPlaysSpec)

end Rows
end Go.Proofs.Ytefagdbdimpcdaa
