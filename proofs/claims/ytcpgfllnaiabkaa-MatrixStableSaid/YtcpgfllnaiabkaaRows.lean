/-
  No cell of these rows narrows 'for every input' (looked for: loops, veiled, ifaces, maps, wideKeys, modest, calm, conditions, laid).
  DERIVED. THE GIVEN ROWS OF THIS SEAT. 5 by the template 'for every input the law returns true; each argument reads behind the call as it read before'; 0 by the template 'total and deterministic' (their statements: YtcpgfllnaiabkaaTotals.lean).
  GIVEN WITH THE SEED: the statements are not yours to turn. If you find one false, say at which input.
  Laid BY PROGRAM, IN A SANDBOX (cutbox-rows.mjs): the forced cells as the released guide's own fill.sh prints them over the translation 4e35d6c443f6f24e… (all of the seat's roots in one cut). By AI agents, Wed Nov 11 2026. No macro, syntax, notation, axiom, sorry.
-/
import Derived.Test.YtcpgfllnaiabkaaChecked
import GoSem.Claim
import GoSem.ClaimJoined
import GoSem.ClaimMapViews
import Derived.JoinedTies
import Derived.KernelRfl
namespace Go.Proofs.Ytcpgfllnaiabkaa
/- THE CELL 'sum', in the pinned program and in every row, IS THE sha256 OF THE DUMP (.gsa) THAT YtcpgfllnaiabkaaProg.lean LOADS. Nothing in Lean hashes anything: it is a label: what it is worth is what the hold of that sum in a sandbox is worth. -/
noncomputable def Try.pinned : Pinned := { name := "ytcpgfllnaiabkaa", sum := "4e35d6c443f6f24e4c3c60f880d60b86d1dafb79045e92095fbd68c600908f47", checked := Try.checked }
namespace Rows
def none {H : Type} : Left H := { results := [], args := [] }

/-- 'thimblelaw18.MatrixStable': WHATEVER THE INPUT: true; the input reads as it did. -/
def matrixStableSpec : ChangeSpec := { name := "matrixStable", fn := fun _ => fun
  | [d] => { results := [.lit (.bool true)], args := [d] }
  | _ => none }
def matrixStableRow : OpenClaim := { program := "ytcpgfllnaiabkaa", sum := "4e35d6c443f6f24e4c3c60f880d60b86d1dafb79045e92095fbd68c600908f47", func := "thimble/thimblelaw18.MatrixStable", spec := "matrixStable", unfollowed := true, recurses := true, apart := false }
def MatrixStableSaid : Prop := matrixStableRow.holds Try.pinned (OpenSpec.ofChange matrixStableSpec)

/-- ITS FALSE NEIGHBOUR: 'it returns false'. Refute it at one input. -/
def matrixStableWrong : ChangeSpec := { name := "matrixStable", fn := fun _ => fun
  | [d] => { results := [.lit (.bool false)], args := [d] }
  | _ => none }
def MatrixStableWrongFalsely : Prop := matrixStableRow.holds Try.pinned (OpenSpec.ofChange matrixStableWrong)

/-- 'thimblelaw18.MatrixMerges': WHATEVER THE INPUT: true; the input reads as it did. -/
def matrixMergesSpec : ChangeSpec := { name := "matrixMerges", fn := fun _ => fun
  | [d1, d2, d3] => { results := [.lit (.bool true)], args := [d1, d2, d3] }
  | _ => none }
def matrixMergesRow : OpenClaim := { program := "ytcpgfllnaiabkaa", sum := "4e35d6c443f6f24e4c3c60f880d60b86d1dafb79045e92095fbd68c600908f47", func := "thimble/thimblelaw18.MatrixMerges", spec := "matrixMerges", unfollowed := true, recurses := true, apart := false }
def MatrixMergesSaid : Prop := matrixMergesRow.holds Try.pinned (OpenSpec.ofChange matrixMergesSpec)

/-- ITS FALSE NEIGHBOUR: 'it returns false'. Refute it at one input. -/
def matrixMergesWrong : ChangeSpec := { name := "matrixMerges", fn := fun _ => fun
  | [d1, d2, d3] => { results := [.lit (.bool false)], args := [d1, d2, d3] }
  | _ => none }
def MatrixMergesWrongFalsely : Prop := matrixMergesRow.holds Try.pinned (OpenSpec.ofChange matrixMergesWrong)

/-- 'thimblelaw18.MatrixPlays': WHATEVER THE INPUT: true; the input reads as it did. -/
def matrixPlaysSpec : ChangeSpec := { name := "matrixPlays", fn := fun _ => fun
  | [d1, d2, d3, d4] => { results := [.lit (.bool true)], args := [d1, d2, d3, d4] }
  | _ => none }
def matrixPlaysRow : OpenClaim := { program := "ytcpgfllnaiabkaa", sum := "4e35d6c443f6f24e4c3c60f880d60b86d1dafb79045e92095fbd68c600908f47", func := "thimble/thimblelaw18.MatrixPlays", spec := "matrixPlays", unfollowed := true, recurses := true, apart := false }
def MatrixPlaysSaid : Prop := matrixPlaysRow.holds Try.pinned (OpenSpec.ofChange matrixPlaysSpec)

/-- ITS FALSE NEIGHBOUR: 'it returns false'. Refute it at one input. -/
def matrixPlaysWrong : ChangeSpec := { name := "matrixPlays", fn := fun _ => fun
  | [d1, d2, d3, d4] => { results := [.lit (.bool false)], args := [d1, d2, d3, d4] }
  | _ => none }
def MatrixPlaysWrongFalsely : Prop := matrixPlaysRow.holds Try.pinned (OpenSpec.ofChange matrixPlaysWrong)

/-- 'thimblelaw18.MatrixGrows': WHATEVER THE INPUT: true; the input reads as it did. -/
def matrixGrowsSpec : ChangeSpec := { name := "matrixGrows", fn := fun _ => fun
  | [d1, d2] => { results := [.lit (.bool true)], args := [d1, d2] }
  | _ => none }
def matrixGrowsRow : OpenClaim := { program := "ytcpgfllnaiabkaa", sum := "4e35d6c443f6f24e4c3c60f880d60b86d1dafb79045e92095fbd68c600908f47", func := "thimble/thimblelaw18.MatrixGrows", spec := "matrixGrows", unfollowed := true, recurses := true, apart := false }
def MatrixGrowsSaid : Prop := matrixGrowsRow.holds Try.pinned (OpenSpec.ofChange matrixGrowsSpec)

/-- ITS FALSE NEIGHBOUR: 'it returns false'. Refute it at one input. -/
def matrixGrowsWrong : ChangeSpec := { name := "matrixGrows", fn := fun _ => fun
  | [d1, d2] => { results := [.lit (.bool false)], args := [d1, d2] }
  | _ => none }
def MatrixGrowsWrongFalsely : Prop := matrixGrowsRow.holds Try.pinned (OpenSpec.ofChange matrixGrowsWrong)

/-- 'thimblelaw18.MatrixRows': WHATEVER THE INPUT: true; the input reads as it did. -/
def matrixRowsSpec : ChangeSpec := { name := "matrixRows", fn := fun _ => fun
  | [d1, d2, d3] => { results := [.lit (.bool true)], args := [d1, d2, d3] }
  | _ => none }
def matrixRowsRow : OpenClaim := { program := "ytcpgfllnaiabkaa", sum := "4e35d6c443f6f24e4c3c60f880d60b86d1dafb79045e92095fbd68c600908f47", func := "thimble/thimblelaw18.MatrixRows", spec := "matrixRows", unfollowed := true, recurses := true, apart := false }
def MatrixRowsSaid : Prop := matrixRowsRow.holds Try.pinned (OpenSpec.ofChange matrixRowsSpec)

/-- ITS FALSE NEIGHBOUR: 'it returns false'. Refute it at one input. -/
def matrixRowsWrong : ChangeSpec := { name := "matrixRows", fn := fun _ => fun
  | [d1, d2, d3] => { results := [.lit (.bool false)], args := [d1, d2, d3] }
  | _ => none }
def MatrixRowsWrongFalsely : Prop := matrixRowsRow.holds Try.pinned (OpenSpec.ofChange matrixRowsWrong)

/- THE SECOND FORM. 'bulk': how many values and letters a reading holds, each counted each time it is reached (what is shared counts as often as it is met; a slice's spare places count too). A statement '..UptoSaid' is the law's where the arguments, and the package variables that the reading takes, are together of bulk at most 1048576: NARROWER than '..Said'. Prove '..Said' where nothing that the law and all that it calls make is longer than what came in: it says more and counts as full. Else prove '..UptoSaid'. A law counts once. -/
mutual
def uptoBulk {H : Type} : DataW H → Nat
  | .lit (.string bytes) => bytes.length + 1
  | .lit _ => 1
  | .nil => 1
  | .ptr d => uptoBulk d + 1
  | .slice elems spare => uptoBulkAll elems + uptoBulkAll spare + 1
  | .agg parts => uptoBulkAll parts + 1
  | .iface _ d => uptoBulk d + 1
  | .map entries => uptoBulkEntries entries + 1
  | .held _ => 1
def uptoBulkAll {H : Type} : List (DataW H) → Nat
  | [] => 0
  | d :: r => uptoBulk d + uptoBulkAll r
def uptoBulkEntries {H : Type} : List (Lit × DataW H) → Nat
  | [] => 0
  | x :: r => uptoBulkEntry x + uptoBulkEntries r
def uptoBulkEntry {H : Type} : Lit × DataW H → Nat
  | (.string bytes, d) => bytes.length + uptoBulk d + 1
  | (_, d) => uptoBulk d + 1
 end
def uptoSmall : (H : Type) → List (DataW H) → Bool := fun _ ds => decide (uptoBulkAll ds ≤ 1048576)
def OpenSpec.upto (s : _root_.Go.ChangeSpec) : _root_.Go.OpenSpec := { _root_.Go.OpenSpec.ofChange s with cond := some uptoSmall }

/-- 'thimblelaw18.MatrixStable', WHERE WHAT IT READS IS OF BULK AT MOST 1048576: true; the input reads as it did. -/
def matrixStableUptoRow : OpenClaim := { program := "ytcpgfllnaiabkaa", sum := "4e35d6c443f6f24e4c3c60f880d60b86d1dafb79045e92095fbd68c600908f47", func := "thimble/thimblelaw18.MatrixStable", spec := "matrixStable", unfollowed := true, recurses := true, apart := false, narrowed := true }
def MatrixStableUptoSaid : Prop := matrixStableUptoRow.holds Try.pinned (OpenSpec.upto matrixStableSpec)

/-- 'thimblelaw18.MatrixMerges', WHERE WHAT IT READS IS OF BULK AT MOST 1048576: true; the input reads as it did. -/
def matrixMergesUptoRow : OpenClaim := { program := "ytcpgfllnaiabkaa", sum := "4e35d6c443f6f24e4c3c60f880d60b86d1dafb79045e92095fbd68c600908f47", func := "thimble/thimblelaw18.MatrixMerges", spec := "matrixMerges", unfollowed := true, recurses := true, apart := false, narrowed := true }
def MatrixMergesUptoSaid : Prop := matrixMergesUptoRow.holds Try.pinned (OpenSpec.upto matrixMergesSpec)

/-- 'thimblelaw18.MatrixPlays', WHERE WHAT IT READS IS OF BULK AT MOST 1048576: true; the input reads as it did. -/
def matrixPlaysUptoRow : OpenClaim := { program := "ytcpgfllnaiabkaa", sum := "4e35d6c443f6f24e4c3c60f880d60b86d1dafb79045e92095fbd68c600908f47", func := "thimble/thimblelaw18.MatrixPlays", spec := "matrixPlays", unfollowed := true, recurses := true, apart := false, narrowed := true }
def MatrixPlaysUptoSaid : Prop := matrixPlaysUptoRow.holds Try.pinned (OpenSpec.upto matrixPlaysSpec)

/-- 'thimblelaw18.MatrixGrows', WHERE WHAT IT READS IS OF BULK AT MOST 1048576: true; the input reads as it did. -/
def matrixGrowsUptoRow : OpenClaim := { program := "ytcpgfllnaiabkaa", sum := "4e35d6c443f6f24e4c3c60f880d60b86d1dafb79045e92095fbd68c600908f47", func := "thimble/thimblelaw18.MatrixGrows", spec := "matrixGrows", unfollowed := true, recurses := true, apart := false, narrowed := true }
def MatrixGrowsUptoSaid : Prop := matrixGrowsUptoRow.holds Try.pinned (OpenSpec.upto matrixGrowsSpec)

/-- 'thimblelaw18.MatrixRows', WHERE WHAT IT READS IS OF BULK AT MOST 1048576: true; the input reads as it did. -/
def matrixRowsUptoRow : OpenClaim := { program := "ytcpgfllnaiabkaa", sum := "4e35d6c443f6f24e4c3c60f880d60b86d1dafb79045e92095fbd68c600908f47", func := "thimble/thimblelaw18.MatrixRows", spec := "matrixRows", unfollowed := true, recurses := true, apart := false, narrowed := true }
def MatrixRowsUptoSaid : Prop := matrixRowsUptoRow.holds Try.pinned (OpenSpec.upto matrixRowsSpec)

end Rows
end Go.Proofs.Ytcpgfllnaiabkaa
