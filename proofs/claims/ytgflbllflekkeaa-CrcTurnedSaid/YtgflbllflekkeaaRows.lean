/-
  No cell of these rows narrows 'for every input' (looked for: loops, veiled, ifaces, maps, wideKeys, modest, calm, conditions, laid).
  DERIVED. THE GIVEN ROWS OF THIS SEAT. 9 by the template 'for every input the law returns true; each argument reads behind the call as it read before'; 0 by the template 'total and deterministic' (their statements: YtgflbllflekkeaaTotals.lean).
  GIVEN WITH THE SEED: the statements are not yours to turn. If you find one false, say at which input.
  Laid BY PROGRAM, IN A SANDBOX (cutbox-rows.mjs): the forced cells as the released guide's own fill.sh prints them over the translation 471d020043a7be37… (all of the seat's roots in one cut). By AI agents, Wed Nov 11 2026. No macro, syntax, notation, axiom, sorry.
-/
import Derived.Test.YtgflbllflekkeaaChecked
import GoSem.Claim
import GoSem.ClaimJoined
import GoSem.ClaimMapViews
import Derived.JoinedTies
import Derived.KernelRfl
namespace Go.Proofs.Ytgflbllflekkeaa
/- THE CELL 'sum', in the pinned program and in every row, IS THE sha256 OF THE DUMP (.gsa) THAT YtgflbllflekkeaaProg.lean LOADS. Nothing in Lean hashes anything: it is a label: what it is worth is what the hold of that sum in a sandbox is worth. -/
noncomputable def Try.pinned : Pinned := { name := "ytgflbllflekkeaa", sum := "471d020043a7be372b041f17ea41544b98fb1c7bfe07a7c543262dc7bc858d5a", checked := Try.checked }
namespace Rows
def none {H : Type} : Left H := { results := [], args := [] }

/-- 'thimblelaw01.PackSizes': WHATEVER THE INPUT: true; the input reads as it did. -/
def packSizesSpec : ChangeSpec := { name := "packSizes", fn := fun _ => fun
  | [d1, d2] => { results := [.lit (.bool true)], args := [d1, d2] }
  | _ => none }
def packSizesRow : OpenClaim := { program := "ytgflbllflekkeaa", sum := "471d020043a7be372b041f17ea41544b98fb1c7bfe07a7c543262dc7bc858d5a", func := "thimble/thimblelaw01.PackSizes", spec := "packSizes", apart := false }
def PackSizesSaid : Prop := packSizesRow.holds Try.pinned (OpenSpec.ofChange packSizesSpec)

/-- ITS FALSE NEIGHBOUR: 'it returns false'. Refute it at one input. -/
def packSizesWrong : ChangeSpec := { name := "packSizes", fn := fun _ => fun
  | [d1, d2] => { results := [.lit (.bool false)], args := [d1, d2] }
  | _ => none }
def PackSizesWrongFalsely : Prop := packSizesRow.holds Try.pinned (OpenSpec.ofChange packSizesWrong)

/-- 'thimblelaw02.CrcTells': WHATEVER THE INPUT: true; the input reads as it did. -/
def crcTellsSpec : ChangeSpec := { name := "crcTells", fn := fun _ => fun
  | [d1, d2, d3] => { results := [.lit (.bool true)], args := [d1, d2, d3] }
  | _ => none }
def crcTellsRow : OpenClaim := { program := "ytgflbllflekkeaa", sum := "471d020043a7be372b041f17ea41544b98fb1c7bfe07a7c543262dc7bc858d5a", func := "thimble/thimblelaw02.CrcTells", spec := "crcTells", apart := false }
def CrcTellsSaid : Prop := crcTellsRow.holds Try.pinned (OpenSpec.ofChange crcTellsSpec)

/-- ITS FALSE NEIGHBOUR: 'it returns false'. Refute it at one input. -/
def crcTellsWrong : ChangeSpec := { name := "crcTells", fn := fun _ => fun
  | [d1, d2, d3] => { results := [.lit (.bool false)], args := [d1, d2, d3] }
  | _ => none }
def CrcTellsWrongFalsely : Prop := crcTellsRow.holds Try.pinned (OpenSpec.ofChange crcTellsWrong)

/-- 'thimblelaw02.CrcParts': WHATEVER THE INPUT: true; the input reads as it did. -/
def crcPartsSpec : ChangeSpec := { name := "crcParts", fn := fun _ => fun
  | [d1, d2, d3] => { results := [.lit (.bool true)], args := [d1, d2, d3] }
  | _ => none }
def crcPartsRow : OpenClaim := { program := "ytgflbllflekkeaa", sum := "471d020043a7be372b041f17ea41544b98fb1c7bfe07a7c543262dc7bc858d5a", func := "thimble/thimblelaw02.CrcParts", spec := "crcParts", apart := false }
def CrcPartsSaid : Prop := crcPartsRow.holds Try.pinned (OpenSpec.ofChange crcPartsSpec)

/-- ITS FALSE NEIGHBOUR: 'it returns false'. Refute it at one input. -/
def crcPartsWrong : ChangeSpec := { name := "crcParts", fn := fun _ => fun
  | [d1, d2, d3] => { results := [.lit (.bool false)], args := [d1, d2, d3] }
  | _ => none }
def CrcPartsWrongFalsely : Prop := crcPartsRow.holds Try.pinned (OpenSpec.ofChange crcPartsWrong)

/-- 'thimblelaw02.CrcTurned': WHATEVER THE INPUT: true; the input reads as it did. -/
def crcTurnedSpec : ChangeSpec := { name := "crcTurned", fn := fun _ => fun
  | [d1, d2, d3] => { results := [.lit (.bool true)], args := [d1, d2, d3] }
  | _ => none }
def crcTurnedRow : OpenClaim := { program := "ytgflbllflekkeaa", sum := "471d020043a7be372b041f17ea41544b98fb1c7bfe07a7c543262dc7bc858d5a", func := "thimble/thimblelaw02.CrcTurned", spec := "crcTurned", apart := false }
def CrcTurnedSaid : Prop := crcTurnedRow.holds Try.pinned (OpenSpec.ofChange crcTurnedSpec)

/-- ITS FALSE NEIGHBOUR: 'it returns false'. Refute it at one input. -/
def crcTurnedWrong : ChangeSpec := { name := "crcTurned", fn := fun _ => fun
  | [d1, d2, d3] => { results := [.lit (.bool false)], args := [d1, d2, d3] }
  | _ => none }
def CrcTurnedWrongFalsely : Prop := crcTurnedRow.holds Try.pinned (OpenSpec.ofChange crcTurnedWrong)

/-- 'thimblelaw02.CrcLinear': WHATEVER THE INPUT: true; the input reads as it did. -/
def crcLinearSpec : ChangeSpec := { name := "crcLinear", fn := fun _ => fun
  | [d1, d2] => { results := [.lit (.bool true)], args := [d1, d2] }
  | _ => none }
def crcLinearRow : OpenClaim := { program := "ytgflbllflekkeaa", sum := "471d020043a7be372b041f17ea41544b98fb1c7bfe07a7c543262dc7bc858d5a", func := "thimble/thimblelaw02.CrcLinear", spec := "crcLinear", apart := false }
def CrcLinearSaid : Prop := crcLinearRow.holds Try.pinned (OpenSpec.ofChange crcLinearSpec)

/-- ITS FALSE NEIGHBOUR: 'it returns false'. Refute it at one input. -/
def crcLinearWrong : ChangeSpec := { name := "crcLinear", fn := fun _ => fun
  | [d1, d2] => { results := [.lit (.bool false)], args := [d1, d2] }
  | _ => none }
def CrcLinearWrongFalsely : Prop := crcLinearRow.holds Try.pinned (OpenSpec.ofChange crcLinearWrong)

/-- 'thimblelaw02.CrcSteps': WHATEVER THE INPUT: true; the input reads as it did. -/
def crcStepsSpec : ChangeSpec := { name := "crcSteps", fn := fun _ => fun
  | [d1, d2] => { results := [.lit (.bool true)], args := [d1, d2] }
  | _ => none }
def crcStepsRow : OpenClaim := { program := "ytgflbllflekkeaa", sum := "471d020043a7be372b041f17ea41544b98fb1c7bfe07a7c543262dc7bc858d5a", func := "thimble/thimblelaw02.CrcSteps", spec := "crcSteps", apart := false }
def CrcStepsSaid : Prop := crcStepsRow.holds Try.pinned (OpenSpec.ofChange crcStepsSpec)

/-- ITS FALSE NEIGHBOUR: 'it returns false'. Refute it at one input. -/
def crcStepsWrong : ChangeSpec := { name := "crcSteps", fn := fun _ => fun
  | [d1, d2] => { results := [.lit (.bool false)], args := [d1, d2] }
  | _ => none }
def CrcStepsWrongFalsely : Prop := crcStepsRow.holds Try.pinned (OpenSpec.ofChange crcStepsWrong)

/-- 'thimblelaw01.PackTells': WHATEVER THE INPUT: true; the input reads as it did. -/
def packTellsSpec : ChangeSpec := { name := "packTells", fn := fun _ => fun
  | [d1, d2, d3, d4] => { results := [.lit (.bool true)], args := [d1, d2, d3, d4] }
  | _ => none }
def packTellsRow : OpenClaim := { program := "ytgflbllflekkeaa", sum := "471d020043a7be372b041f17ea41544b98fb1c7bfe07a7c543262dc7bc858d5a", func := "thimble/thimblelaw01.PackTells", spec := "packTells", recurses := true, apart := false }
def PackTellsSaid : Prop := packTellsRow.holds Try.pinned (OpenSpec.ofChange packTellsSpec)

/-- ITS FALSE NEIGHBOUR: 'it returns false'. Refute it at one input. -/
def packTellsWrong : ChangeSpec := { name := "packTells", fn := fun _ => fun
  | [d1, d2, d3, d4] => { results := [.lit (.bool false)], args := [d1, d2, d3, d4] }
  | _ => none }
def PackTellsWrongFalsely : Prop := packTellsRow.holds Try.pinned (OpenSpec.ofChange packTellsWrong)

/-- 'thimblelaw01.PackBack': WHATEVER THE INPUT: true; the input reads as it did. -/
def packBackSpec : ChangeSpec := { name := "packBack", fn := fun _ => fun
  | [d1, d2, d3] => { results := [.lit (.bool true)], args := [d1, d2, d3] }
  | _ => none }
def packBackRow : OpenClaim := { program := "ytgflbllflekkeaa", sum := "471d020043a7be372b041f17ea41544b98fb1c7bfe07a7c543262dc7bc858d5a", func := "thimble/thimblelaw01.PackBack", spec := "packBack", apart := false }
def PackBackSaid : Prop := packBackRow.holds Try.pinned (OpenSpec.ofChange packBackSpec)

/-- ITS FALSE NEIGHBOUR: 'it returns false'. Refute it at one input. -/
def packBackWrong : ChangeSpec := { name := "packBack", fn := fun _ => fun
  | [d1, d2, d3] => { results := [.lit (.bool false)], args := [d1, d2, d3] }
  | _ => none }
def PackBackWrongFalsely : Prop := packBackRow.holds Try.pinned (OpenSpec.ofChange packBackWrong)

/-- 'thimblelaw01.PackVery': WHATEVER THE INPUT: true; the input reads as it did. -/
def packVerySpec : ChangeSpec := { name := "packVery", fn := fun _ => fun
  | [d1, d2] => { results := [.lit (.bool true)], args := [d1, d2] }
  | _ => none }
def packVeryRow : OpenClaim := { program := "ytgflbllflekkeaa", sum := "471d020043a7be372b041f17ea41544b98fb1c7bfe07a7c543262dc7bc858d5a", func := "thimble/thimblelaw01.PackVery", spec := "packVery", apart := false }
def PackVerySaid : Prop := packVeryRow.holds Try.pinned (OpenSpec.ofChange packVerySpec)

/-- ITS FALSE NEIGHBOUR: 'it returns false'. Refute it at one input. -/
def packVeryWrong : ChangeSpec := { name := "packVery", fn := fun _ => fun
  | [d1, d2] => { results := [.lit (.bool false)], args := [d1, d2] }
  | _ => none }
def PackVeryWrongFalsely : Prop := packVeryRow.holds Try.pinned (OpenSpec.ofChange packVeryWrong)

/- THE SECOND FORM. 'bulk': how many values and letters a reading holds, each counted each time it is reached (what is shared counts as often as it is met; a slice's spare places count too). A statement '..UptoSaid' is the law's where the arguments, and the package variables that the reading takes, are together of bulk at most 1048576: NARROWER than '..Said'. Prove '..Said' where nothing that the law and all that it calls make is longer than what came in: it says more and counts as full. Else prove '..UptoSaid'. A law counts once. -/
mutual
def uptoBulk {H : Type} : DataW H → Nat
  | .lit (.string bytes) => bytes.length + 1
  | .lit _ => 1
  | .nil => 1
  | .ptr d => uptoBulk d + 1
  | .slice elems spare => uptoBulkAll elems + uptoBulkAll spare + 1
  | .agg parts => uptoBulkAll parts + 1
  | .iface _ d => uptoBulk d + 1
  | .map entries => uptoBulkEntries entries + 1
  | .held _ => 1
def uptoBulkAll {H : Type} : List (DataW H) → Nat
  | [] => 0
  | d :: r => uptoBulk d + uptoBulkAll r
def uptoBulkEntries {H : Type} : List (Lit × DataW H) → Nat
  | [] => 0
  | x :: r => uptoBulkEntry x + uptoBulkEntries r
def uptoBulkEntry {H : Type} : Lit × DataW H → Nat
  | (.string bytes, d) => bytes.length + uptoBulk d + 1
  | (_, d) => uptoBulk d + 1
 end
def uptoSmall : (H : Type) → List (DataW H) → Bool := fun _ ds => decide (uptoBulkAll ds ≤ 1048576)
def OpenSpec.upto (s : _root_.Go.ChangeSpec) : _root_.Go.OpenSpec := { _root_.Go.OpenSpec.ofChange s with cond := some uptoSmall }

/-- 'thimblelaw01.PackSizes', WHERE WHAT IT READS IS OF BULK AT MOST 1048576: true; the input reads as it did. -/
def packSizesUptoRow : OpenClaim := { program := "ytgflbllflekkeaa", sum := "471d020043a7be372b041f17ea41544b98fb1c7bfe07a7c543262dc7bc858d5a", func := "thimble/thimblelaw01.PackSizes", spec := "packSizes", apart := false, narrowed := true }
def PackSizesUptoSaid : Prop := packSizesUptoRow.holds Try.pinned (OpenSpec.upto packSizesSpec)

/-- 'thimblelaw02.CrcTells', WHERE WHAT IT READS IS OF BULK AT MOST 1048576: true; the input reads as it did. -/
def crcTellsUptoRow : OpenClaim := { program := "ytgflbllflekkeaa", sum := "471d020043a7be372b041f17ea41544b98fb1c7bfe07a7c543262dc7bc858d5a", func := "thimble/thimblelaw02.CrcTells", spec := "crcTells", apart := false, narrowed := true }
def CrcTellsUptoSaid : Prop := crcTellsUptoRow.holds Try.pinned (OpenSpec.upto crcTellsSpec)

/-- 'thimblelaw02.CrcParts', WHERE WHAT IT READS IS OF BULK AT MOST 1048576: true; the input reads as it did. -/
def crcPartsUptoRow : OpenClaim := { program := "ytgflbllflekkeaa", sum := "471d020043a7be372b041f17ea41544b98fb1c7bfe07a7c543262dc7bc858d5a", func := "thimble/thimblelaw02.CrcParts", spec := "crcParts", apart := false, narrowed := true }
def CrcPartsUptoSaid : Prop := crcPartsUptoRow.holds Try.pinned (OpenSpec.upto crcPartsSpec)

/-- 'thimblelaw02.CrcTurned', WHERE WHAT IT READS IS OF BULK AT MOST 1048576: true; the input reads as it did. -/
def crcTurnedUptoRow : OpenClaim := { program := "ytgflbllflekkeaa", sum := "471d020043a7be372b041f17ea41544b98fb1c7bfe07a7c543262dc7bc858d5a", func := "thimble/thimblelaw02.CrcTurned", spec := "crcTurned", apart := false, narrowed := true }
def CrcTurnedUptoSaid : Prop := crcTurnedUptoRow.holds Try.pinned (OpenSpec.upto crcTurnedSpec)

/-- 'thimblelaw02.CrcLinear', WHERE WHAT IT READS IS OF BULK AT MOST 1048576: true; the input reads as it did. -/
def crcLinearUptoRow : OpenClaim := { program := "ytgflbllflekkeaa", sum := "471d020043a7be372b041f17ea41544b98fb1c7bfe07a7c543262dc7bc858d5a", func := "thimble/thimblelaw02.CrcLinear", spec := "crcLinear", apart := false, narrowed := true }
def CrcLinearUptoSaid : Prop := crcLinearUptoRow.holds Try.pinned (OpenSpec.upto crcLinearSpec)

/-- 'thimblelaw02.CrcSteps', WHERE WHAT IT READS IS OF BULK AT MOST 1048576: true; the input reads as it did. -/
def crcStepsUptoRow : OpenClaim := { program := "ytgflbllflekkeaa", sum := "471d020043a7be372b041f17ea41544b98fb1c7bfe07a7c543262dc7bc858d5a", func := "thimble/thimblelaw02.CrcSteps", spec := "crcSteps", apart := false, narrowed := true }
def CrcStepsUptoSaid : Prop := crcStepsUptoRow.holds Try.pinned (OpenSpec.upto crcStepsSpec)

/-- 'thimblelaw01.PackTells', WHERE WHAT IT READS IS OF BULK AT MOST 1048576: true; the input reads as it did. -/
def packTellsUptoRow : OpenClaim := { program := "ytgflbllflekkeaa", sum := "471d020043a7be372b041f17ea41544b98fb1c7bfe07a7c543262dc7bc858d5a", func := "thimble/thimblelaw01.PackTells", spec := "packTells", recurses := true, apart := false, narrowed := true }
def PackTellsUptoSaid : Prop := packTellsUptoRow.holds Try.pinned (OpenSpec.upto packTellsSpec)

/-- 'thimblelaw01.PackBack', WHERE WHAT IT READS IS OF BULK AT MOST 1048576: true; the input reads as it did. -/
def packBackUptoRow : OpenClaim := { program := "ytgflbllflekkeaa", sum := "471d020043a7be372b041f17ea41544b98fb1c7bfe07a7c543262dc7bc858d5a", func := "thimble/thimblelaw01.PackBack", spec := "packBack", apart := false, narrowed := true }
def PackBackUptoSaid : Prop := packBackUptoRow.holds Try.pinned (OpenSpec.upto packBackSpec)

/-- 'thimblelaw01.PackVery', WHERE WHAT IT READS IS OF BULK AT MOST 1048576: true; the input reads as it did. -/
def packVeryUptoRow : OpenClaim := { program := "ytgflbllflekkeaa", sum := "471d020043a7be372b041f17ea41544b98fb1c7bfe07a7c543262dc7bc858d5a", func := "thimble/thimblelaw01.PackVery", spec := "packVery", apart := false, narrowed := true }
def PackVeryUptoSaid : Prop := packVeryUptoRow.holds Try.pinned (OpenSpec.upto packVerySpec)

end Rows
end Go.Proofs.Ytgflbllflekkeaa
