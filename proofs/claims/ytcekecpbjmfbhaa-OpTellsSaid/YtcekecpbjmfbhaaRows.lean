/-
  No cell of these rows narrows 'for every input' (looked for: loops, veiled, ifaces, maps, wideKeys, modest, calm, conditions, laid).
  DERIVED. THE GIVEN ROWS OF THIS SEAT. 11 by the template 'for every input the law returns true; each argument reads behind the call as it read before'; 0 by the template 'total and deterministic' (their statements: YtcekecpbjmfbhaaTotals.lean).
  GIVEN WITH THE SEED: the statements are not yours to turn. If you find one false, say at which input.
  Laid BY PROGRAM, IN A SANDBOX (cutbox-rows.mjs): the forced cells as the released guide's own fill.sh prints them over the translation e4d4db94471b77b5… (all of the seat's roots in one cut). By AI agents, Wed Nov 11 2026. No macro, syntax, notation, axiom, sorry.
-/
import Derived.Test.YtcekecpbjmfbhaaChecked
import GoSem.Claim
import GoSem.ClaimJoined
import GoSem.ClaimMapViews
import Derived.JoinedTies
import Derived.KernelRfl
namespace Go.Proofs.Ytcekecpbjmfbhaa
/- THE CELL 'sum', in the pinned program and in every row, IS THE sha256 OF THE DUMP (.gsa) THAT YtcekecpbjmfbhaaProg.lean LOADS. Nothing in Lean hashes anything: it is a label: what it is worth is what the hold of that sum in a sandbox is worth. -/
noncomputable def Try.pinned : Pinned := { name := "ytcekecpbjmfbhaa", sum := "e4d4db94471b77b514d8a9c9a5aea1f7e8939cca9b64a539e5cf830100b7d2a2", checked := Try.checked }
namespace Rows
def none {H : Type} : Left H := { results := [], args := [] }

/-- 'thimblelaw06.FrameTells': WHATEVER THE INPUT: true; the input reads as it did. -/
def frameTellsSpec : ChangeSpec := { name := "frameTells", fn := fun _ => fun
  | [d1, d2] => { results := [.lit (.bool true)], args := [d1, d2] }
  | _ => none }
def frameTellsRow : OpenClaim := { program := "ytcekecpbjmfbhaa", sum := "e4d4db94471b77b514d8a9c9a5aea1f7e8939cca9b64a539e5cf830100b7d2a2", func := "thimble/thimblelaw06.FrameTells", spec := "frameTells", unfollowed := true, recurses := true, apart := false }
def FrameTellsSaid : Prop := frameTellsRow.holds Try.pinned (OpenSpec.ofChange frameTellsSpec)

/-- ITS FALSE NEIGHBOUR: 'it returns false'. Refute it at one input. -/
def frameTellsWrong : ChangeSpec := { name := "frameTells", fn := fun _ => fun
  | [d1, d2] => { results := [.lit (.bool false)], args := [d1, d2] }
  | _ => none }
def FrameTellsWrongFalsely : Prop := frameTellsRow.holds Try.pinned (OpenSpec.ofChange frameTellsWrong)

/-- 'thimblelaw06.FrameCut': WHATEVER THE INPUT: true; the input reads as it did. -/
def frameCutSpec : ChangeSpec := { name := "frameCut", fn := fun _ => fun
  | [d1, d2] => { results := [.lit (.bool true)], args := [d1, d2] }
  | _ => none }
def frameCutRow : OpenClaim := { program := "ytcekecpbjmfbhaa", sum := "e4d4db94471b77b514d8a9c9a5aea1f7e8939cca9b64a539e5cf830100b7d2a2", func := "thimble/thimblelaw06.FrameCut", spec := "frameCut", unfollowed := true, recurses := true, apart := false }
def FrameCutSaid : Prop := frameCutRow.holds Try.pinned (OpenSpec.ofChange frameCutSpec)

/-- ITS FALSE NEIGHBOUR: 'it returns false'. Refute it at one input. -/
def frameCutWrong : ChangeSpec := { name := "frameCut", fn := fun _ => fun
  | [d1, d2] => { results := [.lit (.bool false)], args := [d1, d2] }
  | _ => none }
def FrameCutWrongFalsely : Prop := frameCutRow.holds Try.pinned (OpenSpec.ofChange frameCutWrong)

/-- 'thimblelaw06.FrameTurned': WHATEVER THE INPUT: true; the input reads as it did. -/
def frameTurnedSpec : ChangeSpec := { name := "frameTurned", fn := fun _ => fun
  | [d1, d2, d3] => { results := [.lit (.bool true)], args := [d1, d2, d3] }
  | _ => none }
def frameTurnedRow : OpenClaim := { program := "ytcekecpbjmfbhaa", sum := "e4d4db94471b77b514d8a9c9a5aea1f7e8939cca9b64a539e5cf830100b7d2a2", func := "thimble/thimblelaw06.FrameTurned", spec := "frameTurned", unfollowed := true, recurses := true, apart := false }
def FrameTurnedSaid : Prop := frameTurnedRow.holds Try.pinned (OpenSpec.ofChange frameTurnedSpec)

/-- ITS FALSE NEIGHBOUR: 'it returns false'. Refute it at one input. -/
def frameTurnedWrong : ChangeSpec := { name := "frameTurned", fn := fun _ => fun
  | [d1, d2, d3] => { results := [.lit (.bool false)], args := [d1, d2, d3] }
  | _ => none }
def FrameTurnedWrongFalsely : Prop := frameTurnedRow.holds Try.pinned (OpenSpec.ofChange frameTurnedWrong)

/-- 'thimblelaw06.FrameBack': WHATEVER THE INPUT: true; the input reads as it did. -/
def frameBackSpec : ChangeSpec := { name := "frameBack", fn := fun _ => fun
  | [d] => { results := [.lit (.bool true)], args := [d] }
  | _ => none }
def frameBackRow : OpenClaim := { program := "ytcekecpbjmfbhaa", sum := "e4d4db94471b77b514d8a9c9a5aea1f7e8939cca9b64a539e5cf830100b7d2a2", func := "thimble/thimblelaw06.FrameBack", spec := "frameBack", unfollowed := true, recurses := true, apart := false }
def FrameBackSaid : Prop := frameBackRow.holds Try.pinned (OpenSpec.ofChange frameBackSpec)

/-- ITS FALSE NEIGHBOUR: 'it returns false'. Refute it at one input. -/
def frameBackWrong : ChangeSpec := { name := "frameBack", fn := fun _ => fun
  | [d] => { results := [.lit (.bool false)], args := [d] }
  | _ => none }
def FrameBackWrongFalsely : Prop := frameBackRow.holds Try.pinned (OpenSpec.ofChange frameBackWrong)

/-- 'thimblelaw06.FrameJoins': WHATEVER THE INPUT: true; the input reads as it did. -/
def frameJoinsSpec : ChangeSpec := { name := "frameJoins", fn := fun _ => fun
  | [d1, d2] => { results := [.lit (.bool true)], args := [d1, d2] }
  | _ => none }
def frameJoinsRow : OpenClaim := { program := "ytcekecpbjmfbhaa", sum := "e4d4db94471b77b514d8a9c9a5aea1f7e8939cca9b64a539e5cf830100b7d2a2", func := "thimble/thimblelaw06.FrameJoins", spec := "frameJoins", unfollowed := true, recurses := true, apart := false }
def FrameJoinsSaid : Prop := frameJoinsRow.holds Try.pinned (OpenSpec.ofChange frameJoinsSpec)

/-- ITS FALSE NEIGHBOUR: 'it returns false'. Refute it at one input. -/
def frameJoinsWrong : ChangeSpec := { name := "frameJoins", fn := fun _ => fun
  | [d1, d2] => { results := [.lit (.bool false)], args := [d1, d2] }
  | _ => none }
def FrameJoinsWrongFalsely : Prop := frameJoinsRow.holds Try.pinned (OpenSpec.ofChange frameJoinsWrong)

/-- 'thimblelaw05.OpFields': WHATEVER THE INPUT: true; the input reads as it did. -/
def opFieldsSpec : ChangeSpec := { name := "opFields", fn := fun _ => fun
  | [d1, d2] => { results := [.lit (.bool true)], args := [d1, d2] }
  | _ => none }
def opFieldsRow : OpenClaim := { program := "ytcekecpbjmfbhaa", sum := "e4d4db94471b77b514d8a9c9a5aea1f7e8939cca9b64a539e5cf830100b7d2a2", func := "thimble/thimblelaw05.OpFields", spec := "opFields", inPlace := ["internal/bytealg.IndexByteString", "internal/bytealg.IndexString"], named := ["internal/bytealg.MaxLen"], apart := false }
def OpFieldsSaid : Prop := opFieldsRow.holds Try.pinned (OpenSpec.ofChange opFieldsSpec)

/-- ITS FALSE NEIGHBOUR: 'it returns false'. Refute it at one input. -/
def opFieldsWrong : ChangeSpec := { name := "opFields", fn := fun _ => fun
  | [d1, d2] => { results := [.lit (.bool false)], args := [d1, d2] }
  | _ => none }
def OpFieldsWrongFalsely : Prop := opFieldsRow.holds Try.pinned (OpenSpec.ofChange opFieldsWrong)

/-- 'thimblelaw05.OpNames': WHATEVER THE INPUT: true; the input reads as it did. -/
def opNamesSpec : ChangeSpec := { name := "opNames", fn := fun _ => fun
  | [d1, d2] => { results := [.lit (.bool true)], args := [d1, d2] }
  | _ => none }
def opNamesRow : OpenClaim := { program := "ytcekecpbjmfbhaa", sum := "e4d4db94471b77b514d8a9c9a5aea1f7e8939cca9b64a539e5cf830100b7d2a2", func := "thimble/thimblelaw05.OpNames", spec := "opNames", inPlace := ["internal/bytealg.IndexByteString", "internal/bytealg.IndexString"], named := ["internal/bytealg.MaxLen"], apart := false }
def OpNamesSaid : Prop := opNamesRow.holds Try.pinned (OpenSpec.ofChange opNamesSpec)

/-- ITS FALSE NEIGHBOUR: 'it returns false'. Refute it at one input. -/
def opNamesWrong : ChangeSpec := { name := "opNames", fn := fun _ => fun
  | [d1, d2] => { results := [.lit (.bool false)], args := [d1, d2] }
  | _ => none }
def OpNamesWrongFalsely : Prop := opNamesRow.holds Try.pinned (OpenSpec.ofChange opNamesWrong)

/-- 'thimblelaw05.OpUses': WHATEVER THE INPUT: true; the input reads as it did. -/
def opUsesSpec : ChangeSpec := { name := "opUses", fn := fun _ => fun
  | [d] => { results := [.lit (.bool true)], args := [d] }
  | _ => none }
def opUsesRow : OpenClaim := { program := "ytcekecpbjmfbhaa", sum := "e4d4db94471b77b514d8a9c9a5aea1f7e8939cca9b64a539e5cf830100b7d2a2", func := "thimble/thimblelaw05.OpUses", spec := "opUses", inPlace := ["internal/bytealg.IndexByteString", "internal/bytealg.IndexString"], named := ["internal/bytealg.MaxLen"], apart := false }
def OpUsesSaid : Prop := opUsesRow.holds Try.pinned (OpenSpec.ofChange opUsesSpec)

/-- ITS FALSE NEIGHBOUR: 'it returns false'. Refute it at one input. -/
def opUsesWrong : ChangeSpec := { name := "opUses", fn := fun _ => fun
  | [d] => { results := [.lit (.bool false)], args := [d] }
  | _ => none }
def OpUsesWrongFalsely : Prop := opUsesRow.holds Try.pinned (OpenSpec.ofChange opUsesWrong)

/-- 'thimblelaw05.OpStamps': WHATEVER THE INPUT: true; the input reads as it did. -/
def opStampsSpec : ChangeSpec := { name := "opStamps", fn := fun _ => fun
  | [d1, d2, d3] => { results := [.lit (.bool true)], args := [d1, d2, d3] }
  | _ => none }
def opStampsRow : OpenClaim := { program := "ytcekecpbjmfbhaa", sum := "e4d4db94471b77b514d8a9c9a5aea1f7e8939cca9b64a539e5cf830100b7d2a2", func := "thimble/thimblelaw05.OpStamps", spec := "opStamps", inPlace := ["internal/bytealg.IndexByteString", "internal/bytealg.IndexString"], named := ["internal/bytealg.MaxLen"], apart := false }
def OpStampsSaid : Prop := opStampsRow.holds Try.pinned (OpenSpec.ofChange opStampsSpec)

/-- ITS FALSE NEIGHBOUR: 'it returns false'. Refute it at one input. -/
def opStampsWrong : ChangeSpec := { name := "opStamps", fn := fun _ => fun
  | [d1, d2, d3] => { results := [.lit (.bool false)], args := [d1, d2, d3] }
  | _ => none }
def OpStampsWrongFalsely : Prop := opStampsRow.holds Try.pinned (OpenSpec.ofChange opStampsWrong)

/-- 'thimblelaw05.OpBack': WHATEVER THE INPUT: true; the input reads as it did. -/
def opBackSpec : ChangeSpec := { name := "opBack", fn := fun _ => fun
  | [d1, d2] => { results := [.lit (.bool true)], args := [d1, d2] }
  | _ => none }
def opBackRow : OpenClaim := { program := "ytcekecpbjmfbhaa", sum := "e4d4db94471b77b514d8a9c9a5aea1f7e8939cca9b64a539e5cf830100b7d2a2", func := "thimble/thimblelaw05.OpBack", spec := "opBack", inPlace := ["internal/bytealg.IndexByteString", "internal/bytealg.IndexString"], unfollowed := true, recurses := true, named := ["internal/bytealg.MaxLen"], apart := false }
def OpBackSaid : Prop := opBackRow.holds Try.pinned (OpenSpec.ofChange opBackSpec)

/-- ITS FALSE NEIGHBOUR: 'it returns false'. Refute it at one input. -/
def opBackWrong : ChangeSpec := { name := "opBack", fn := fun _ => fun
  | [d1, d2] => { results := [.lit (.bool false)], args := [d1, d2] }
  | _ => none }
def OpBackWrongFalsely : Prop := opBackRow.holds Try.pinned (OpenSpec.ofChange opBackWrong)

/-- 'thimblelaw05.OpTells': WHATEVER THE INPUT: true; the input reads as it did. -/
def opTellsSpec : ChangeSpec := { name := "opTells", fn := fun _ => fun
  | [d1, d2] => { results := [.lit (.bool true)], args := [d1, d2] }
  | _ => none }
def opTellsRow : OpenClaim := { program := "ytcekecpbjmfbhaa", sum := "e4d4db94471b77b514d8a9c9a5aea1f7e8939cca9b64a539e5cf830100b7d2a2", func := "thimble/thimblelaw05.OpTells", spec := "opTells", inPlace := ["internal/bytealg.IndexByteString", "internal/bytealg.IndexString"], unfollowed := true, recurses := true, named := ["internal/bytealg.MaxLen"], apart := false }
def OpTellsSaid : Prop := opTellsRow.holds Try.pinned (OpenSpec.ofChange opTellsSpec)

/-- ITS FALSE NEIGHBOUR: 'it returns false'. Refute it at one input. -/
def opTellsWrong : ChangeSpec := { name := "opTells", fn := fun _ => fun
  | [d1, d2] => { results := [.lit (.bool false)], args := [d1, d2] }
  | _ => none }
def OpTellsWrongFalsely : Prop := opTellsRow.holds Try.pinned (OpenSpec.ofChange opTellsWrong)

/- THE SECOND FORM. 'bulk': how many values and letters a reading holds, each counted each time it is reached (what is shared counts as often as it is met; a slice's spare places count too). A statement '..UptoSaid' is the law's where the arguments, and the package variables that the reading takes, are together of bulk at most 1048576: NARROWER than '..Said'. Prove '..Said' where nothing that the law and all that it calls make is longer than what came in: it says more and counts as full. Else prove '..UptoSaid'. A law counts once. -/
mutual
def uptoBulk {H : Type} : DataW H → Nat
  | .lit (.string bytes) => bytes.length + 1
  | .lit _ => 1
  | .nil => 1
  | .ptr d => uptoBulk d + 1
  | .slice elems spare => uptoBulkAll elems + uptoBulkAll spare + 1
  | .agg parts => uptoBulkAll parts + 1
  | .iface _ d => uptoBulk d + 1
  | .map entries => uptoBulkEntries entries + 1
  | .held _ => 1
def uptoBulkAll {H : Type} : List (DataW H) → Nat
  | [] => 0
  | d :: r => uptoBulk d + uptoBulkAll r
def uptoBulkEntries {H : Type} : List (Lit × DataW H) → Nat
  | [] => 0
  | x :: r => uptoBulkEntry x + uptoBulkEntries r
def uptoBulkEntry {H : Type} : Lit × DataW H → Nat
  | (.string bytes, d) => bytes.length + uptoBulk d + 1
  | (_, d) => uptoBulk d + 1
 end
def uptoSmall : (H : Type) → List (DataW H) → Bool := fun _ ds => decide (uptoBulkAll ds ≤ 1048576)
def OpenSpec.upto (s : _root_.Go.ChangeSpec) : _root_.Go.OpenSpec := { _root_.Go.OpenSpec.ofChange s with cond := some uptoSmall }

/-- 'thimblelaw06.FrameTells', WHERE WHAT IT READS IS OF BULK AT MOST 1048576: true; the input reads as it did. -/
def frameTellsUptoRow : OpenClaim := { program := "ytcekecpbjmfbhaa", sum := "e4d4db94471b77b514d8a9c9a5aea1f7e8939cca9b64a539e5cf830100b7d2a2", func := "thimble/thimblelaw06.FrameTells", spec := "frameTells", unfollowed := true, recurses := true, apart := false, narrowed := true }
def FrameTellsUptoSaid : Prop := frameTellsUptoRow.holds Try.pinned (OpenSpec.upto frameTellsSpec)

/-- 'thimblelaw06.FrameCut', WHERE WHAT IT READS IS OF BULK AT MOST 1048576: true; the input reads as it did. -/
def frameCutUptoRow : OpenClaim := { program := "ytcekecpbjmfbhaa", sum := "e4d4db94471b77b514d8a9c9a5aea1f7e8939cca9b64a539e5cf830100b7d2a2", func := "thimble/thimblelaw06.FrameCut", spec := "frameCut", unfollowed := true, recurses := true, apart := false, narrowed := true }
def FrameCutUptoSaid : Prop := frameCutUptoRow.holds Try.pinned (OpenSpec.upto frameCutSpec)

/-- 'thimblelaw06.FrameTurned', WHERE WHAT IT READS IS OF BULK AT MOST 1048576: true; the input reads as it did. -/
def frameTurnedUptoRow : OpenClaim := { program := "ytcekecpbjmfbhaa", sum := "e4d4db94471b77b514d8a9c9a5aea1f7e8939cca9b64a539e5cf830100b7d2a2", func := "thimble/thimblelaw06.FrameTurned", spec := "frameTurned", unfollowed := true, recurses := true, apart := false, narrowed := true }
def FrameTurnedUptoSaid : Prop := frameTurnedUptoRow.holds Try.pinned (OpenSpec.upto frameTurnedSpec)

/-- 'thimblelaw06.FrameBack', WHERE WHAT IT READS IS OF BULK AT MOST 1048576: true; the input reads as it did. -/
def frameBackUptoRow : OpenClaim := { program := "ytcekecpbjmfbhaa", sum := "e4d4db94471b77b514d8a9c9a5aea1f7e8939cca9b64a539e5cf830100b7d2a2", func := "thimble/thimblelaw06.FrameBack", spec := "frameBack", unfollowed := true, recurses := true, apart := false, narrowed := true }
def FrameBackUptoSaid : Prop := frameBackUptoRow.holds Try.pinned (OpenSpec.upto frameBackSpec)

/-- 'thimblelaw06.FrameJoins', WHERE WHAT IT READS IS OF BULK AT MOST 1048576: true; the input reads as it did. -/
def frameJoinsUptoRow : OpenClaim := { program := "ytcekecpbjmfbhaa", sum := "e4d4db94471b77b514d8a9c9a5aea1f7e8939cca9b64a539e5cf830100b7d2a2", func := "thimble/thimblelaw06.FrameJoins", spec := "frameJoins", unfollowed := true, recurses := true, apart := false, narrowed := true }
def FrameJoinsUptoSaid : Prop := frameJoinsUptoRow.holds Try.pinned (OpenSpec.upto frameJoinsSpec)

/-- 'thimblelaw05.OpFields', WHERE WHAT IT READS IS OF BULK AT MOST 1048576: true; the input reads as it did. -/
def opFieldsUptoRow : OpenClaim := { program := "ytcekecpbjmfbhaa", sum := "e4d4db94471b77b514d8a9c9a5aea1f7e8939cca9b64a539e5cf830100b7d2a2", func := "thimble/thimblelaw05.OpFields", spec := "opFields", inPlace := ["internal/bytealg.IndexByteString", "internal/bytealg.IndexString"], named := ["internal/bytealg.MaxLen"], apart := false, narrowed := true }
def OpFieldsUptoSaid : Prop := opFieldsUptoRow.holds Try.pinned (OpenSpec.upto opFieldsSpec)

/-- 'thimblelaw05.OpNames', WHERE WHAT IT READS IS OF BULK AT MOST 1048576: true; the input reads as it did. -/
def opNamesUptoRow : OpenClaim := { program := "ytcekecpbjmfbhaa", sum := "e4d4db94471b77b514d8a9c9a5aea1f7e8939cca9b64a539e5cf830100b7d2a2", func := "thimble/thimblelaw05.OpNames", spec := "opNames", inPlace := ["internal/bytealg.IndexByteString", "internal/bytealg.IndexString"], named := ["internal/bytealg.MaxLen"], apart := false, narrowed := true }
def OpNamesUptoSaid : Prop := opNamesUptoRow.holds Try.pinned (OpenSpec.upto opNamesSpec)

/-- 'thimblelaw05.OpUses', WHERE WHAT IT READS IS OF BULK AT MOST 1048576: true; the input reads as it did. -/
def opUsesUptoRow : OpenClaim := { program := "ytcekecpbjmfbhaa", sum := "e4d4db94471b77b514d8a9c9a5aea1f7e8939cca9b64a539e5cf830100b7d2a2", func := "thimble/thimblelaw05.OpUses", spec := "opUses", inPlace := ["internal/bytealg.IndexByteString", "internal/bytealg.IndexString"], named := ["internal/bytealg.MaxLen"], apart := false, narrowed := true }
def OpUsesUptoSaid : Prop := opUsesUptoRow.holds Try.pinned (OpenSpec.upto opUsesSpec)

/-- 'thimblelaw05.OpStamps', WHERE WHAT IT READS IS OF BULK AT MOST 1048576: true; the input reads as it did. -/
def opStampsUptoRow : OpenClaim := { program := "ytcekecpbjmfbhaa", sum := "e4d4db94471b77b514d8a9c9a5aea1f7e8939cca9b64a539e5cf830100b7d2a2", func := "thimble/thimblelaw05.OpStamps", spec := "opStamps", inPlace := ["internal/bytealg.IndexByteString", "internal/bytealg.IndexString"], named := ["internal/bytealg.MaxLen"], apart := false, narrowed := true }
def OpStampsUptoSaid : Prop := opStampsUptoRow.holds Try.pinned (OpenSpec.upto opStampsSpec)

/-- 'thimblelaw05.OpBack', WHERE WHAT IT READS IS OF BULK AT MOST 1048576: true; the input reads as it did. -/
def opBackUptoRow : OpenClaim := { program := "ytcekecpbjmfbhaa", sum := "e4d4db94471b77b514d8a9c9a5aea1f7e8939cca9b64a539e5cf830100b7d2a2", func := "thimble/thimblelaw05.OpBack", spec := "opBack", inPlace := ["internal/bytealg.IndexByteString", "internal/bytealg.IndexString"], unfollowed := true, recurses := true, named := ["internal/bytealg.MaxLen"], apart := false, narrowed := true }
def OpBackUptoSaid : Prop := opBackUptoRow.holds Try.pinned (OpenSpec.upto opBackSpec)

/-- 'thimblelaw05.OpTells', WHERE WHAT IT READS IS OF BULK AT MOST 1048576: true; the input reads as it did. -/
def opTellsUptoRow : OpenClaim := { program := "ytcekecpbjmfbhaa", sum := "e4d4db94471b77b514d8a9c9a5aea1f7e8939cca9b64a539e5cf830100b7d2a2", func := "thimble/thimblelaw05.OpTells", spec := "opTells", inPlace := ["internal/bytealg.IndexByteString", "internal/bytealg.IndexString"], unfollowed := true, recurses := true, named := ["internal/bytealg.MaxLen"], apart := false, narrowed := true }
def OpTellsUptoSaid : Prop := opTellsUptoRow.holds Try.pinned (OpenSpec.upto opTellsSpec)

end Rows
end Go.Proofs.Ytcekecpbjmfbhaa
