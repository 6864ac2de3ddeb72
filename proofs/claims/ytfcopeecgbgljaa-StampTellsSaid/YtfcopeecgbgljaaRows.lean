/-
  No cell of these rows narrows 'for every input' (looked for: loops, veiled, ifaces, maps, wideKeys, modest, calm, conditions, laid).
  DERIVED. THE GIVEN ROWS OF THIS SEAT. 11 by the template 'for every input the law returns true; each argument reads behind the call as it read before'; 0 by the template 'total and deterministic' (their statements: YtfcopeecgbgljaaTotals.lean).
  GIVEN WITH THE SEED: the statements are not yours to turn. If you find one false, say at which input.
  Laid BY PROGRAM, IN A SANDBOX (cutbox-rows.mjs): the forced cells as the released guide's own fill.sh prints them over the translation 3f89019bc5487372… (all of the seat's roots in one cut). By AI agents, Wed Nov 11 2026. No macro, syntax, notation, axiom, sorry.
-/
import Derived.Test.YtfcopeecgbgljaaChecked
import GoSem.Claim
import GoSem.ClaimJoined
import GoSem.ClaimMapViews
import Derived.JoinedTies
import Derived.KernelRfl
namespace Go.Proofs.Ytfcopeecgbgljaa
/- THE CELL 'sum', in the pinned program and in every row, IS THE sha256 OF THE DUMP (.gsa) THAT YtfcopeecgbgljaaProg.lean LOADS. Nothing in Lean hashes anything: it is a label: what it is worth is what the hold of that sum in a sandbox is worth. -/
noncomputable def Try.pinned : Pinned := { name := "ytfcopeecgbgljaa", sum := "3f89019bc548737264146dc72a5a2310d21495be282655f6c7876e9149067076", checked := Try.checked }
namespace Rows
def none {H : Type} : Left H := { results := [], args := [] }

/-- 'thimblelaw04.VectorBounds': WHATEVER THE INPUT: true; the input reads as it did. -/
def vectorBoundsSpec : ChangeSpec := { name := "vectorBounds", fn := fun _ => fun
  | [d1, d2, d3] => { results := [.lit (.bool true)], args := [d1, d2, d3] }
  | _ => none }
def vectorBoundsRow : OpenClaim := { program := "ytfcopeecgbgljaa", sum := "3f89019bc548737264146dc72a5a2310d21495be282655f6c7876e9149067076", func := "thimble/thimblelaw04.VectorBounds", spec := "vectorBounds", unfollowed := true, recurses := true, apart := false }
def VectorBoundsSaid : Prop := vectorBoundsRow.holds Try.pinned (OpenSpec.ofChange vectorBoundsSpec)

/-- ITS FALSE NEIGHBOUR: 'it returns false'. Refute it at one input. -/
def vectorBoundsWrong : ChangeSpec := { name := "vectorBounds", fn := fun _ => fun
  | [d1, d2, d3] => { results := [.lit (.bool false)], args := [d1, d2, d3] }
  | _ => none }
def VectorBoundsWrongFalsely : Prop := vectorBoundsRow.holds Try.pinned (OpenSpec.ofChange vectorBoundsWrong)

/-- 'thimblelaw04.VectorJoins': WHATEVER THE INPUT: true; the input reads as it did. -/
def vectorJoinsSpec : ChangeSpec := { name := "vectorJoins", fn := fun _ => fun
  | [d1, d2, d3] => { results := [.lit (.bool true)], args := [d1, d2, d3] }
  | _ => none }
def vectorJoinsRow : OpenClaim := { program := "ytfcopeecgbgljaa", sum := "3f89019bc548737264146dc72a5a2310d21495be282655f6c7876e9149067076", func := "thimble/thimblelaw04.VectorJoins", spec := "vectorJoins", unfollowed := true, recurses := true, apart := false }
def VectorJoinsSaid : Prop := vectorJoinsRow.holds Try.pinned (OpenSpec.ofChange vectorJoinsSpec)

/-- ITS FALSE NEIGHBOUR: 'it returns false'. Refute it at one input. -/
def vectorJoinsWrong : ChangeSpec := { name := "vectorJoins", fn := fun _ => fun
  | [d1, d2, d3] => { results := [.lit (.bool false)], args := [d1, d2, d3] }
  | _ => none }
def VectorJoinsWrongFalsely : Prop := vectorJoinsRow.holds Try.pinned (OpenSpec.ofChange vectorJoinsWrong)

/-- 'thimblelaw04.VectorNext': WHATEVER THE INPUT: true; the input reads as it did. -/
def vectorNextSpec : ChangeSpec := { name := "vectorNext", fn := fun _ => fun
  | [d1, d2, d3] => { results := [.lit (.bool true)], args := [d1, d2, d3] }
  | _ => none }
def vectorNextRow : OpenClaim := { program := "ytfcopeecgbgljaa", sum := "3f89019bc548737264146dc72a5a2310d21495be282655f6c7876e9149067076", func := "thimble/thimblelaw04.VectorNext", spec := "vectorNext", unfollowed := true, recurses := true, apart := false }
def VectorNextSaid : Prop := vectorNextRow.holds Try.pinned (OpenSpec.ofChange vectorNextSpec)

/-- ITS FALSE NEIGHBOUR: 'it returns false'. Refute it at one input. -/
def vectorNextWrong : ChangeSpec := { name := "vectorNext", fn := fun _ => fun
  | [d1, d2, d3] => { results := [.lit (.bool false)], args := [d1, d2, d3] }
  | _ => none }
def VectorNextWrongFalsely : Prop := vectorNextRow.holds Try.pinned (OpenSpec.ofChange vectorNextWrong)

/-- 'thimblelaw03.StampOrder': WHATEVER THE INPUT: true; the input reads as it did. -/
def stampOrderSpec : ChangeSpec := { name := "stampOrder", fn := fun _ => fun
  | [d1, d2, d3] => { results := [.lit (.bool true)], args := [d1, d2, d3] }
  | _ => none }
def stampOrderRow : OpenClaim := { program := "ytfcopeecgbgljaa", sum := "3f89019bc548737264146dc72a5a2310d21495be282655f6c7876e9149067076", func := "thimble/thimblelaw03.StampOrder", spec := "stampOrder", apart := false }
def StampOrderSaid : Prop := stampOrderRow.holds Try.pinned (OpenSpec.ofChange stampOrderSpec)

/-- ITS FALSE NEIGHBOUR: 'it returns false'. Refute it at one input. -/
def stampOrderWrong : ChangeSpec := { name := "stampOrder", fn := fun _ => fun
  | [d1, d2, d3] => { results := [.lit (.bool false)], args := [d1, d2, d3] }
  | _ => none }
def StampOrderWrongFalsely : Prop := stampOrderRow.holds Try.pinned (OpenSpec.ofChange stampOrderWrong)

/-- 'thimblelaw03.StampNext': WHATEVER THE INPUT: true; the input reads as it did. -/
def stampNextSpec : ChangeSpec := { name := "stampNext", fn := fun _ => fun
  | [d1, d2, d3] => { results := [.lit (.bool true)], args := [d1, d2, d3] }
  | _ => none }
def stampNextRow : OpenClaim := { program := "ytfcopeecgbgljaa", sum := "3f89019bc548737264146dc72a5a2310d21495be282655f6c7876e9149067076", func := "thimble/thimblelaw03.StampNext", spec := "stampNext", apart := false }
def StampNextSaid : Prop := stampNextRow.holds Try.pinned (OpenSpec.ofChange stampNextSpec)

/-- ITS FALSE NEIGHBOUR: 'it returns false'. Refute it at one input. -/
def stampNextWrong : ChangeSpec := { name := "stampNext", fn := fun _ => fun
  | [d1, d2, d3] => { results := [.lit (.bool false)], args := [d1, d2, d3] }
  | _ => none }
def StampNextWrongFalsely : Prop := stampNextRow.holds Try.pinned (OpenSpec.ofChange stampNextWrong)

/-- 'thimblelaw03.StampMax': WHATEVER THE INPUT: true; the input reads as it did. -/
def stampMaxSpec : ChangeSpec := { name := "stampMax", fn := fun _ => fun
  | [d] => { results := [.lit (.bool true)], args := [d] }
  | _ => none }
def stampMaxRow : OpenClaim := { program := "ytfcopeecgbgljaa", sum := "3f89019bc548737264146dc72a5a2310d21495be282655f6c7876e9149067076", func := "thimble/thimblelaw03.StampMax", spec := "stampMax", apart := false }
def StampMaxSaid : Prop := stampMaxRow.holds Try.pinned (OpenSpec.ofChange stampMaxSpec)

/-- ITS FALSE NEIGHBOUR: 'it returns false'. Refute it at one input. -/
def stampMaxWrong : ChangeSpec := { name := "stampMax", fn := fun _ => fun
  | [d] => { results := [.lit (.bool false)], args := [d] }
  | _ => none }
def StampMaxWrongFalsely : Prop := stampMaxRow.holds Try.pinned (OpenSpec.ofChange stampMaxWrong)

/-- 'thimblelaw03.StampJoins': WHATEVER THE INPUT: true; the input reads as it did. -/
def stampJoinsSpec : ChangeSpec := { name := "stampJoins", fn := fun _ => fun
  | [d1, d2] => { results := [.lit (.bool true)], args := [d1, d2] }
  | _ => none }
def stampJoinsRow : OpenClaim := { program := "ytfcopeecgbgljaa", sum := "3f89019bc548737264146dc72a5a2310d21495be282655f6c7876e9149067076", func := "thimble/thimblelaw03.StampJoins", spec := "stampJoins", apart := false }
def StampJoinsSaid : Prop := stampJoinsRow.holds Try.pinned (OpenSpec.ofChange stampJoinsSpec)

/-- ITS FALSE NEIGHBOUR: 'it returns false'. Refute it at one input. -/
def stampJoinsWrong : ChangeSpec := { name := "stampJoins", fn := fun _ => fun
  | [d1, d2] => { results := [.lit (.bool false)], args := [d1, d2] }
  | _ => none }
def StampJoinsWrongFalsely : Prop := stampJoinsRow.holds Try.pinned (OpenSpec.ofChange stampJoinsWrong)

/-- 'thimblelaw04.VectorBack': WHATEVER THE INPUT: true; the input reads as it did. -/
def vectorBackSpec : ChangeSpec := { name := "vectorBack", fn := fun _ => fun
  | [d1, d2] => { results := [.lit (.bool true)], args := [d1, d2] }
  | _ => none }
def vectorBackRow : OpenClaim := { program := "ytfcopeecgbgljaa", sum := "3f89019bc548737264146dc72a5a2310d21495be282655f6c7876e9149067076", func := "thimble/thimblelaw04.VectorBack", spec := "vectorBack", unfollowed := true, recurses := true, apart := false }
def VectorBackSaid : Prop := vectorBackRow.holds Try.pinned (OpenSpec.ofChange vectorBackSpec)

/-- ITS FALSE NEIGHBOUR: 'it returns false'. Refute it at one input. -/
def vectorBackWrong : ChangeSpec := { name := "vectorBack", fn := fun _ => fun
  | [d1, d2] => { results := [.lit (.bool false)], args := [d1, d2] }
  | _ => none }
def VectorBackWrongFalsely : Prop := vectorBackRow.holds Try.pinned (OpenSpec.ofChange vectorBackWrong)

/-- 'thimblelaw04.VectorTells': WHATEVER THE INPUT: true; the input reads as it did. -/
def vectorTellsSpec : ChangeSpec := { name := "vectorTells", fn := fun _ => fun
  | [d1, d2, d3, d4] => { results := [.lit (.bool true)], args := [d1, d2, d3, d4] }
  | _ => none }
def vectorTellsRow : OpenClaim := { program := "ytfcopeecgbgljaa", sum := "3f89019bc548737264146dc72a5a2310d21495be282655f6c7876e9149067076", func := "thimble/thimblelaw04.VectorTells", spec := "vectorTells", unfollowed := true, recurses := true, apart := false }
def VectorTellsSaid : Prop := vectorTellsRow.holds Try.pinned (OpenSpec.ofChange vectorTellsSpec)

/-- ITS FALSE NEIGHBOUR: 'it returns false'. Refute it at one input. -/
def vectorTellsWrong : ChangeSpec := { name := "vectorTells", fn := fun _ => fun
  | [d1, d2, d3, d4] => { results := [.lit (.bool false)], args := [d1, d2, d3, d4] }
  | _ => none }
def VectorTellsWrongFalsely : Prop := vectorTellsRow.holds Try.pinned (OpenSpec.ofChange vectorTellsWrong)

/-- 'thimblelaw03.StampBack': WHATEVER THE INPUT: true; the input reads as it did. -/
def stampBackSpec : ChangeSpec := { name := "stampBack", fn := fun _ => fun
  | [d1, d2] => { results := [.lit (.bool true)], args := [d1, d2] }
  | _ => none }
def stampBackRow : OpenClaim := { program := "ytfcopeecgbgljaa", sum := "3f89019bc548737264146dc72a5a2310d21495be282655f6c7876e9149067076", func := "thimble/thimblelaw03.StampBack", spec := "stampBack", apart := false }
def StampBackSaid : Prop := stampBackRow.holds Try.pinned (OpenSpec.ofChange stampBackSpec)

/-- ITS FALSE NEIGHBOUR: 'it returns false'. Refute it at one input. -/
def stampBackWrong : ChangeSpec := { name := "stampBack", fn := fun _ => fun
  | [d1, d2] => { results := [.lit (.bool false)], args := [d1, d2] }
  | _ => none }
def StampBackWrongFalsely : Prop := stampBackRow.holds Try.pinned (OpenSpec.ofChange stampBackWrong)

/-- 'thimblelaw03.StampTells': WHATEVER THE INPUT: true; the input reads as it did. -/
def stampTellsSpec : ChangeSpec := { name := "stampTells", fn := fun _ => fun
  | [d1, d2, d3, d4, d5] => { results := [.lit (.bool true)], args := [d1, d2, d3, d4, d5] }
  | _ => none }
def stampTellsRow : OpenClaim := { program := "ytfcopeecgbgljaa", sum := "3f89019bc548737264146dc72a5a2310d21495be282655f6c7876e9149067076", func := "thimble/thimblelaw03.StampTells", spec := "stampTells", recurses := true, apart := false }
def StampTellsSaid : Prop := stampTellsRow.holds Try.pinned (OpenSpec.ofChange stampTellsSpec)

/-- ITS FALSE NEIGHBOUR: 'it returns false'. Refute it at one input. -/
def stampTellsWrong : ChangeSpec := { name := "stampTells", fn := fun _ => fun
  | [d1, d2, d3, d4, d5] => { results := [.lit (.bool false)], args := [d1, d2, d3, d4, d5] }
  | _ => none }
def StampTellsWrongFalsely : Prop := stampTellsRow.holds Try.pinned (OpenSpec.ofChange stampTellsWrong)

/- THE SECOND FORM. 'bulk': how many values and letters a reading holds, each counted each time it is reached (what is shared counts as often as it is met; a slice's spare places count too). A statement '..UptoSaid' is the law's where the arguments, and the package variables that the reading takes, are together of bulk at most 1048576: NARROWER than '..Said'. Prove '..Said' where nothing that the law and all that it calls make is longer than what came in: it says more and counts as full. Else prove '..UptoSaid'. A law counts once. -/
mutual
def uptoBulk {H : Type} : DataW H → Nat
  | .lit (.string bytes) => bytes.length + 1
  | .lit _ => 1
  | .nil => 1
  | .ptr d => uptoBulk d + 1
  | .slice elems spare => uptoBulkAll elems + uptoBulkAll spare + 1
  | .agg parts => uptoBulkAll parts + 1
  | .iface _ d => uptoBulk d + 1
  | .map entries => uptoBulkEntries entries + 1
  | .held _ => 1
def uptoBulkAll {H : Type} : List (DataW H) → Nat
  | [] => 0
  | d :: r => uptoBulk d + uptoBulkAll r
def uptoBulkEntries {H : Type} : List (Lit × DataW H) → Nat
  | [] => 0
  | x :: r => uptoBulkEntry x + uptoBulkEntries r
def uptoBulkEntry {H : Type} : Lit × DataW H → Nat
  | (.string bytes, d) => bytes.length + uptoBulk d + 1
  | (_, d) => uptoBulk d + 1
 end
def uptoSmall : (H : Type) → List (DataW H) → Bool := fun _ ds => decide (uptoBulkAll ds ≤ 1048576)
def OpenSpec.upto (s : _root_.Go.ChangeSpec) : _root_.Go.OpenSpec := { _root_.Go.OpenSpec.ofChange s with cond := some uptoSmall }

/-- 'thimblelaw04.VectorBounds', WHERE WHAT IT READS IS OF BULK AT MOST 1048576: true; the input reads as it did. -/
def vectorBoundsUptoRow : OpenClaim := { program := "ytfcopeecgbgljaa", sum := "3f89019bc548737264146dc72a5a2310d21495be282655f6c7876e9149067076", func := "thimble/thimblelaw04.VectorBounds", spec := "vectorBounds", unfollowed := true, recurses := true, apart := false, narrowed := true }
def VectorBoundsUptoSaid : Prop := vectorBoundsUptoRow.holds Try.pinned (OpenSpec.upto vectorBoundsSpec)

/-- 'thimblelaw04.VectorJoins', WHERE WHAT IT READS IS OF BULK AT MOST 1048576: true; the input reads as it did. -/
def vectorJoinsUptoRow : OpenClaim := { program := "ytfcopeecgbgljaa", sum := "3f89019bc548737264146dc72a5a2310d21495be282655f6c7876e9149067076", func := "thimble/thimblelaw04.VectorJoins", spec := "vectorJoins", unfollowed := true, recurses := true, apart := false, narrowed := true }
def VectorJoinsUptoSaid : Prop := vectorJoinsUptoRow.holds Try.pinned (OpenSpec.upto vectorJoinsSpec)

/-- 'thimblelaw04.VectorNext', WHERE WHAT IT READS IS OF BULK AT MOST 1048576: true; the input reads as it did. -/
def vectorNextUptoRow : OpenClaim := { program := "ytfcopeecgbgljaa", sum := "3f89019bc548737264146dc72a5a2310d21495be282655f6c7876e9149067076", func := "thimble/thimblelaw04.VectorNext", spec := "vectorNext", unfollowed := true, recurses := true, apart := false, narrowed := true }
def VectorNextUptoSaid : Prop := vectorNextUptoRow.holds Try.pinned (OpenSpec.upto vectorNextSpec)

/-- 'thimblelaw03.StampOrder', WHERE WHAT IT READS IS OF BULK AT MOST 1048576: true; the input reads as it did. -/
def stampOrderUptoRow : OpenClaim := { program := "ytfcopeecgbgljaa", sum := "3f89019bc548737264146dc72a5a2310d21495be282655f6c7876e9149067076", func := "thimble/thimblelaw03.StampOrder", spec := "stampOrder", apart := false, narrowed := true }
def StampOrderUptoSaid : Prop := stampOrderUptoRow.holds Try.pinned (OpenSpec.upto stampOrderSpec)

/-- 'thimblelaw03.StampNext', WHERE WHAT IT READS IS OF BULK AT MOST 1048576: true; the input reads as it did. -/
def stampNextUptoRow : OpenClaim := { program := "ytfcopeecgbgljaa", sum := "3f89019bc548737264146dc72a5a2310d21495be282655f6c7876e9149067076", func := "thimble/thimblelaw03.StampNext", spec := "stampNext", apart := false, narrowed := true }
def StampNextUptoSaid : Prop := stampNextUptoRow.holds Try.pinned (OpenSpec.upto stampNextSpec)

/-- 'thimblelaw03.StampMax', WHERE WHAT IT READS IS OF BULK AT MOST 1048576: true; the input reads as it did. -/
def stampMaxUptoRow : OpenClaim := { program := "ytfcopeecgbgljaa", sum := "3f89019bc548737264146dc72a5a2310d21495be282655f6c7876e9149067076", func := "thimble/thimblelaw03.StampMax", spec := "stampMax", apart := false, narrowed := true }
def StampMaxUptoSaid : Prop := stampMaxUptoRow.holds Try.pinned (OpenSpec.upto stampMaxSpec)

/-- 'thimblelaw03.StampJoins', WHERE WHAT IT READS IS OF BULK AT MOST 1048576: true; the input reads as it did. -/
def stampJoinsUptoRow : OpenClaim := { program := "ytfcopeecgbgljaa", sum := "3f89019bc548737264146dc72a5a2310d21495be282655f6c7876e9149067076", func := "thimble/thimblelaw03.StampJoins", spec := "stampJoins", apart := false, narrowed := true }
def StampJoinsUptoSaid : Prop := stampJoinsUptoRow.holds Try.pinned (OpenSpec.upto stampJoinsSpec)

/-- 'thimblelaw04.VectorBack', WHERE WHAT IT READS IS OF BULK AT MOST 1048576: true; the input reads as it did. -/
def vectorBackUptoRow : OpenClaim := { program := "ytfcopeecgbgljaa", sum := "3f89019bc548737264146dc72a5a2310d21495be282655f6c7876e9149067076", func := "thimble/thimblelaw04.VectorBack", spec := "vectorBack", unfollowed := true, recurses := true, apart := false, narrowed := true }
def VectorBackUptoSaid : Prop := vectorBackUptoRow.holds Try.pinned (OpenSpec.upto vectorBackSpec)

/-- 'thimblelaw04.VectorTells', WHERE WHAT IT READS IS OF BULK AT MOST 1048576: true; the input reads as it did. -/
def vectorTellsUptoRow : OpenClaim := { program := "ytfcopeecgbgljaa", sum := "3f89019bc548737264146dc72a5a2310d21495be282655f6c7876e9149067076", func := "thimble/thimblelaw04.VectorTells", spec := "vectorTells", unfollowed := true, recurses := true, apart := false, narrowed := true }
def VectorTellsUptoSaid : Prop := vectorTellsUptoRow.holds Try.pinned (OpenSpec.upto vectorTellsSpec)

/-- 'thimblelaw03.StampBack', WHERE WHAT IT READS IS OF BULK AT MOST 1048576: true; the input reads as it did. -/
def stampBackUptoRow : OpenClaim := { program := "ytfcopeecgbgljaa", sum := "3f89019bc548737264146dc72a5a2310d21495be282655f6c7876e9149067076", func := "thimble/thimblelaw03.StampBack", spec := "stampBack", apart := false, narrowed := true }
def StampBackUptoSaid : Prop := stampBackUptoRow.holds Try.pinned (OpenSpec.upto stampBackSpec)

/-- 'thimblelaw03.StampTells', WHERE WHAT IT READS IS OF BULK AT MOST 1048576: true; the input reads as it did. -/
def stampTellsUptoRow : OpenClaim := { program := "ytfcopeecgbgljaa", sum := "3f89019bc548737264146dc72a5a2310d21495be282655f6c7876e9149067076", func := "thimble/thimblelaw03.StampTells", spec := "stampTells", recurses := true, apart := false, narrowed := true }
def StampTellsUptoSaid : Prop := stampTellsUptoRow.holds Try.pinned (OpenSpec.upto stampTellsSpec)

end Rows
end Go.Proofs.Ytfcopeecgbgljaa
