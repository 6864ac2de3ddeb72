/-
  No cell of these rows narrows 'for every input' (looked for: loops, veiled, ifaces, maps, wideKeys, modest, calm, conditions, laid).
  DERIVED. THE GIVEN ROWS OF THIS SEAT. 3 by the template 'for every input the law returns true; each argument reads behind the call as it read before'; 0 by the template 'total and deterministic' (their statements: YtcgkkjfbdappoaaTotals.lean).
  GIVEN WITH THE SEED: the statements are not yours to turn. If you find one false, say at which input.
  Laid BY PROGRAM, IN A SANDBOX (cutbox-rows.mjs): the forced cells as the released guide's own fill.sh prints them over the translation d936b6ef1983f71c… (all of the seat's roots in one cut). By AI agents, Wed Nov 11 2026. No macro, syntax, notation, axiom, sorry.
-/
import Derived.Test.YtcgkkjfbdappoaaChecked
import GoSem.Claim
import GoSem.ClaimJoined
import GoSem.ClaimMapViews
import Derived.JoinedTies
import Derived.KernelRfl
namespace Go.Proofs.Ytcgkkjfbdappoaa
/- THE CELL 'sum', in the pinned program and in every row, IS THE sha256 OF THE DUMP (.gsa) THAT YtcgkkjfbdappoaaProg.lean LOADS. Nothing in Lean hashes anything: it is a label: what it is worth is what the hold of that sum in a sandbox is worth. -/
noncomputable def Try.pinned : Pinned := { name := "ytcgkkjfbdappoaa", sum := "d936b6ef1983f71c3903c7f54ae67639a372283cdc08fa4697cf4727ab99fa42", checked := Try.checked }
namespace Rows
def none {H : Type} : Left H := { results := [], args := [] }

/-- 'thimblelaw17.CausalOnce': WHATEVER THE INPUT: true; the input reads as it did. -/
def causalOnceSpec : ChangeSpec := { name := "causalOnce", fn := fun _ => fun
  | [d] => { results := [.lit (.bool true)], args := [d] }
  | _ => none }
def causalOnceRow : OpenClaim := { program := "ytcgkkjfbdappoaa", sum := "d936b6ef1983f71c3903c7f54ae67639a372283cdc08fa4697cf4727ab99fa42", func := "thimble/thimblelaw17.CausalOnce", spec := "causalOnce", inPlace := ["internal/bytealg.IndexByteString", "internal/bytealg.IndexString"], unfollowed := true, recurses := true, named := ["internal/bytealg.MaxLen"], apart := false }
def CausalOnceSaid : Prop := causalOnceRow.holds Try.pinned (OpenSpec.ofChange causalOnceSpec)

/-- ITS FALSE NEIGHBOUR: 'it returns false'. Refute it at one input. -/
def causalOnceWrong : ChangeSpec := { name := "causalOnce", fn := fun _ => fun
  | [d] => { results := [.lit (.bool false)], args := [d] }
  | _ => none }
def CausalOnceWrongFalsely : Prop := causalOnceRow.holds Try.pinned (OpenSpec.ofChange causalOnceWrong)

/-- 'thimblelaw17.CausalAll': WHATEVER THE INPUT: true; the input reads as it did. -/
def causalAllSpec : ChangeSpec := { name := "causalAll", fn := fun _ => fun
  | [d1, d2, d3] => { results := [.lit (.bool true)], args := [d1, d2, d3] }
  | _ => none }
def causalAllRow : OpenClaim := { program := "ytcgkkjfbdappoaa", sum := "d936b6ef1983f71c3903c7f54ae67639a372283cdc08fa4697cf4727ab99fa42", func := "thimble/thimblelaw17.CausalAll", spec := "causalAll", inPlace := ["internal/bytealg.IndexByteString", "internal/bytealg.IndexString"], unfollowed := true, recurses := true, named := ["internal/bytealg.MaxLen"], apart := false }
def CausalAllSaid : Prop := causalAllRow.holds Try.pinned (OpenSpec.ofChange causalAllSpec)

/-- ITS FALSE NEIGHBOUR: 'it returns false'. Refute it at one input. -/
def causalAllWrong : ChangeSpec := { name := "causalAll", fn := fun _ => fun
  | [d1, d2, d3] => { results := [.lit (.bool false)], args := [d1, d2, d3] }
  | _ => none }
def CausalAllWrongFalsely : Prop := causalAllRow.holds Try.pinned (OpenSpec.ofChange causalAllWrong)

/-- 'thimblelaw17.CausalLost': WHATEVER THE INPUT: true; the input reads as it did. -/
def causalLostSpec : ChangeSpec := { name := "causalLost", fn := fun _ => fun
  | [d1, d2, d3] => { results := [.lit (.bool true)], args := [d1, d2, d3] }
  | _ => none }
def causalLostRow : OpenClaim := { program := "ytcgkkjfbdappoaa", sum := "d936b6ef1983f71c3903c7f54ae67639a372283cdc08fa4697cf4727ab99fa42", func := "thimble/thimblelaw17.CausalLost", spec := "causalLost", inPlace := ["internal/bytealg.IndexByteString", "internal/bytealg.IndexString"], unfollowed := true, recurses := true, named := ["internal/bytealg.MaxLen"], apart := false }
def CausalLostSaid : Prop := causalLostRow.holds Try.pinned (OpenSpec.ofChange causalLostSpec)

/-- ITS FALSE NEIGHBOUR: 'it returns false'. Refute it at one input. -/
def causalLostWrong : ChangeSpec := { name := "causalLost", fn := fun _ => fun
  | [d1, d2, d3] => { results := [.lit (.bool false)], args := [d1, d2, d3] }
  | _ => none }
def CausalLostWrongFalsely : Prop := causalLostRow.holds Try.pinned (OpenSpec.ofChange causalLostWrong)

/- THE SECOND FORM. 'bulk': how many values and letters a reading holds, each counted each time it is reached (what is shared counts as often as it is met; a slice's spare places count too). A statement '..UptoSaid' is the law's where the arguments, and the package variables that the reading takes, are together of bulk at most 1048576: NARROWER than '..Said'. Prove '..Said' where nothing that the law and all that it calls make is longer than what came in: it says more and counts as full. Else prove '..UptoSaid'. A law counts once. -/
mutual
def uptoBulk {H : Type} : DataW H → Nat
  | .lit (.string bytes) => bytes.length + 1
  | .lit _ => 1
  | .nil => 1
  | .ptr d => uptoBulk d + 1
  | .slice elems spare => uptoBulkAll elems + uptoBulkAll spare + 1
  | .agg parts => uptoBulkAll parts + 1
  | .iface _ d => uptoBulk d + 1
  | .map entries => uptoBulkEntries entries + 1
  | .held _ => 1
def uptoBulkAll {H : Type} : List (DataW H) → Nat
  | [] => 0
  | d :: r => uptoBulk d + uptoBulkAll r
def uptoBulkEntries {H : Type} : List (Lit × DataW H) → Nat
  | [] => 0
  | x :: r => uptoBulkEntry x + uptoBulkEntries r
def uptoBulkEntry {H : Type} : Lit × DataW H → Nat
  | (.string bytes, d) => bytes.length + uptoBulk d + 1
  | (_, d) => uptoBulk d + 1
 end
def uptoSmall : (H : Type) → List (DataW H) → Bool := fun _ ds => decide (uptoBulkAll ds ≤ 1048576)
def OpenSpec.upto (s : _root_.Go.ChangeSpec) : _root_.Go.OpenSpec := { _root_.Go.OpenSpec.ofChange s with cond := some uptoSmall }

/-- 'thimblelaw17.CausalOnce', WHERE WHAT IT READS IS OF BULK AT MOST 1048576: true; the input reads as it did. -/
def causalOnceUptoRow : OpenClaim := { program := "ytcgkkjfbdappoaa", sum := "d936b6ef1983f71c3903c7f54ae67639a372283cdc08fa4697cf4727ab99fa42", func := "thimble/thimblelaw17.CausalOnce", spec := "causalOnce", inPlace := ["internal/bytealg.IndexByteString", "internal/bytealg.IndexString"], unfollowed := true, recurses := true, named := ["internal/bytealg.MaxLen"], apart := false, narrowed := true }
def CausalOnceUptoSaid : Prop := causalOnceUptoRow.holds Try.pinned (OpenSpec.upto causalOnceSpec)

/-- 'thimblelaw17.CausalAll', WHERE WHAT IT READS IS OF BULK AT MOST 1048576: true; the input reads as it did. -/
def causalAllUptoRow : OpenClaim := { program := "ytcgkkjfbdappoaa", sum := "d936b6ef1983f71c3903c7f54ae67639a372283cdc08fa4697cf4727ab99fa42", func := "thimble/thimblelaw17.CausalAll", spec := "causalAll", inPlace := ["internal/bytealg.IndexByteString", "internal/bytealg.IndexString"], unfollowed := true, recurses := true, named := ["internal/bytealg.MaxLen"], apart := false, narrowed := true }
def CausalAllUptoSaid : Prop := causalAllUptoRow.holds Try.pinned (OpenSpec.upto causalAllSpec)

/-- 'thimblelaw17.CausalLost', WHERE WHAT IT READS IS OF BULK AT MOST 1048576: true; the input reads as it did. -/
def causalLostUptoRow : OpenClaim := { program := "ytcgkkjfbdappoaa", sum := "d936b6ef1983f71c3903c7f54ae67639a372283cdc08fa4697cf4727ab99fa42", func := "thimble/thimblelaw17.CausalLost", spec := "causalLost", inPlace := ["internal/bytealg.IndexByteString", "internal/bytealg.IndexString"], unfollowed := true, recurses := true, named := ["internal/bytealg.MaxLen"], apart := false, narrowed := true }
def CausalLostUptoSaid : Prop := causalLostUptoRow.holds Try.pinned (OpenSpec.upto causalLostSpec)

end Rows
end Go.Proofs.Ytcgkkjfbdappoaa
