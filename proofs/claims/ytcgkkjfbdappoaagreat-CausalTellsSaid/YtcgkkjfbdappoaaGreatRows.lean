/-
  No cell of these rows narrows 'for every input' (looked for: loops, veiled, ifaces, maps, wideKeys, modest, calm, conditions, laid).
  DERIVED. THE GIVEN ROWS OF THIS SEAT. 2 by the template 'for every input the law returns true; each argument reads behind the call as it read before'; 0 by the template 'total and deterministic' (their statements: YtcgkkjfbdappoaaGreatTotals.lean).
  GIVEN WITH THE SEED: the statements are not yours to turn. If you find one false, say at which input.
  Laid BY PROGRAM, IN A SANDBOX (cutbox-rows.mjs): the forced cells as the released guide's own fill.sh prints them over the translation f77e7b857b76799b… (all of the seat's roots in one cut). By AI agents, Wed Nov 11 2026. No macro, syntax, notation, axiom, sorry.
-/
import Derived.Test.YtcgkkjfbdappoaaGreatChecked
import GoSem.Claim
import GoSem.ClaimJoined
import GoSem.ClaimMapViews
import Derived.JoinedTies
import Derived.KernelRfl
namespace Go.Proofs.YtcgkkjfbdappoaaGreat
/- THE CELL 'sum', in the pinned program and in every row, IS THE sha256 OF THE DUMP (.gsa) THAT YtcgkkjfbdappoaaGreatProg.lean LOADS. Nothing in Lean hashes anything: it is a label: what it is worth is what the hold of that sum in a sandbox is worth. -/
noncomputable def Tryz.pinned : Pinned := { name := "ytcgkkjfbdappoaagreat", sum := "f77e7b857b76799b2e1c52c40478a9c441d085e52a349f614656d491988ca37b", checked := Tryz.checked }
namespace Rows
def none {H : Type} : Left H := { results := [], args := [] }

/-- 'thimblelaw17.CausalPlays': WHATEVER THE INPUT: true; the input reads as it did. -/
def causalPlaysSpec : ChangeSpec := { name := "causalPlays", fn := fun _ => fun
  | [d1, d2, d3] => { results := [.lit (.bool true)], args := [d1, d2, d3] }
  | _ => none }
def causalPlaysRow : OpenClaim := { program := "ytcgkkjfbdappoaagreat", sum := "f77e7b857b76799b2e1c52c40478a9c441d085e52a349f614656d491988ca37b", func := "thimble/thimblelaw17.CausalPlays", spec := "causalPlays", inPlace := ["internal/bytealg.IndexByteString", "internal/bytealg.IndexString"], unfollowed := true, recurses := true, named := ["internal/bytealg.MaxLen"], apart := false }
def CausalPlaysSaid : Prop := causalPlaysRow.holds Tryz.pinned (OpenSpec.ofChange causalPlaysSpec)

/-- ITS FALSE NEIGHBOUR: 'it returns false'. Refute it at one input. -/
def causalPlaysWrong : ChangeSpec := { name := "causalPlays", fn := fun _ => fun
  | [d1, d2, d3] => { results := [.lit (.bool false)], args := [d1, d2, d3] }
  | _ => none }
def CausalPlaysWrongFalsely : Prop := causalPlaysRow.holds Tryz.pinned (OpenSpec.ofChange causalPlaysWrong)

/-- 'thimblelaw17.CausalTells': WHATEVER THE INPUT: true; the input reads as it did. -/
def causalTellsSpec : ChangeSpec := { name := "causalTells", fn := fun _ => fun
  | [d1, d2] => { results := [.lit (.bool true)], args := [d1, d2] }
  | _ => none }
def causalTellsRow : OpenClaim := { program := "ytcgkkjfbdappoaagreat", sum := "f77e7b857b76799b2e1c52c40478a9c441d085e52a349f614656d491988ca37b", func := "thimble/thimblelaw17.CausalTells", spec := "causalTells", inPlace := ["internal/bytealg.IndexByteString", "internal/bytealg.IndexString"], unfollowed := true, recurses := true, named := ["internal/bytealg.MaxLen"], apart := false }
def CausalTellsSaid : Prop := causalTellsRow.holds Tryz.pinned (OpenSpec.ofChange causalTellsSpec)

/-- ITS FALSE NEIGHBOUR: 'it returns false'. Refute it at one input. -/
def causalTellsWrong : ChangeSpec := { name := "causalTells", fn := fun _ => fun
  | [d1, d2] => { results := [.lit (.bool false)], args := [d1, d2] }
  | _ => none }
def CausalTellsWrongFalsely : Prop := causalTellsRow.holds Tryz.pinned (OpenSpec.ofChange causalTellsWrong)

/- THE SECOND FORM. 'bulk': how many values and letters a reading holds, each counted each time it is reached (what is shared counts as often as it is met; a slice's spare places count too). A statement '..UptoSaid' is the law's where the arguments, and the package variables that the reading takes, are together of bulk at most 1048576: NARROWER than '..Said'. Prove '..Said' where nothing that the law and all that it calls make is longer than what came in: it says more and counts as full. Else prove '..UptoSaid'. A law counts once. -/
mutual
def uptoBulk {H : Type} : DataW H → Nat
  | .lit (.string bytes) => bytes.length + 1
  | .lit _ => 1
  | .nil => 1
  | .ptr d => uptoBulk d + 1
  | .slice elems spare => uptoBulkAll elems + uptoBulkAll spare + 1
  | .agg parts => uptoBulkAll parts + 1
  | .iface _ d => uptoBulk d + 1
  | .map entries => uptoBulkEntries entries + 1
  | .held _ => 1
def uptoBulkAll {H : Type} : List (DataW H) → Nat
  | [] => 0
  | d :: r => uptoBulk d + uptoBulkAll r
def uptoBulkEntries {H : Type} : List (Lit × DataW H) → Nat
  | [] => 0
  | x :: r => uptoBulkEntry x + uptoBulkEntries r
def uptoBulkEntry {H : Type} : Lit × DataW H → Nat
  | (.string bytes, d) => bytes.length + uptoBulk d + 1
  | (_, d) => uptoBulk d + 1
 end
def uptoSmall : (H : Type) → List (DataW H) → Bool := fun _ ds => decide (uptoBulkAll ds ≤ 1048576)
def OpenSpec.upto (s : _root_.Go.ChangeSpec) : _root_.Go.OpenSpec := { _root_.Go.OpenSpec.ofChange s with cond := some uptoSmall }

/-- 'thimblelaw17.CausalPlays', WHERE WHAT IT READS IS OF BULK AT MOST 1048576: true; the input reads as it did. -/
def causalPlaysUptoRow : OpenClaim := { program := "ytcgkkjfbdappoaagreat", sum := "f77e7b857b76799b2e1c52c40478a9c441d085e52a349f614656d491988ca37b", func := "thimble/thimblelaw17.CausalPlays", spec := "causalPlays", inPlace := ["internal/bytealg.IndexByteString", "internal/bytealg.IndexString"], unfollowed := true, recurses := true, named := ["internal/bytealg.MaxLen"], apart := false, narrowed := true }
def CausalPlaysUptoSaid : Prop := causalPlaysUptoRow.holds Tryz.pinned (OpenSpec.upto causalPlaysSpec)

/-- 'thimblelaw17.CausalTells', WHERE WHAT IT READS IS OF BULK AT MOST 1048576: true; the input reads as it did. -/
def causalTellsUptoRow : OpenClaim := { program := "ytcgkkjfbdappoaagreat", sum := "f77e7b857b76799b2e1c52c40478a9c441d085e52a349f614656d491988ca37b", func := "thimble/thimblelaw17.CausalTells", spec := "causalTells", inPlace := ["internal/bytealg.IndexByteString", "internal/bytealg.IndexString"], unfollowed := true, recurses := true, named := ["internal/bytealg.MaxLen"], apart := false, narrowed := true }
def CausalTellsUptoSaid : Prop := causalTellsUptoRow.holds Tryz.pinned (OpenSpec.upto causalTellsSpec)

end Rows
end Go.Proofs.YtcgkkjfbdappoaaGreat
