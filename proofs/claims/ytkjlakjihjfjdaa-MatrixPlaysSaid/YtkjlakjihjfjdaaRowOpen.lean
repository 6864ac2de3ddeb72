/- A row by value, opened. -/
import Derived.Test.YtkjlakjihjfjdaaOpenAll
import Derived.Test.YtkjlakjihjfjdaaEnds
import Derived.Test.YtkjlakjihjfjdaaVecPlain
namespace Go.Proofs.Ytkjlakjihjfjdaa
open Go.RowKit Go.ChangeShapes Go.WideShapes Opn Go.Proofs.YtkjlakjihjfjdaaW.PrintWords
set_option linter.unusedVariables false

theorem leaves_row : leaves Try.prog 8 55 = some (List.replicate 9 (.int .i64)) := by kernel_rfl
def IsRow (v : Value) (l : List Int) : Prop := v = .agg (vec l) ∧ l.length = 9 ∧ ∀ x ∈ l, -9223372036854775808 ≤ x ∧ x ≤ 9223372036854775807
set_option maxRecDepth 100000 in
theorem open_row {H : Type} {enc : TypeId × Value → H} {w : World} {base : Nat} {spare : Nat → Bool} {held : Bool} {r : Reach} {b0 : Nat} {v : Value} {d : DataW H} {p : List MemPlace} {S : Prop} (_ : S)
    (hv : Value.okWide Try.prog w r b0 55 v) (h : DataW.Trod enc Try.prog w base spare held 55 v d p) : ∃ l : List Int, IsRow v l := by
  obtain ⟨cs, rfl, hc⟩ := open_struct 8 _ Try.underlying55 leaves_row hv h
  obtain ⟨l, rfl, hl, hx⟩ := fit_ints .i64 9 cs hc
  exact ⟨l, rfl, hl, fun x h => i64_of (hx x h)⟩
end Go.Proofs.Ytkjlakjihjfjdaa
