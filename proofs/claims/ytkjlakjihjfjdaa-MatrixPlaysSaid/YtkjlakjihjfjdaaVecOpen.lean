/- An array of eight numbers by value, opened; two held against each other. -/
import Derived.Test.YtkjlakjihjfjdaaOpenAll
import Derived.Test.YtkjlakjihjfjdaaEnds
import Derived.Test.YtkjlakjihjfjdaaVecPlain
namespace Go.Proofs.Ytkjlakjihjfjdaa
open Go.RowKit Go.ChangeShapes Go.WideShapes Opn Go.Proofs.YtkjlakjihjfjdaaW.PrintWords
set_option linter.unusedVariables false

theorem leaves_eight : leaves Try.prog 5 34 = some (List.replicate 8 (.int .i64)) := by kernel_rfl
def IsEight (v : Value) (l : List Int) : Prop := v = .agg (vec l) ∧ l.length = 8 ∧ ∀ x ∈ l, -9223372036854775808 ≤ x ∧ x ≤ 9223372036854775807
set_option maxRecDepth 100000 in
theorem open_eight {H : Type} {enc : TypeId × Value → H} {w : World} {base : Nat} {spare : Nat → Bool} {held : Bool} {r : Reach} {b0 : Nat} {v : Value} {d : DataW H} {p : List MemPlace} {S : Prop} (_ : S)
    (hv : Value.okWide Try.prog w r b0 34 v) (h : DataW.Trod enc Try.prog w base spare held 34 v d p) : ∃ l : List Int, IsEight v l := by
  obtain ⟨cs, rfl, hc⟩ := open_array 5 _ Try.underlying34 leaves_eight hv h
  obtain ⟨l, rfl, hl, hx⟩ := fit_ints .i64 8 cs hc
  exact ⟨l, rfl, hl, fun x h => i64_of (hx x h)⟩
set_option maxRecDepth 100000 in
theorem eqEight (d : Nat) {a b : List Int} (ha : a.length = 8) (hb : b.length = 8) (w : World) : (Op.equalIn (d + 2) 34 (.agg (vec a)) (.agg (vec b))).run Try.prog w = .ok (eqV a b) w := by
  obtain ⟨i0, hi⟩ : ∃ i0, Try.prog.info? 3 = some i0 := by
    have : (Try.prog.info? 3).isSome = true := by kernel_rfl
    exact Option.isSome_iff_exists.1 this
  rw [run_equalIn_array w (d + 1) (vec a) (vec b) Try.underlying34 hi, show Try.prog.cellsOf 3 = 1 from by kernel_rfl, eqItems_vec d a b ha hb w (List.range 8) (fun i hi => by simpa using hi)]
  congr 1
  unfold eqV
  rw [Bool.eq_iff_iff, List.all_eq_true, decide_eq_true_eq]
  constructor
  · intro h
    apply List.ext_getElem?
    intro i
    by_cases hi : i < 8
    · exact beq_iff_eq.1 (h i (by simpa using hi))
    · rw [List.getElem?_eq_none (by omega), List.getElem?_eq_none (by omega)]
  · intro h i _; rw [h]; simp
theorem size_eight : (Try.prog.info? 34).map (·.size) = some 8 := by kernel_rfl
end Go.Proofs.Ytkjlakjihjfjdaa
