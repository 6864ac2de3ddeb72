/- A stamp by value, opened. -/
import Derived.Test.YtcgkkjfbdappoaaOpenAll
import Derived.Test.YtcgkkjfbdappoaaKeepAll
namespace Go.Proofs.Ytcgkkjfbdappoaa
open Go.RowKit Go.ChangeShapes Go.WideShapes Opn Go.Proofs.YtcgkkjfbdappoaaW.PrintWords
set_option linter.unusedVariables false

set_option maxRecDepth 100000 in
theorem leaves_stamp : leaves Try.prog 5 30 = some [.int .i64, .int .i64] := by kernel_rfl

def IsStamp (v : Value) (t r : Int) : Prop := v = .agg #[.int .i64 t, .int .i64 r] ∧ (-9223372036854775808 ≤ t ∧ t ≤ 9223372036854775807) ∧ (-9223372036854775808 ≤ r ∧ r ≤ 9223372036854775807)
set_option maxRecDepth 100000 in
theorem fit_stamp {cs : List Value} (h : FitAll [.int .i64, .int .i64] cs) : ∃ t r : Int, cs = [.int .i64 t, .int .i64 r] ∧ (-9223372036854775808 ≤ t ∧ t ≤ 9223372036854775807) ∧ (-9223372036854775808 ≤ r ∧ r ≤ 9223372036854775807) := by
  match cs, h with
  | [_, _], ⟨⟨t, rfl, ht⟩, ⟨r, rfl, hr⟩, _⟩ => exact ⟨t, r, rfl, i64_of ht, i64_of hr⟩
  | [_], ⟨_, h⟩ => exact h.elim
  | [], h => exact h.elim
  | _ :: _ :: _ :: _, ⟨_, _, h⟩ => exact h.elim
set_option maxRecDepth 100000 in
theorem open_stamp {H : Type} {enc : TypeId × Value → H} {w : World} {base : Nat} {spare : Nat → Bool} {held : Bool} {r : Reach} {b0 : Nat} {v : Value} {d : DataW H} {p : List MemPlace} {S : Prop} (_ : S)
    (hv : Value.okWide Try.prog w r b0 30 v) (h : DataW.Trod enc Try.prog w base spare held 30 v d p) : ∃ t r : Int, IsStamp v t r := by
  obtain ⟨cs, rfl, hc⟩ := open_struct 5 _ Try.underlying30 leaves_stamp hv h
  obtain ⟨t, r, rfl, ht, hr⟩ := fit_stamp hc
  exact ⟨t, r, rfl, ht, hr⟩

set_option maxRecDepth 100000 in
theorem leaves_stamp_len : Try.prog.cellsOf 30 = 2 := by kernel_rfl
set_option maxRecDepth 100000 in
/-- Two stamps are held against each other, field by field. -/
theorem eqStamp (d : Nat) (w : World) (x0 y0 : Int) (x1 y1 : Int) :
    (Op.equalIn (d + 2) 30 (.agg #[.int .i64 x0, .int .i64 x1]) (.agg #[.int .i64 y0, .int .i64 y1])).run Try.prog w = .ok (x0 == y0 && (x1 == y1)) w := by
  refine eqA_of Try.underlying30 (by kernel_rfl) ?_
  refine eqf_cons (by rfl) (by go_simp; rfl) (by go_simp; rfl) (by go_simp) ?_
  exact eqf_last (by rfl) (by go_simp; rfl) (by go_simp; rfl) (by go_simp)

end Go.Proofs.Ytcgkkjfbdappoaa
