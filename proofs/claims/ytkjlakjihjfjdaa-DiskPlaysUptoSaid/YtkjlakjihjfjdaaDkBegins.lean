/- thimblelaw07.begins: its contract. -/
import Derived.Test.YtkjlakjihjfjdaaDkCrash
namespace Go.Proofs.Ytkjlakjihjfjdaa
open Go.RowKit Go.Proofs.YtkjlakjihjfjdaaW.PrintWords Go.Proofs.YtkjlakjihjfjdaaW.PrintLast Go.Proofs.YtkjlakjihjfjdaaW.PrintMore
set_option linter.unusedVariables false
set_option linter.unusedSimpArgs false

/-- One begins with the other. -/
theorem disk_begins (s t : ByteArray) (hl : t.size ≤ s.size) (hs : s.size ≤ 140737488355328) (he : s.extract 0 t.size = t) (w : World) :
    Calls Try.prog 19 #[.string s, .string t] w fun e w' => e = .returned (.bool true) ∧ Below w.heap.size w w' := by
  have h1 : (t.size : Int) ≤ (s.size : Int) := by omega
  go_enter Try.func19, Try.ntmps19
  go_wp2_with fail
  go_ret
  exact ⟨by first | rfl | simp [he], Below.refl _ _⟩
end Go.Proofs.Ytkjlakjihjfjdaa
