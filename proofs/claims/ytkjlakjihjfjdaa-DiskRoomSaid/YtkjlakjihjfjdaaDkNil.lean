/- disk's methods of nobody: their contracts. -/
import Derived.Test.YtkjlakjihjfjdaaDkStr
namespace Go.Proofs.Ytkjlakjihjfjdaa
open Go.RowKit Go.Proofs.YtkjlakjihjfjdaaW.PrintWords Go.Proofs.YtkjlakjihjfjdaaW.PrintLast Go.Proofs.YtkjlakjihjfjdaaW.PrintMore
set_option linter.unusedVariables false
set_option linter.unusedSimpArgs false

theorem nil_Append (s : ByteArray) (w : World) : Calls Try.prog 15 #[.pointer none, .string s] w fun e w' => e = .returned (.int .i64 13) ∧ Below w.heap.size w w' := by
  go_enter Try.func15, Try.ntmps15
  go_wp2_with fail
  go_ret
  exact ⟨rfl, by first | exact Below.refl _ _ | exact (Below.refl _ _).drew | exact below_drewN _ _⟩
theorem nil_Switch (s : ByteArray) (w : World) : Calls Try.prog 25 #[.pointer none, .string s] w fun e w' => e = .returned (.int .i64 13) ∧ Below w.heap.size w w' := by
  go_enter Try.func25, Try.ntmps25
  go_wp2_with fail
  go_ret
  exact ⟨rfl, by first | exact Below.refl _ _ | exact (Below.refl _ _).drew | exact below_drewN _ _⟩
theorem nil_Snap (w : World) : Calls Try.prog 26 #[.pointer none] w fun e w' => e = .returned (.string ⟨#[]⟩) ∧ Below w.heap.size w w' := by
  go_enter Try.func26, Try.ntmps26
  go_wp2_with fail
  go_ret
  exact ⟨rfl, by first | exact Below.refl _ _ | exact (Below.refl _ _).drew | exact below_drewN _ _⟩
theorem nil_Log (w : World) : Calls Try.prog 18 #[.pointer none] w fun e w' => e = .returned (.string ⟨#[]⟩) ∧ Below w.heap.size w w' := by
  go_enter Try.func18, Try.ntmps18
  go_wp2_with fail
  go_ret
  exact ⟨rfl, by first | exact Below.refl _ _ | exact (Below.refl _ _).drew | exact below_drewN _ _⟩
theorem nil_Synced (w : World) : Calls Try.prog 27 #[.pointer none] w fun e w' => e = .returned (.int .i64 0) ∧ Below w.heap.size w w' := by
  go_enter Try.func27, Try.ntmps27
  go_wp2_with fail
  go_ret
  exact ⟨rfl, by first | exact Below.refl _ _ | exact (Below.refl _ _).drew | exact below_drewN _ _⟩
theorem nil_Free (w : World) : Calls Try.prog 28 #[.pointer none] w fun e w' => e = .returned (.int .i64 0) ∧ Below w.heap.size w w' := by
  go_enter Try.func28, Try.ntmps28
  go_wp2_with fail
  go_ret
  exact ⟨rfl, by first | exact Below.refl _ _ | exact (Below.refl _ _).drew | exact below_drewN _ _⟩
theorem nil_Copy (w : World) : Calls Try.prog 40 #[.pointer none] w fun e w' => e = .returned (.pointer none) ∧ Below w.heap.size w w' := by
  go_enter Try.func40, Try.ntmps40
  go_wp2_with fail
  go_ret
  exact ⟨rfl, by first | exact Below.refl _ _ | exact (Below.refl _ _).drew | exact below_drewN _ _⟩
theorem nil_Sync (w : World) : Calls Try.prog 16 #[.pointer none] w fun e w' => e = .returned (.tuple #[]) ∧ Below w.heap.size w w' := by
  go_enter Try.func16, Try.ntmps16
  go_wp2_with fail
  exact ⟨rfl, .tuple #[], by first | rfl | (simp [results, Try.results16]; done), rfl, by first | exact Below.refl _ _ | exact (Below.refl _ _).drew | exact below_drewN _ _⟩
theorem nil_Crash (keep : Int) (w : World) : Calls Try.prog 17 #[.pointer none, .int .i64 keep] w fun e w' => e = .returned (.tuple #[]) ∧ Below w.heap.size w w' := by
  go_enter Try.func17, Try.ntmps17
  go_wp2_with fail
  exact ⟨rfl, .tuple #[], by first | rfl | (simp [results, Try.results17]; done), rfl, by first | exact Below.refl _ _ | exact (Below.refl _ _).drew | exact below_drewN _ _⟩
end Go.Proofs.Ytkjlakjihjfjdaa
