/- thimblelaw18.same: true, where two rows are the same. -/
import Derived.Test.YtkjlakjihjfjdaaMatRow
namespace Go.Proofs.Ytkjlakjihjfjdaa
open Go.RowKit Go.Proofs.YtkjlakjihjfjdaaW.PrintWords Go.Proofs.YtkjlakjihjfjdaaW.PrintLast Go.Proofs.YtkjlakjihjfjdaaW.PrintMore
set_option linter.unusedVariables false
set_option linter.unusedSimpArgs false

set_option maxHeartbeats 1000000 in
set_option maxRecDepth 100000 in
theorem row_same (r : List Int) (hr : r.length = 9) (w : World) :
    Calls Try.prog 36 #[.agg (vec r), .agg (vec r)] w fun e w' => e = .returned (.bool true) ∧ Below w.heap.size w w' := by
  obtain ⟨s, t, hs, rfl⟩ := nine hr
  have H0 := Hd.mk (Holds.start2 w (.cells (vec (s ++ [t])) 46) (.cells (vec (s ++ [t])) 55))
  have HA := Hd.mk (app_at hs t)
  have HT := Hd.mk (app_take hs t)
  have HL := Hd.mk (app_len hs t)
  have heq := fun w => eqVec 9998 hs hs w
  rw [show eqV s s = true from by simp [eqV]] at heq
  clear hr hs
  go_enter Try.func36, Try.ntmps36
  go_upto_region 1 with (fail)
  generalize (w.alloc (.cells (vec (s ++ [t])) 46)).alloc (.cells (vec (s ++ [t])) 55) = W at *
  have c1 : W.cell? ⟨w.heap.size, 8, none⟩ = some (.int .i64 t) := by rw [cell_of_row W _ 8 _ _ _ (H0.out.get 1 rfl)]; exact HA.out
  have c2 : W.cell? ⟨w.heap.size + 1, 8, none⟩ = some (.int .i64 t) := by rw [cell_of_row W _ 8 _ _ _ (H0.out.get 0 rfl)]; exact HA.out
  go_wp2_with (first | ((with_reducible refine gate_load (t := 35) rfl ?_); refine wpList_load_vec rfl _ _ rfl w.heap.size 0 8 rfl (s ++ [t]) 46 (0, 0) (H0.out.get 1 rfl) _ Try.underlying35 rfl size_vec (by rw [HL.out]; omega) ?_; simp only [HT.out]) | ((with_reducible refine gate_load (t := 34) rfl ?_); refine wpList_load_vec rfl _ _ rfl (w.heap.size + 1) 0 8 rfl (s ++ [t]) 55 (0, 0) (H0.out.get 0 rfl) _ Try.underlying34 rfl size_eight9 (by rw [HL.out]; omega) ?_; simp only [HT.out]))
  go_ret
  exact ⟨rfl, H0.out.2⟩
end Go.Proofs.Ytkjlakjihjfjdaa
