/- thimblelaw04.shown: true. -/
import Derived.Test.YtfcopeecgbgljaaVecReady
namespace Go.Proofs.Ytfcopeecgbgljaa
open Go.RowKit Go.Proofs.YtfcopeecgbgljaaW.PrintWords Go.Proofs.YtfcopeecgbgljaaW.PrintLast Go.Proofs.YtfcopeecgbgljaaW.PrintMore
set_option linter.unusedVariables false
set_option linter.unusedSimpArgs false

/-- A vector of one number, ahead of zeroes, as it is built. -/
def one8 (x : Int) : List Int := zero8.set 0 x
theorem one8_len (x : Int) : (one8 x).length = 8 := rfl
theorem one8_is (x : Int) : (vec zero8).setIfInBounds 0 (.int .i64 x) = vec (one8 x) := vec_set _ _ _
theorem shown_a (w : World) : Calls Try.prog 20 #[.agg (vec (one8 2)), .int .i64 0, .int .i64 3, .agg (vec (one8 2))] w fun e w' => e = .returned (.bool true) ∧ Below w.heap.size w w' :=
  (vec_Ready (one8 2) (one8 2) 0 3 (by omega) rfl rfl w)
theorem shown_b (w : World) : Calls Try.prog 20 #[.agg (vec (one8 2)), .int .i64 0, .int .i64 4, .agg ((vec zero8).setIfInBounds 0 (.int .i64 3))] w fun e w' => e = .returned (.bool false) ∧ Below w.heap.size w w' := by
  rw [one8_is]; exact (vec_Ready (one8 2) (one8 3) 0 4 (by omega) rfl rfl w)
theorem shown_c (w : World) : Calls Try.prog 20 #[.agg (vec (one8 2)), .int .i64 0, .int .i64 2, .agg ((vec zero8).setIfInBounds 0 (.int .i64 1))] w fun e w' => e = .returned (.bool false) ∧ Below w.heap.size w w' := by
  rw [one8_is]; exact (vec_Ready (one8 2) (one8 1) 0 2 (by omega) rfl rfl w)

set_option maxHeartbeats 1000000 in
set_option maxRecDepth 100000 in
theorem vec_shown (w : World) : Calls Try.prog 14 #[] w fun e w' => e = .returned (.bool true) ∧ Below w.heap.size w w' := by
  have HA := Hd.mk shown_a
  have HB := Hd.mk shown_b
  have HC := Hd.mk shown_c
  have HV := Hd.mk (one8_is 2)
  have hz := zeroVec
  have sa : (Try.prog.info? 24).map (·.size) = some (vec (one8 2)).size := by kernel_rfl
  have Sa := Hd.mk sa
  have p1 : (w.alloc (.cells (vec zero8) 24)).heap[w.heap.size]? = some (.cells (vec zero8) 24 (0, 0)) := heap_alloc_new _ _
  have p2 : ((w.alloc (.cells (vec zero8) 24)).setRow w.heap.size (vec (one8 2))).heap[w.heap.size]? = some (.cells (vec (one8 2)) 24 (0, 0)) := setRow_heap _ _ _ _ _ _ p1
  have P1 := Hd.mk p1
  have P2 := Hd.mk p2
  have PB := Hd.mk (below_setRow ((Below.refl w.heap.size w).alloc (Nat.le_refl _) (.cells (vec zero8) 24)) (Nat.le_refl w.heap.size) (vec (one8 2)))
  clear sa p1 p2
  go_enter Try.func14, Try.ntmps14
  go_wp2_with (first | ((with_reducible refine gate_store (t := 24) rfl ?_); refine wpList_store_row rfl _ _ _ rfl w.heap.size (vec (one8 2)) rfl (congrArg Value.agg HV.out) 24 (vec zero8) P1.out Sa.out (by rw [vec_size, vec_size]; rfl) (vec_one _) ?_; generalize (w.alloc (.cells (vec zero8) 24)).setRow w.heap.size (vec (one8 2)) = W at *) | ((with_reducible refine gate_dst (N := 3) rfl ?_); refine wpList_load_row rfl 24 _ rfl w.heap.size rfl 24 (vec (one8 2)) (0, 0) _ P2.out Try.underlying24 rfl Sa.out ?_) | ((with_reducible refine gate_dst (N := 4) rfl ?_); refine wpList_load_row rfl 24 _ rfl w.heap.size rfl 24 (vec (one8 2)) (0, 0) _ P2.out Try.underlying24 rfl Sa.out ?_))
  refine (HA.out _).mono ?_; rintro e w1 ⟨rfl, h1⟩
  have Q1 := Hd.mk ((h1.block _ (Array.getElem?_eq_some_iff.1 P2.out).1).trans P2.out)
  have QB := Hd.mk (below_step PB.out h1)
  clear h1 P2 PB P1
  go_wp2_with (first | ((with_reducible refine gate_dst (N := 7) rfl ?_); refine gate_guard (by rfl) ?_; refine wpList_load_row rfl 24 _ rfl w.heap.size rfl 24 (vec (one8 2)) (0, 0) _ Q1.out Try.underlying24 rfl Sa.out ?_))
  refine (HB.out _).mono ?_; rintro e w2 ⟨rfl, h1⟩
  have P1 := Hd.mk ((h1.block _ (Array.getElem?_eq_some_iff.1 Q1.out).1).trans Q1.out)
  have PB := Hd.mk (below_step QB.out h1)
  clear h1 Q1 QB
  go_wp2_with (first | ((with_reducible refine gate_dst (N := 13) rfl ?_); refine gate_guard (by rfl) ?_; refine wpList_load_row rfl 24 _ rfl w.heap.size rfl 24 (vec (one8 2)) (0, 0) _ P1.out Try.underlying24 rfl Sa.out ?_))
  refine (HC.out _).mono ?_; rintro e w3 ⟨rfl, h1⟩
  go_wp2_with fail
  go_ret
  exact ⟨rfl, below_step PB.out h1⟩
end Go.Proofs.Ytfcopeecgbgljaa
