/- matrix: in, New, Row; thimblelaw18: made: their contracts. -/
import Derived.Test.YtcpgfllnaiabkaaMatWalk
namespace Go.Proofs.Ytcpgfllnaiabkaa
open Go.RowKit Go.Proofs.YtcpgfllnaiabkaaW.PrintWords Go.Proofs.YtcpgfllnaiabkaaW.PrintLast Go.Proofs.YtcpgfllnaiabkaaW.PrintMore
set_option linter.unusedVariables false
set_option linter.unusedSimpArgs false

set_option maxHeartbeats 1000000 in
set_option maxRecDepth 100000 in
theorem row_made (r : List Int) (hr : r.length = 9) (w : World) :
    Calls Try.prog 14 #[.agg (vec r)] w fun e w' => e = .returned (.agg (vec r)) ∧ Below w.heap.size w w' := by
  obtain ⟨s, t, hs, rfl⟩ := nine hr
  have hz := zeroRow
  have H0 := Hd.mk (Holds.start2 w (.cells (vec (s ++ [t])) 41) (.cells (vec zero9) 38))
  have HA := Hd.mk (app_at hs t)
  have HT := Hd.mk (app_take hs t)
  have HL := Hd.mk (app_len hs t)
  have hb := Hd.mk (build_row hs t)
  clear hr
  go_enter Try.func14, Try.ntmps14
  go_upto_region 1 with (fail)
  clear hz
  generalize (w.alloc (.cells (vec (s ++ [t])) 41)).alloc (.cells (vec zero9) 38) = W at *
  have hc : W.cell? ⟨w.heap.size, 8, none⟩ = some (.int .i64 t) := by rw [cell_of_row W _ 8 _ _ _ (H0.out.get 1 rfl)]; exact HA.out
  go_wp2_with (first | ((with_reducible refine gate_load (t := 26) rfl ?_); refine wpList_load_vec rfl _ _ rfl w.heap.size 0 8 rfl (s ++ [t]) 41 (0, 0) (H0.out.get 1 rfl) _ Try.underlying26 rfl size_eight9 (by rw [HL.out]; omega) ?_; simp only [HT.out]) | ((with_reducible refine gate_dst (N := 7) rfl ?_); refine wpList_build rfl _ _ rfl #[(0, .agg (vec s)), (1, .int .i64 t)] (by simp only [List.map_toArray, List.map_cons, List.map_nil]; rfl) (.agg (vec (s ++ [t]))) (hb.out _) ?_) | ((with_reducible refine gate_store (t := 38) rfl ?_); refine wpList_store_row rfl _ _ _ rfl (w.heap.size + 1) (vec (s ++ [t])) rfl rfl 38 (vec zero9) (H0.out.get 0 rfl) (by rw [vec_size, HL.out]; exact size_row) (by rw [vec_size, vec_size, HL.out]; rfl) (vec_one _) ?_))
  exact bodyPost_ret (results_cell_row (p := 2) rfl _ _ (w.heap.size + 1) 38 (vec (s ++ [t])) (0, 0) _ rfl (setRow_heap _ _ _ _ _ _ (H0.out.get 0 rfl)) Try.underlying38 rfl (by rw [vec_size, HL.out]; exact size_row)) rfl ⟨rfl, below_setRow H0.out.2 (by omega) _⟩

/-- A matrix in a block: so many rows of eight. -/
def MatIs (b : Nat) (n : Int) (L : List Int) (W : World) : Prop := W.heap[b]? = some (.cells (vec (n :: L)) 71 (0, 0))
/-- Whether there is a replica. -/
def inM (n rep : Int) : Bool := decide (0 ≤ rep) && decide (rep < n)
theorem MatIs.cell0 {b : Nat} {n : Int} {L : List Int} {W : World} (h : MatIs b n L W) : W.cell? ⟨b, 0, none⟩ = some (.int .i64 n) := by rw [cell_of_row W b 0 _ _ _ h]; rfl
set_option maxRecDepth 100000 in
theorem mat_in {b : Nat} {n : Int} {L : List Int} (rep : Int) {w : World} (h : MatIs b n L w) :
    Calls Try.prog 31 #[.pointer (some ⟨b, 0, none⟩), .int .i64 rep] w fun e w' => e = .returned (.bool (inM n rep)) ∧ Below w.heap.size w w' := by
  have hc := h.cell0
  clear h
  by_cases h0 : 0 ≤ rep
  · by_cases h1 : rep < n
    · rw [show inM n rep = true from by simp [inM, h0, h1]]
      go_enter Try.func31, Try.ntmps31
      go_wp2_with fail
      go_ret
      exact ⟨by first | rfl | (simp; omega), by first | exact Below.refl _ _ | exact (Below.refl _ _).drew⟩
    · rw [show inM n rep = false from by simp [inM, h1]]
      go_enter Try.func31, Try.ntmps31
      go_wp2_with fail
      go_ret
      exact ⟨by first | rfl | (simp; omega), by first | exact Below.refl _ _ | exact (Below.refl _ _).drew⟩
  · rw [show inM n rep = false from by simp [inM, h0]]
    go_enter Try.func31, Try.ntmps31
    go_wp2_with fail
    go_ret
    exact ⟨by first | rfl | (simp; omega), by first | exact Below.refl _ _ | exact (Below.refl _ _).drew⟩
theorem nil_in (rep : Int) (w : World) :
    Calls Try.prog 31 #[.pointer none, .int .i64 rep] w fun e w' => e = .returned (.bool false) ∧ Below w.heap.size w w' := by
  go_enter Try.func31, Try.ntmps31
  go_wp2_with fail
  go_ret
  exact ⟨by first | rfl | (simp; omega), by first | exact Below.refl _ _ | exact (Below.refl _ _).drew⟩

def zero72 : List Int := List.replicate 72 0
theorem zeroMat (w : World) : (zeroValue 71).run Try.prog w = .ok (.agg (vec (0 :: zero72))) w := by kernel_rfl
theorem build_mat (n : Int) (w : World) : (Instr.build 71 #[(0, .int .i64 n)]).run Try.prog w = .ok (.agg (vec (n :: zero72))) w := run_build w _ _ _ (by kernel_rfl)
set_option maxRecDepth 100000 in
theorem mat_New (n : Int) (h1 : 1 ≤ n) (h8 : n ≤ 8) (w : World) :
    Calls Try.prog 9 #[.int .i64 n] w fun e w' => e = .returned (.pointer (some ⟨w.heap.size, 0, none⟩)) ∧ NewHolds w w.heap.size (.cells (vec (n :: zero72)) 71 (0, 0)) [] w' := by
  have hb := build_mat n
  have g1 : ¬ n < 1 := by omega
  have g2 : ¬ 8 < n := by omega
  clear h1 h8
  go_enter Try.func9, Try.ntmps9
  go_wp2_with (first | ((with_reducible refine gate_dst (N := 10) rfl ?_); refine wpList_build rfl _ _ rfl #[(0, .int .i64 n)] (by simp only [List.map_toArray, List.map_cons, List.map_nil]; rfl) _ (build_mat n _) ?_))
  go_ret
  exact ⟨rfl, (Holds.nil w).fresh _⟩
set_option maxRecDepth 100000 in
theorem mat_New_off (n : Int) (h : n < 1 ∨ 8 < n) (w : World) :
    Calls Try.prog 9 #[.int .i64 n] w fun e w' => e = .returned (.pointer none) ∧ Below w.heap.size w w' := by
  by_cases g1 : n < 1
  · clear h
    go_enter Try.func9, Try.ntmps9
    go_wp2_with fail
    go_ret
    exact ⟨rfl, Below.refl _ _⟩
  · have g2 : 8 < n := by omega
    clear h
    go_enter Try.func9, Try.ntmps9
    go_wp2_with fail
    go_ret
    exact ⟨rfl, Below.refl _ _⟩

/-- A replica's row. -/
def rowM (L : List Int) (k : Nat) : List Int := (L.drop (9 * k)).take 9
theorem rowM_len {L : List Int} (hL : L.length = 72) {k : Nat} (hk : k < 8) : (rowM L k).length = 9 := by unfold rowM; rw [List.length_take, List.length_drop]; omega
theorem rowM_cons (n : Int) (L : List Int) (k : Nat) : ((n :: L).drop (1 + k * 9)).take 9 = rowM L k := by
  unfold rowM
  rw [Nat.add_comm, List.drop_succ_cons, Nat.mul_comm]
set_option maxHeartbeats 1000000 in
set_option maxRecDepth 100000 in
theorem mat_Row {b : Nat} {n : Int} {L : List Int} {w : World} (h : MatIs b n L w) (hL : L.length = 72) (k : Nat) (hk : (k : Int) < n) (hk8 : k < 8) :
    Calls Try.prog 15 #[.pointer (some ⟨b, 0, none⟩), .int .i64 (k : Int)] w fun e w' => e = .returned (.agg (vec (rowM L k))) ∧ Below w.heap.size w w' := by
  have hz := zeroRow
  have hlt := (Array.getElem?_eq_some_iff.1 h).1
  have H0 := Hd.mk (Holds.start1 w (.cells (vec zero9) 38))
  have HI := Hd.mk (fun (w' : World) (h' : MatIs b n L w') => mat_in (k : Int) h')
  rw [show inM n (k : Int) = true from by simp [inM, hk]] at HI
  have HM := Hd.mk ((heap_alloc_old w (.cells (vec zero9) 38) hlt).trans h)
  have HL := Hd.mk (rowM_len hL hk8)
  have HC := Hd.mk (rowM_cons n L k)
  have HLL := Hd.mk hL
  have g1 : (k : Int) < 8 := by omega
  have HK8 := Hd.mk hk8
  clear h hL hk8
  generalize rowM L k = r at *
  go_enter Try.func15, Try.ntmps15
  go_upto_region 1 with (fail)
  clear hz
  generalize w.alloc (.cells (vec zero9) 38) = W at *
  go_wp2_with fail
  refine (HI.out _ HM.out).mono ?_; rintro e w1 ⟨rfl, h1⟩
  have H1 := Hd.mk (H0.out.call h1)
  have HM1 := Hd.mk ((h1.block _ (Array.getElem?_eq_some_iff.1 HM.out).1).trans HM.out)
  clear H0 h1 HI HM
  go_wp2_with (first | ((with_reducible refine gate_load (t := 38) rfl ?_); refine wpList_load_vec rfl _ _ rfl b (1 + k * 9) 9 rfl (n :: L) 71 (0, 0) HM1.out _ Try.underlying38 rfl size_row (by rw [List.length_cons, HLL.out]; have := HK8.out; omega) ?_; simp only [HC.out]) | ((with_reducible refine gate_store (t := 38) rfl ?_); refine wpList_store_row rfl _ _ _ rfl w.heap.size (vec r) rfl rfl 38 (vec zero9) (H1.out.get 0 rfl) (by rw [vec_size, HL.out]; exact size_row) (by rw [vec_size, vec_size, HL.out]; rfl) (vec_one _) ?_))
  exact bodyPost_ret (results_cell_row (p := 4) rfl _ _ w.heap.size 38 (vec r) (0, 0) _ rfl (setRow_heap _ _ _ _ _ _ (H1.out.get 0 rfl)) Try.underlying38 rfl (by rw [vec_size, HL.out]; exact size_row)) rfl ⟨rfl, below_setRow H1.out.2 (Nat.le_refl _) _⟩
end Go.Proofs.Ytcpgfllnaiabkaa
