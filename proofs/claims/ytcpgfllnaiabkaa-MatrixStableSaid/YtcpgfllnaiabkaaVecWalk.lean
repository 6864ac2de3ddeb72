/- vector's both, Join, Meet: their contracts. -/
import Derived.Test.YtcpgfllnaiabkaaVecPlain
namespace Go.Proofs.Ytcpgfllnaiabkaa
open Go.RowKit Go.Proofs.YtcpgfllnaiabkaaW.PrintWords Go.Proofs.YtcpgfllnaiabkaaW.PrintLast Go.Proofs.YtcpgfllnaiabkaaW.PrintMore
attribute [local go_sem] max2_int min2_int max_two min_two
set_option linter.unusedVariables false
set_option linter.unusedSimpArgs false

theorem join_one (x y : Int) (w : World) : Calls Try.prog 30 #[.int .i64 x, .int .i64 y] w fun e w' => e = .returned (.int .i64 (mx x y)) ∧ Below w.heap.size w w' := by
  have hm : Hd (mx x y = if x < y then y else x) := ⟨rfl⟩
  by_cases h : x < y
  · go_enter Try.func30, Try.ntmps30
    go_wp2
    go_ret
    exact ⟨by rw [hm.out, if_pos h]; rfl, Below.refl _ _⟩
  · have h2 : y ≤ x := by omega
    go_enter Try.func30, Try.ntmps30
    go_wp2
    go_ret
    exact ⟨by rw [hm.out, if_neg (by omega)]; rfl, Below.refl _ _⟩

theorem alloc3 (w : World) (A B C : Obj) : ((((w.alloc A).alloc B).alloc C).heap[w.heap.size]? = some A) ∧ ((((w.alloc A).alloc B).alloc C).heap[w.heap.size + 1]? = some B) ∧ ((((w.alloc A).alloc B).alloc C).heap[w.heap.size + 1 + 1]? = some C) ∧ Below w.heap.size w (((w.alloc A).alloc B).alloc C) ∧ (((w.alloc A).alloc B).alloc C).heap.size = w.heap.size + 1 + 1 + 1 := by
  refine ⟨?_, ?_, ?_, ?_, by simp⟩
  · rw [heap_alloc_old _ _ (by simp; omega), heap_alloc2_old]
  · rw [heap_alloc_old _ _ (by simp), heap_alloc2_new]
  · have := heap_alloc_new ((w.alloc A).alloc B) C
    simpa using this
  · exact (((Below.refl _ _).alloc (Nat.le_refl _) _).alloc (by simp) _).alloc (by simp; omega) _

set_option maxHeartbeats 1000000 in
set_option maxRecDepth 100000 in
theorem both_join (a b : List Int) (ha : a.length = 8) (hb : b.length = 8) (w : World) :
    Calls Try.prog 29 #[.agg (vec a), .agg (vec b), .func (.func 30) #[] #[]] w fun e w' => e = .returned (.agg (vec (bothL mx a b))) ∧ Below w.heap.size w w' := by
  have hz := zeroVec
  obtain ⟨p1, p2, p3, pb, ps⟩ := alloc3 w (.cells (vec a) 27) (.cells (vec b) 27) (.cells (vec zero8) 27)
  have P1 := Hd.mk p1
  have P2 := Hd.mk p2
  have P3 := Hd.mk p3
  have PB := Hd.mk pb
  have Ha := Hd.mk ha
  have Hb := Hd.mk hb
  clear ha hb p1 p2 p3 pb ps
  go_enter Try.func29, Try.ntmps29
  go_upto_region 1 with (fail)
  clear hz
  generalize ((w.alloc (.cells (vec a) 27)).alloc (.cells (vec b) 27)).alloc (.cells (vec zero8) 27) = W at *
  go_wp2_with (first | ((with_reducible refine gate_load (t := 27) rfl ?_); refine wpList_load_row rfl _ _ rfl (w.heap.size + 1) rfl 27 (vec b) (0, 0) _ P2.out Try.underlying27 rfl (by rw [vec_size, Hb.out]; exact size_vec) ?_))
  go_loopg [7, 8, 10] 8 (fun kq v7 v8 v10 w' => ∃ k : Nat, k ≤ 8 ∧ v10 = .int .i64 (k : Int) ∧ Hd (kq + k = 8) ∧ Hd (Below w.heap.size w w') ∧ Hd (w'.heap[w.heap.size]? = some (.cells (vec (mixL mx a b k)) 27 (0, 0))) ∧ Hd (w'.heap[w.heap.size + 1 + 1]? = some (.cells (vec zero8) 27 (0, 0))) ∧ w.heap.size + 1 + 1 < w'.heap.size)
  case atStart => exact ⟨0, by omega, rfl, ⟨rfl⟩, PB, ⟨by rw [mixL_zero]; exact P1.out⟩, P3, by have := (Array.getElem?_eq_some_iff.1 P3.out).1; exact this⟩
  case round =>
    clear P1 P2 P3 PB
    obtain ⟨k, hk, rfl, HK, HB, Q1, Q3, hsz⟩ := hrel
    by_cases hlt : k < 8
    · obtain ⟨x, hx⟩ : ∃ x, a[k]? = some x := ⟨_, List.getElem?_eq_getElem (by rw [Ha.out]; exact hlt)⟩
      obtain ⟨y, hy⟩ : ∃ y, b[k]? = some y := ⟨_, List.getElem?_eq_getElem (by rw [Hb.out]; exact hlt)⟩
      have hix := index_vec Hb.out hy
      have hcx : wr.cell? ⟨w.heap.size, k, none⟩ = some (.int .i64 x) := by rw [cell_of_row wr _ k _ _ _ Q1.out]; exact vec_at (by rw [mixL_at Ha.out Hb.out hlt]; exact hx)
      have hset := Hd.mk (mixL_set (f := mx) Ha.out Hb.out hlt hx hy)
      have H1 := Hd.mk (join_one x y)
      clear hx hy
      go_wp2_with fail
      refine (H1.out _).mono ?_; rintro e w5 ⟨rfl, h5⟩
      have Q1' : w5.heap[w.heap.size]? = some (.cells (vec (mixL mx a b k)) 27 (0, 0)) := (h5.block _ (by omega)).trans Q1.out
      have Q3' : w5.heap[w.heap.size + 1 + 1]? = some (.cells (vec zero8) 27 (0, 0)) := (h5.block _ (by omega)).trans Q3.out
      have R1 := Hd.mk Q1'
      have R3 := Hd.mk Q3'
      have hcx5 : w5.cell? ⟨w.heap.size, k, none⟩ = some (.int .i64 x) := (h5.cell (by show w.heap.size < wr.heap.size; omega)).trans hcx
      have hfz : w5.frozen? ⟨w.heap.size, k, none⟩ = false := frozen_of_row w5 _ k _ _ Q1'
      have HB5 := Hd.mk (below_step HB.out h5)
      have hsz5 : w.heap.size + 1 + 1 < w5.heap.size := Nat.lt_of_lt_of_le hsz h5.size
      clear Q1 Q3 Q1' Q3' hcx h5 HB hix hsz
      go_wp2_with fail
      go_roundg (7 - k)
      case measure => have := HK.out; omega
      case rel => exact ⟨k + 1, by omega, by first | rfl | congr 1, ⟨by have := HK.out; omega⟩, ⟨HB5.out.setCell (by simp) _⟩, ⟨by rw [heap_setCell_same _ _ _ _ _ _ R1.out, vec_set, hset.out]⟩, ⟨(heap_setCell_other _ _ _ _ (by simp; omega)).trans R3.out⟩, by simpa using hsz5⟩
    · obtain rfl : k = 8 := by omega
      have hml : (mixL mx a b 8).length = 8 := mixL_len Ha.out Hb.out (by omega)
      have hmf : mixL mx a b 8 = bothL mx a b := mixL_full Ha.out Hb.out
      rw [hmf] at hml
      have Q1' : wr.heap[w.heap.size]? = some (.cells (vec (bothL mx a b)) 27 (0, 0)) := by rw [← hmf]; exact Q1.out
      have R1 := Hd.mk Q1'
      have Hml := Hd.mk hml
      clear Q1' Q1 hmf hml
      go_wp2_with (first | ((with_reducible refine gate_load (t := 27) rfl ?_); refine wpList_load_row rfl _ _ rfl w.heap.size rfl 27 (vec (bothL mx a b)) (0, 0) _ R1.out Try.underlying27 rfl (by rw [vec_size, Hml.out]; exact size_vec) ?_) | ((with_reducible refine gate_store (t := 27) rfl ?_); refine wpList_store_row rfl _ _ _ rfl (w.heap.size + 1 + 1) (vec (bothL mx a b)) rfl rfl 27 (vec zero8) Q3.out (by rw [vec_size, Hml.out]; exact size_vec) (by rw [vec_size, vec_size, Hml.out]; rfl) (vec_one _) ?_))
      refine bodyPost_ret (v := .agg (vec (bothL mx a b))) (results_cell_row (p := 6) rfl _ _ (w.heap.size + 1 + 1) 27 (vec (bothL mx a b)) (0, 0) _ rfl (setRow_heap _ _ _ _ _ _ Q3.out) Try.underlying27 rfl (by rw [vec_size, Hml.out]; exact size_vec)) rfl ⟨rfl, below_setRow HB.out (by omega) _⟩

set_option maxHeartbeats 1000000 in
set_option maxRecDepth 100000 in
theorem vec_Join (a b : List Int) (ha : a.length = 8) (hb : b.length = 8) (w : World) :
    Calls Try.prog 11 #[.agg (vec a), .agg (vec b)] w fun e w' => e = .returned (.agg (vec (joinL a b))) ∧ Below w.heap.size w w' := by
  have hz := zeroVec
  obtain ⟨p1, p2, p3, pb, ps⟩ := alloc3 w (.cells (vec a) 27) (.cells (vec b) 27) (.cells (vec zero8) 27)
  have P1 := Hd.mk p1
  have P2 := Hd.mk p2
  have P3 := Hd.mk p3
  have PB := Hd.mk pb
  have Ha := Hd.mk ha
  have Hb := Hd.mk hb
  have H1 := Hd.mk (both_join a b ha hb)
  have Hl := Hd.mk (bothL_len (f := mx) ha hb)
  clear ha hb p1 p2 p3 pb ps
  go_enter Try.func11, Try.ntmps11
  go_upto_region 1 with (fail)
  clear hz
  generalize ((w.alloc (.cells (vec a) 27)).alloc (.cells (vec b) 27)).alloc (.cells (vec zero8) 27) = W at *
  go_wp2_with (first | ((with_reducible refine gate_dst (N := 5) rfl ?_); refine wpList_load_row rfl 27 _ rfl w.heap.size rfl 27 (vec a) (0, 0) _ P1.out Try.underlying27 rfl (by rw [vec_size, Ha.out]; exact size_vec) ?_) | ((with_reducible refine gate_dst (N := 6) rfl ?_); refine wpList_load_row rfl 27 _ rfl (w.heap.size + 1) rfl 27 (vec b) (0, 0) _ P2.out Try.underlying27 rfl (by rw [vec_size, Hb.out]; exact size_vec) ?_))
  refine (H1.out _).mono ?_; rintro e w5 ⟨rfl, h5⟩
  have Q3 := Hd.mk ((h5.block _ (Array.getElem?_eq_some_iff.1 P3.out).1).trans P3.out)
  have HB := Hd.mk (below_step PB.out h5)
  clear h5
  go_wp2_with (first | ((with_reducible refine gate_store (t := 27) rfl ?_); refine wpList_store_row rfl _ _ _ rfl (w.heap.size + 1 + 1) (vec (bothL mx a b)) rfl rfl 27 (vec zero8) Q3.out (by rw [vec_size, Hl.out]; exact size_vec) (by rw [vec_size, vec_size, Hl.out]; rfl) (vec_one _) ?_))
  refine bodyPost_ret (v := .agg (vec (joinL a b))) (results_cell_row (p := 4) rfl _ _ (w.heap.size + 1 + 1) 27 (vec (bothL mx a b)) (0, 0) _ rfl (setRow_heap _ _ _ _ _ _ Q3.out) Try.underlying27 rfl (by rw [vec_size, Hl.out]; exact size_vec)) rfl ⟨rfl, below_setRow HB.out (by omega) _⟩

end Go.Proofs.Ytcpgfllnaiabkaa
