/- crc.Table: its contract. -/
import Derived.Test.YtgflbllflekkeaaBase
import Derived.Test.YtgflbllflekkeaaCrcPlain
namespace Go.Proofs.Ytgflbllflekkeaa
open Go.RowKit Go.Proofs.YtgflbllflekkeaaW.PrintWords Go.Proofs.YtgflbllflekkeaaW.PrintLast Go.Proofs.YtgflbllflekkeaaW.PrintMore Cr
set_option linter.unusedVariables false
set_option linter.unusedSimpArgs false

theorem size_tab : (Try.prog.info? 29).map (·.size) = some 256 := by kernel_rfl

set_option maxHeartbeats 1000000 in
set_option maxRecDepth 100000 in
theorem crc_Table (w : World) :
    Calls Try.prog 16 #[] w fun e w' => e = .returned (.agg tab) ∧ Below w.heap.size w w' := by
  have hz : ∀ w, (zeroValue 29).run Try.prog w = .ok (.agg zeros256) w := fun w => by kernel_rfl
  have hb0 : Below w.heap.size w ((w.alloc (.cells zeros256 29)).alloc (.cells zeros256 29)) := ((Below.refl _ _).alloc (Nat.le_refl _) _).alloc (by simp) _
  have hp1 : ((w.alloc (.cells zeros256 29)).alloc (.cells zeros256 29)).heap[w.heap.size]? = some (.cells zeros256 29 (0, 0)) := heap_alloc2_old _ _ _
  have hp2 : ((w.alloc (.cells zeros256 29)).alloc (.cells zeros256 29)).heap[w.heap.size + 1]? = some (.cells zeros256 29 (0, 0)) := heap_alloc2_new _ _ _
  have HB0 := Hd.mk hb0
  have HP1 := Hd.mk hp1
  have HP2 := Hd.mk hp2
  clear hb0 hp1 hp2
  go_enter Try.func16, Try.ntmps16
  go_wp2_with fail
  clear hz
  go_loopg [2, 3, 4, 5, 10] 256 (fun kq v2 v3 v4 v5 v10 w' => ∃ (k : Nat), k ≤ 256 ∧ v5 = .int .i64 (k : Int) ∧ Hd (kq + k = 256) ∧ Hd (Below w.heap.size w w') ∧ Hd (w'.heap[w.heap.size]? = some (.cells zeros256 29 (0, 0))) ∧ Hd (w'.heap[w.heap.size + 1]? = some (.cells (tabUp k) 29 (0, 0))))
  case atStart => exact ⟨0, by omega, rfl, ⟨rfl⟩, HB0, HP1, ⟨by rw [tabUp_zero]; exact HP2.out⟩⟩
  case round =>
    clear HB0 HP1 HP2
    obtain ⟨k, hk, rfl, HK, HB, H1, H2⟩ := hrel
    by_cases hlt : k < 256
    · go_wp2_with fail
      go_loopg [3, 4, 10] 8 (fun jq v3 v4 v10 w' => ∃ (j : Nat), j ≤ 8 ∧ v10 = .int .i64 (j : Int) ∧ v3 = .int .u32 ((stps j k : Nat) : Int) ∧ Hd (jq + j = 8) ∧ Hd (Below w.heap.size w w') ∧ Hd (w'.heap[w.heap.size]? = some (.cells zeros256 29 (0, 0))) ∧ Hd (w'.heap[w.heap.size + 1]? = some (.cells (tabUp k) 29 (0, 0))))
      case atStart => exact ⟨0, by omega, rfl, rfl, ⟨rfl⟩, HB, H1, H2⟩
      case round =>
        clear HB H1 H2
        obtain ⟨j, hj, rfl, rfl, HJ, HB, H1, H2⟩ := hrel
        have hc := stps_lt (c := k) (by omega) j
        by_cases hj8 : j < 8
        · have hst := Hd.mk (stp_walk hc)
          go_wp2_with fail
          go_roundg (7 - j)
          case measure => have := HJ.out; omega
          case rel => exact ⟨j + 1, by omega, by first | rfl | congr 1, by rw [hst.out, stps_succ], ⟨by have := HJ.out; omega⟩, HB, H1, H2⟩
        · obtain rfl : j = 8 := by omega
          have ht : Hd (stps 8 k = tabv k) := ⟨rfl⟩
          have hcell : wr.cell? ⟨w.heap.size + 1, k, none⟩ = some (.int .u32 (if k < k then (tabv k : Int) else 0)) := by rw [cell_of_row wr _ k _ _ _ H2.out, tabUp_at k k hlt]
          have hfz : wr.frozen? ⟨w.heap.size + 1, k, none⟩ = false := frozen_of_row wr _ k _ _ H2.out
          go_wp2_with fail
          go_roundg (255 - k)
          case measure => have := HK.out; omega
          case rel => exact ⟨k + 1, by omega, by first | rfl | congr 1, ⟨by have := HK.out; omega⟩, ⟨HB.out.setCell (by simp) _⟩, ⟨(heap_setCell_other _ _ _ _ (by simp)).trans H1.out⟩, ⟨by rw [heap_setCell_same _ _ _ _ _ _ H2.out, ht.out, tabUp_set k hlt]⟩⟩
    · obtain rfl : k = 256 := by omega
      have H2' : wr.heap[w.heap.size + 1]? = some (.cells tab 29 (0, 0)) := by rw [← tabUp_full]; exact H2.out
      have H2h := Hd.mk H2'
      clear H2' H2
      go_wp2_with (first | ((with_reducible refine gate_load (t := 29) rfl ?_); refine wpList_load_row rfl _ _ rfl (w.heap.size + 1) rfl 29 tab (0, 0) _ H2h.out Try.underlying29 rfl (by rw [tab_size]; exact size_tab) ?_) | ((with_reducible refine gate_store (t := 29) rfl ?_); refine wpList_store_row rfl _ _ _ rfl w.heap.size tab rfl rfl 29 zeros256 H1.out (by rw [tab_size]; exact size_tab) zeros_tab tab_one ?_))
      refine bodyPost_ret (v := .agg tab) (results_cell_row (p := 0) rfl _ _ w.heap.size 29 tab (0, 0) _ rfl (setRow_heap _ _ _ _ _ _ H1.out) Try.underlying29 rfl (by rw [tab_size]; exact size_tab)) rfl ⟨rfl, below_setRow HB.out (Nat.le_refl _) _⟩
end Go.Proofs.Ytgflbllflekkeaa
