/- The laws of checksums whose last test reads the table: the document's, linear, step by step. Each returns true, whatever comes in. -/
import Derived.Test.YtgflbllflekkeaaCrcRef
namespace Go.Proofs.Ytgflbllflekkeaa
open Go.RowKit Go.Proofs.YtgflbllflekkeaaW.PrintWords Go.Proofs.YtgflbllflekkeaaW.PrintLast Go.Proofs.YtgflbllflekkeaaW.PrintMore Cr
set_option linter.unusedVariables false
set_option linter.unusedSimpArgs false

/-- The table that a law holds: its variable's cells. -/
theorem tab_cell (w1 : World) (i : Nat) (hi : i < 256) : ((w1.alloc (.cells zeros256 29)).setRow w1.heap.size tab).cell? ⟨w1.heap.size, i, none⟩ = some (.int .u32 ((tabv i : Nat) : Int)) := by
  rw [cell_of_row _ _ i tab 29 (0, 0) (setRow_heap _ _ _ _ _ _ (heap_alloc_new w1 (.cells zeros256 29))), tab_at i hi]

theorem law_CrcLinear' (a b : Nat) (ha : a < 256) (hb : b < 256) (w : World) :
    Calls Try.prog 7 #[.int .u8 (a : Int), .int .u8 (b : Int)] w fun e w' => e = .returned (.bool true) ∧ Below w.heap.size w w' := by
  have hz : ∀ w, (zeroValue 29).run Try.prog w = .ok (.agg zeros256) w := fun w => by kernel_rfl
  have H0 := Hd.mk shown2
  have H1 := Hd.mk crc_Table
  have hx := xor8 a b ha hb
  have hx8 : a ^^^ b < 256 := Nat.xor_lt_two_pow (n := 8) ha hb
  have hl := xor32 (tabv a) (tabv b) (tabv_lt ha) (tabv_lt hb)
  rw [← tabv_xor] at hl
  have hi : ((tabv a : Int) == (tabv b : Int)) = ((a : Int) == (b : Int)) := by
    by_cases e : a = b
    · subst e; simp
    · have : tabv a ≠ tabv b := fun h => e (tabv_inj ha hb h)
      rw [beq_eq_false_iff_ne.2 (by omega), beq_eq_false_iff_ne.2 (by omega)]
  generalize a ^^^ b = x at *
  have hxi : (x : Int) < 256 := by omega
  have hai : (a : Int) < 256 := by omega
  have hbi : (b : Int) < 256 := by omega
  go_enter Try.func7, Try.ntmps7
  go_wp2_with fail
  refine (H0.out _).mono ?_; rintro e w0 ⟨rfl, h0⟩
  go_wp2_with fail
  refine (H1.out _).mono ?_; rintro e w1 ⟨rfl, h1⟩
  have HW := Hd.mk (heap_alloc_new w1 (.cells zeros256 29))
  go_wp2_with (first | ((with_reducible refine gate_store (t := 29) rfl ?_); refine wpList_store_row rfl _ _ _ rfl w1.heap.size tab rfl rfl 29 zeros256 HW.out (by rw [tab_size]; exact size_tab) zeros_tab tab_one ?_))
  have c1 := tab_cell w1 x hx8
  have c2 := tab_cell w1 a ha
  have c3 := tab_cell w1 b hb
  have HB : Hd (Below w.heap.size w ((w1.alloc (.cells zeros256 29)).setRow w1.heap.size tab)) := ⟨below_setRow ((below_step h0 h1).alloc (Nat.le_trans h0.size h1.size) _) (Nat.le_trans h0.size h1.size) _⟩
  obtain ⟨b1, hb1⟩ : ∃ b1, b1 = w1.heap.size := ⟨_, rfl⟩
  rw [← hb1] at c1 c2 c3 HB ⊢
  generalize (w1.alloc (.cells zeros256 29)).setRow b1 tab = W at *
  clear hz HW h0 h1 hb1 H0 H1
  go_quiet (fail)
  go_wp2
  go_ret
  exact ⟨rfl, by repeat (first | (with_reducible first | exact HB.out | apply below_alloc | apply pw_below_drewN | apply below_drew1) | exact HB.out)⟩

end Go.Proofs.Ytgflbllflekkeaa
