/- The law that checksums are the document's, walked: it returns true, whatever comes in. -/
import Derived.Test.YtgflbllflekkeaaCrcSteps
namespace Go.Proofs.Ytgflbllflekkeaa
open Go.RowKit Go.Proofs.YtgflbllflekkeaaW.PrintWords Go.Proofs.YtgflbllflekkeaaW.PrintLast Go.Proofs.YtgflbllflekkeaaW.PrintMore Cr
set_option linter.unusedVariables false
set_option linter.unusedSimpArgs false

set_option maxHeartbeats 2000000 in
set_option maxRecDepth 100000 in
theorem law_CrcTells' (c : Nat) (hc : c < 4294967296) (s : ByteArray) (hs : s.size ≤ 140737488351232) (n : Nat) (hn : n < 256) (w : World) :
    Calls Try.prog 4 #[.int .u32 (c : Int), .string s, .int .u8 (n : Int)] w fun e w' => e = .returned (.bool true) ∧ Below w.heap.size w w' := by
  have hz : ∀ w, (zeroValue 29).run Try.prog w = .ok (.agg zeros256) w := fun w => by kernel_rfl
  have H0 := Hd.mk shown2
  have H1 := Hd.mk crc_Table
  by_cases hg : 2000 < s.size
  · have Hc := Hd.mk hc
    clear hc
    go_enter Try.func4, Try.ntmps4
    go_wp2_with (go_at_call 15; refine (H0.out _).mono ?_; rintro e w1 ⟨rfl, hb1⟩)
    go_ret
    exact ⟨rfl, hb1⟩
  · have hg2 : s.size ≤ 2000 := by omega
    clear hg hs
    have hni : (n : Int) < 256 := by omega
    have hwr : IntKind.u32.wrap (n : Int) = (n : Int) := by rw [IntKind.wrap_u32]; omega
    -- what is held while the last test goes on
    have step : ∀ (B : Nat) (W W' : World), Below W.heap.size W W' → (W.cell? ⟨B, n, none⟩ = some (.int .u32 ((tabv n : Nat) : Int)) ∧ B < W.heap.size ∧ Below w.heap.size w W) → (W'.cell? ⟨B, n, none⟩ = some (.int .u32 ((tabv n : Nat) : Int)) ∧ B < W'.heap.size ∧ Below w.heap.size w W') :=
      fun B W W' h k => ⟨(h.cell k.2.1).trans k.1, Nat.lt_of_lt_of_le k.2.1 h.size, below_step k.2.2 h⟩
    have S := Hd.mk step
    have H2 : Hd (∀ (B : Nat) (W : World), (W.cell? ⟨B, n, none⟩ = some (.int .u32 ((tabv n : Nat) : Int)) ∧ B < W.heap.size ∧ Below w.heap.size w W) → Calls Try.prog 17 #[.string s] W fun e w' => e = .returned (.int .u32 ((ofv s.data.toList : Nat) : Int)) ∧ (w'.cell? ⟨B, n, none⟩ = some (.int .u32 ((tabv n : Nat) : Int)) ∧ B < w'.heap.size ∧ Below w.heap.size w w')) :=
      ⟨fun B W k => (crc_Of' s (by omega) W).mono fun e w' h => ⟨h.1, step B W w' h.2 k⟩⟩
    have H3 : Hd (∀ (B : Nat) (W : World), (W.cell? ⟨B, n, none⟩ = some (.int .u32 ((tabv n : Nat) : Int)) ∧ B < W.heap.size ∧ Below w.heap.size w W) → Calls Try.prog 18 #[.string s] W fun e w' => e = .returned (.int .u32 ((ofv s.data.toList : Nat) : Int)) ∧ (w'.cell? ⟨B, n, none⟩ = some (.int .u32 ((tabv n : Nat) : Int)) ∧ B < w'.heap.size ∧ Below w.heap.size w w')) :=
      ⟨fun B W k => (ref_Of s (by omega) W).mono fun e w' h => ⟨h.1, step B W w' h.2 k⟩⟩
    have H4 : Hd (∀ (B : Nat) (W : World), (W.cell? ⟨B, n, none⟩ = some (.int .u32 ((tabv n : Nat) : Int)) ∧ B < W.heap.size ∧ Below w.heap.size w W) → Calls Try.prog 19 #[.int .u32 (c : Int), .string s] W fun e w' => e = .returned (.int .u32 ((mov c s.data.toList : Nat) : Int)) ∧ (w'.cell? ⟨B, n, none⟩ = some (.int .u32 ((tabv n : Nat) : Int)) ∧ B < w'.heap.size ∧ Below w.heap.size w w')) :=
      ⟨fun B W k => (crc_More' c hc s (by omega) W).mono fun e w' h => ⟨h.1, step B W w' h.2 k⟩⟩
    have H5 : Hd (∀ (B : Nat) (W : World), (W.cell? ⟨B, n, none⟩ = some (.int .u32 ((tabv n : Nat) : Int)) ∧ B < W.heap.size ∧ Below w.heap.size w W) → Calls Try.prog 20 #[.int .u32 (c : Int), .string s] W fun e w' => e = .returned (.int .u32 ((mov c s.data.toList : Nat) : Int)) ∧ (w'.cell? ⟨B, n, none⟩ = some (.int .u32 ((tabv n : Nat) : Int)) ∧ B < w'.heap.size ∧ Below w.heap.size w w')) :=
      ⟨fun B W k => (ref_More c hc s (by omega) W).mono fun e w' h => ⟨h.1, step B W w' h.2 k⟩⟩
    have H6 : Hd (∀ (B : Nat) (W : World), (W.cell? ⟨B, n, none⟩ = some (.int .u32 ((tabv n : Nat) : Int)) ∧ B < W.heap.size ∧ Below w.heap.size w W) → Calls Try.prog 21 #[.int .u32 (n : Int), .int .i64 8] W fun e w' => e = .returned (.int .u32 ((tabv n : Nat) : Int)) ∧ (w'.cell? ⟨B, n, none⟩ = some (.int .u32 ((tabv n : Nat) : Int)) ∧ B < w'.heap.size ∧ Below w.heap.size w w')) :=
      ⟨fun B W k => (ref_Steps n ⟨by omega⟩ W).mono fun e w' h => ⟨h.1, step B W w' h.2 k⟩⟩
    have Hc := Hd.mk hc
    clear hc step
    go_enter Try.func4, Try.ntmps4
    go_wp2_with fail
    refine (H0.out _).mono ?_; rintro e w0 ⟨rfl, h0⟩
    go_wp2_with fail
    refine (H1.out _).mono ?_; rintro e w1 ⟨rfl, h1⟩
    have HW := Hd.mk (heap_alloc_new w1 (.cells zeros256 29))
    go_wp2_with (first | ((with_reducible refine gate_store (t := 29) rfl ?_); refine wpList_store_row rfl _ _ _ rfl w1.heap.size tab rfl rfl 29 zeros256 HW.out (by rw [tab_size]; exact size_tab) zeros_tab tab_one ?_))
    have c1 := tab_cell w1 n hn
    have hB : Below w.heap.size w ((w1.alloc (.cells zeros256 29)).setRow w1.heap.size tab) := below_setRow ((below_step h0 h1).alloc (Nat.le_trans h0.size h1.size) _) (Nat.le_trans h0.size h1.size) _
    have hlt : w1.heap.size < ((w1.alloc (.cells zeros256 29)).setRow w1.heap.size tab).heap.size := by simp
    obtain ⟨b1, hb1⟩ : ∃ b1, b1 = w1.heap.size := ⟨_, rfl⟩
    rw [← hb1] at c1 hB hlt ⊢
    generalize (w1.alloc (.cells zeros256 29)).setRow b1 tab = W at *
    clear hz HW h0 h1 hb1 H1 H0
    go_region_held3 (fun W' => W'.cell? ⟨b1, n, none⟩ = some (.int .u32 ((tabv n : Nat) : Int)) ∧ b1 < W'.heap.size ∧ Below w.heap.size w W')
      (first
        | (exact ⟨c1, hlt, hB⟩)
        | (exact ⟨c1, hlt, hB.drew⟩)
        | assumption
        | go_keep)
      (first
        | (go_at_call 17; (with_reducible refine (H2.out b1 _ (by assumption)).mono ?_); rintro e w' ⟨rfl, hS⟩)
        | (go_at_call 18; (with_reducible refine (H3.out b1 _ (by assumption)).mono ?_); rintro e w' ⟨rfl, hS⟩)
        | (go_at_call 19; (with_reducible refine (H4.out b1 _ (by assumption)).mono ?_); rintro e w' ⟨rfl, hS⟩)
        | (go_at_call 20; (with_reducible refine (H5.out b1 _ (by assumption)).mono ?_); rintro e w' ⟨rfl, hS⟩)
        | (go_at_call 21; (with_reducible refine (H6.out b1 _ (by assumption)).mono ?_); rintro e w' ⟨rfl, hS⟩))
    go_wp2
    go_ret
    rename_i hS
    exact ⟨rfl, hS.2.2⟩
end Go.Proofs.Ytgflbllflekkeaa
