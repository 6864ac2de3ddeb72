/- The law that one byte more is one entry of the table more, walked: it returns true, whatever comes in. -/
import Derived.Test.YtgflbllflekkeaaCrcTells
namespace Go.Proofs.Ytgflbllflekkeaa
open Go.RowKit Go.Proofs.YtgflbllflekkeaaW.PrintWords Go.Proofs.YtgflbllflekkeaaW.PrintLast Go.Proofs.YtgflbllflekkeaaW.PrintMore Cr
set_option linter.unusedVariables false
set_option linter.unusedSimpArgs false

theorem one_byte (b : Nat) (W : World) : (convert 37 9 (.slice (some ⟨W.heap.size, 0, none⟩) 1 1)).run Try.prog (W.alloc (.cells #[.int .u8 (b : Int)] 5)) = .ok (.string (strOfNums [(b : Int)])) (W.alloc (.cells #[.int .u8 (b : Int)] 5)) := by
  refine run_convert_bytes_arg _ 37 5 Try.underlying37 Try.underlying5 W.heap.size 0 1 1 [(b : Int)] rfl (fun i hi => ?_) 9 Try.underlying9
  obtain rfl : i = 0 := by simpa using hi
  rw [cell_of_row _ _ _ _ _ _ (heap_alloc_new W (.cells #[.int .u8 (b : Int)] 5))]; rfl

set_option maxRecDepth 100000 in
theorem law_CrcSteps' (s : ByteArray) (hs : s.size ≤ 140737488351232) (b : Nat) (hb : b < 256) (w : World) :
    Calls Try.prog 8 #[.string s, .int .u8 (b : Int)] w fun e w' => e = .returned (.bool true) ∧ Below w.heap.size w w' := by
  have hz : ∀ w, (zeroValue 29).run Try.prog w = .ok (.agg zeros256) w := fun w => by kernel_rfl
  have H0 := Hd.mk shown2
  have H1 := Hd.mk crc_Table
  by_cases hg : 2000 < s.size
  · go_enter Try.func8, Try.ntmps8
    go_wp2_with (go_at_call 15; refine (H0.out _).mono ?_; rintro e w1 ⟨rfl, hb1⟩)
    go_ret
    exact ⟨rfl, hb1⟩
  · have hg2 : s.size ≤ 2000 := by omega
    clear hg hs
    have H2 := Hd.mk (crc_Of' s (by omega))
    have hcv := one_byte b
    have hbb : (UInt8.ofNat b).toNat = b := by simp; omega
    have hl : (s ++ strOfNums [(b : Int)]).data.toList = s.data.toList ++ [UInt8.ofNat b] := by
      rw [ByteArray.data_append]; simp [strOfNums]
    have hsz : s.size + (strOfNums [(b : Int)]).size ≤ 2001 := by rw [strOfNums_size]; simp; omega
    have E3 := crc_Of' (s ++ strOfNums [(b : Int)]) (by rw [ByteArray.size_append]; omega)
    rw [hl] at E3
    have E4 := crc_Of' ⟨#[]⟩ (by decide)
    rw [show ofv (⟨#[]⟩ : ByteArray).data.toList = 0 from by decide] at E4
    have H4 := Hd.mk E4
    -- the sum's bits turned
    obtain ⟨d, hd⟩ : ∃ d, d = mor s.data.toList 4294967295 := ⟨_, rfl⟩
    have hdl : d < 4294967296 := by rw [hd]; exact mor_lt _ _ (by decide)
    have ho : ofv s.data.toList = 4294967295 - d := by rw [hd]; rfl
    have hn1 := not32 (ofv_lt s.data.toList)
    rw [ho, show (4294967295 - (4294967295 - d) : Nat) = d from by omega] at hn1
    rw [ho] at H2
    have hx1 : bits .xor .u8 ((d : Int) % 256) (b : Int) = ((d % 256 ^^^ b : Nat) : Int) := by
      have := xor8 (d % 256) b (by omega) hb
      rw [← this]; congr 1
    have hx8 : d % 256 ^^^ b < 256 := Nat.xor_lt_two_pow (n := 8) (by omega) hb
    have hx2 := xor32 (tabv (d % 256 ^^^ b)) (d / 256) (tabv_lt hx8) (by omega)
    have hy : tabv (d % 256 ^^^ b) ^^^ d / 256 < 4294967296 := by have := mor_step_lt hdl (UInt8.ofNat b); rw [hbb] at this; exact this
    have hn2 := not32 hy
    have e3 : ofv (s.data.toList ++ [UInt8.ofNat b]) = 4294967295 - (tabv (d % 256 ^^^ b) ^^^ d / 256) := by
      unfold ofv
      rw [mor_append, ← hd, mor, mor, hbb]
    rw [e3] at E3
    have H3 := Hd.mk E3
    have e2 : ((d / 256 : Nat) : Int) = (d : Int) / 256 := by omega
    rw [e2] at hx2
    generalize d % 256 ^^^ b = x at *
    generalize tabv x ^^^ d / 256 = y at *
    have hxi : (x : Int) < 256 := by omega
    have hdi : (d : Int) ≤ 4294967295 := by omega
    clear E3 E4 e3 hd ho hl e2 hbb hdl hy
    generalize 4294967295 - d = u at *
    generalize 4294967295 - y = v at *
    generalize strOfNums [(b : Int)] = q at *
    go_enter Try.func8, Try.ntmps8
    go_wp2_with fail
    refine (H0.out _).mono ?_; rintro e w0 ⟨rfl, h0⟩
    go_wp2_with fail
    refine (H1.out _).mono ?_; rintro e w1 ⟨rfl, h1⟩
    have HW := Hd.mk (heap_alloc_new w1 (.cells zeros256 29))
    go_wp2_with (first | ((with_reducible refine gate_store (t := 29) rfl ?_); refine wpList_store_row rfl _ _ _ rfl w1.heap.size tab rfl rfl 29 zeros256 HW.out (by rw [tab_size]; exact size_tab) zeros_tab tab_one ?_))
    have c1 := tab_cell w1 x hx8
    have HB : Hd (Below w.heap.size w ((w1.alloc (.cells zeros256 29)).setRow w1.heap.size tab)) := ⟨below_setRow ((below_step h0 h1).alloc (Nat.le_trans h0.size h1.size) _) (Nat.le_trans h0.size h1.size) _⟩
    have hlt : w1.heap.size < ((w1.alloc (.cells zeros256 29)).setRow w1.heap.size tab).heap.size := by simp
    obtain ⟨b1, hb1⟩ : ∃ b1, b1 = w1.heap.size := ⟨_, rfl⟩
    rw [← hb1] at c1 HB hlt ⊢
    generalize (w1.alloc (.cells zeros256 29)).setRow b1 tab = W at *
    clear hz HW h0 h1 hb1 H1
    refine (H2.out _).mono ?_; rintro e w2 ⟨rfl, h2⟩
    have c2 : w2.cell? ⟨b1, x, none⟩ = some (.int .u32 ((tabv x : Nat) : Int)) := (h2.cell hlt).trans c1
    go_upto_region 6 with (fail)
    rw [show bits BinOp.xor IntKind.u32 (if IntKind.u32.signed = true then -1 else IntKind.u32.max) (u : Int) = (d : Int) from hn1]
    go_upto_region 7 with (fail)
    rw [show bits BinOp.xor IntKind.u32 (if IntKind.u32.signed = true then -1 else IntKind.u32.max) (y : Int) = (v : Int) from hn2]
    go_wp2_with fail
    refine (H3.out _).mono ?_; rintro e w3 ⟨rfl, h3⟩
    go_wp2_with fail
    refine (H4.out _).mono ?_; rintro e w4 ⟨rfl, h4⟩
    go_wp2_with fail
    go_ret
    refine ⟨rfl, ?_⟩
    have g1 := below_step HB.out h2
    exact below_step (below_step (g1.alloc (below_size g1) _) h3) h4
end Go.Proofs.Ytgflbllflekkeaa
