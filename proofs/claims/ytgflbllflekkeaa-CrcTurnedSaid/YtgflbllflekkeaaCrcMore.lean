/- crc.More and crc.Of: their contracts. -/
import Derived.Test.YtgflbllflekkeaaCrcTable
namespace Go.Proofs.Ytgflbllflekkeaa
open Go.RowKit Go.Proofs.YtgflbllflekkeaaW.PrintWords Go.Proofs.YtgflbllflekkeaaW.PrintLast Go.Proofs.YtgflbllflekkeaaW.PrintMore Cr
set_option linter.unusedVariables false
set_option linter.unusedSimpArgs false

set_option maxHeartbeats 1000000 in
set_option maxRecDepth 100000 in
theorem crc_More (c : Nat) (hc : Hd (c < 4294967296)) (s : ByteArray) (hs : s.size ≤ 140737488355328) (w : World) :
    Calls Try.prog 19 #[.int .u32 (c : Int), .string s] w fun e w' => e = .returned (.int .u32 ((4294967295 - mor s.data.toList (4294967295 - c) : Nat) : Int)) ∧ Below w.heap.size w w' := by
  have hz : ∀ w, (zeroValue 29).run Try.prog w = .ok (.agg zeros256) w := fun w => by kernel_rfl
  have H0 := Hd.mk crc_Table
  go_enter Try.func19, Try.ntmps19
  go_wp2_with fail
  refine (H0.out _).mono ?_; rintro e w1 ⟨rfl, h1⟩
  have HW := Hd.mk (heap_alloc_new w1 (.cells zeros256 29))
  go_wp2_with (first | ((with_reducible refine gate_store (t := 29) rfl ?_); refine wpList_store_row rfl _ _ _ rfl w1.heap.size tab rfl rfl 29 zeros256 HW.out (by rw [tab_size]; exact size_tab) zeros_tab tab_one ?_))
  have HP : Hd (((w1.alloc (.cells zeros256 29)).setRow w1.heap.size tab).heap[w1.heap.size]? = some (.cells tab 29 (0, 0))) := ⟨setRow_heap _ _ _ _ _ _ HW.out⟩
  have HB0 : Hd (Below w.heap.size w ((w1.alloc (.cells zeros256 29)).setRow w1.heap.size tab)) := ⟨below_setRow (h1.alloc h1.size _) h1.size _⟩
  clear hz HW h1
  go_loopg [0, 6, 12] s.size (fun kq v0 v6 v12 w' => ∃ (k d : Nat), k ≤ s.size ∧ v12 = .int .i64 (k : Int) ∧ v0 = .int .u32 (d : Int) ∧ Hd (d < 4294967296) ∧ Hd (kq + k = s.size) ∧ Hd (mor (s.data.toList.drop k) d = mor s.data.toList (4294967295 - c)) ∧ Hd (Below w.heap.size w w') ∧ Hd (w'.heap[w1.heap.size]? = some (.cells tab 29 (0, 0))))
  case atStart => exact ⟨0, 4294967295 - c, by omega, rfl, by rw [not32 hc.out], ⟨by omega⟩, ⟨by omega⟩, ⟨rfl⟩, HB0, HP⟩
  case round =>
    clear HB0 HP
    obtain ⟨k, d, hk, rfl, rfl, HD, HK, HM, HB, HP⟩ := hrel
    by_cases hlt : k < s.size
    · obtain ⟨b, t, hct⟩ : ∃ (c : UInt8) (t : List UInt8), s.data.toList.drop k = c :: t := by
        have : k < s.data.toList.length := by simpa using hlt
        exact ⟨_, _, List.drop_eq_getElem_cons this⟩
      have hcs : s[k] = b := by
        have h1 : k < s.data.toList.length := by simpa using hlt
        rw [List.drop_eq_getElem_cons h1] at hct
        exact (List.cons.inj hct).1
      have HC := Hd.mk hct
      have hd := Hd.mk (Pk.drop_next hct)
      clear hct
      have hx8 := byte_xor d b
      have hx1 : bits .xor .u8 ((d : Int) % 256) ((b.toNat : Nat) : Int) = ((d % 256 ^^^ b.toNat : Nat) : Int) := by
        have := xor8 (d % 256) b.toNat (by omega) b.toNat_lt
        rw [← this]; congr 1
      have hx2 := xor32 _ (d / 256) (tabv_lt hx8) (by have := HD.out; omega)
      have HN : Hd (tabv (d % 256 ^^^ b.toNat) ^^^ d / 256 < 4294967296) := ⟨mor_step_lt HD.out b⟩
      have HM2 : Hd (mor (s.data.toList.drop k) d = mor t (tabv (d % 256 ^^^ b.toNat) ^^^ d / 256)) := ⟨by rw [HC.out]; rfl⟩
      have e2 : ((d / 256 : Nat) : Int) = (d : Int) / 256 := by omega
      rw [e2] at hx2
      generalize d % 256 ^^^ b.toNat = x at *
      have hcell : wr.cell? ⟨w1.heap.size, x, none⟩ = some (.int .u32 ((tabv x : Nat) : Int)) := by rw [cell_of_row wr _ x _ _ _ HP.out, tab_at x hx8]
      generalize tabv x ^^^ d / 256 = y at *
      clear e2
      go_wp2_with fail
      go_roundg (gk - 1)
      case measure => have := HK.out; omega
      case rel => exact ⟨k + 1, y, by omega, by first | rfl | congr 1, by first | rfl | congr 1, HN, ⟨by have := HK.out; omega⟩, ⟨by rw [hd.out, ← HM2.out, HM.out]⟩, HB, HP⟩
    · have HV : Hd (d = mor s.data.toList (4294967295 - c)) := ⟨by rw [← HM.out, List.drop_eq_nil_of_le (by simp; omega)]; rfl⟩
      have hn := not32 HD.out
      go_wp2_with fail
      go_ret
      exact ⟨by rw [← HV.out]; rfl, HB.out⟩

theorem crc_Of (s : ByteArray) (hs : s.size ≤ 140737488355328) (w : World) :
    Calls Try.prog 17 #[.string s] w fun e w' => e = .returned (.int .u32 ((4294967295 - mor s.data.toList 4294967295 : Nat) : Int)) ∧ Below w.heap.size w w' := by
  have H0 := Hd.mk (crc_More 0 ⟨by decide⟩ s hs)
  go_enter Try.func17, Try.ntmps17
  go_wp2_with fail
  refine (H0.out _).mono ?_; rintro e w1 ⟨rfl, h1⟩
  go_wp2_with fail
  go_ret
  exact ⟨rfl, h1⟩
end Go.Proofs.Ytgflbllflekkeaa
