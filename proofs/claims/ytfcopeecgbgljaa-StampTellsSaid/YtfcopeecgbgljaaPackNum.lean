/- pack.Num and pack.Int tell the bytes of a number: their contracts. -/
import Derived.Test.YtfcopeecgbgljaaBase
import Derived.Test.YtfcopeecgbgljaaPackPlain
namespace Go.Proofs.Ytfcopeecgbgljaa
open Go.RowKit Go.Proofs.YtfcopeecgbgljaaW.PrintWords Go.Proofs.YtfcopeecgbgljaaW.PrintLast Go.Proofs.YtfcopeecgbgljaaW.PrintMore Pk
set_option linter.unusedVariables false
set_option linter.unusedSimpArgs false

theorem num_pos (n : Nat) : 0 < (num n).length := by rw [num]; split <;> simp

set_option maxHeartbeats 1000000 in
theorem pack_Num (n : Nat) (hn : Hd (n < 18446744073709551616)) (w : World) :
    Calls Try.prog 59 #[.int .u64 (n : Int)] w fun e w' => e = .returned (.string (strOfNums (num n))) ∧ Below w.heap.size w w' := by
  have HB0 := Hd.mk (Below.refl w.heap.size w)
  go_enter Try.func59, Try.ntmps59
  go_wp2
  go_loopg [0, 3] (num n).length (fun kq v0 v3 w' => ∃ (m : Nat) (xs : List Int), v0 = .int .u64 (m : Int) ∧ Hd (m < 18446744073709551616) ∧ Hd (xs ++ num m = num n) ∧ Hd ((num m).length = kq) ∧ Hd (Kd.R (Kd.int .u8) 5 w' w.heap.size (fun _ => True) v3 xs) ∧ Hd (Below w.heap.size w w'))
  case atStart => exact ⟨n, [], rfl, hn, ⟨rfl⟩, ⟨rfl⟩, ⟨Kd.R_nil _ _ _ _ _⟩, HB0⟩
  case round =>
    clear HB0
    obtain ⟨m, xs, rfl, Hm, HX, HK, HO, HB⟩ := hrel
    have hlen : Hd (xs.length + (num m).length ≤ 10) := ⟨by have h1 := congrArg List.length HX.out; rw [List.length_append] at h1; have := (num_len10 hn.out).2; omega⟩
    by_cases c : m < 128
    · have cb : decide ((128 : Int) ≤ (m : Int)) = false := by simp; omega
      go_wp2_with (first | ((with_reducible refine gate_builtin (b := .append) (xs := #[.tmp 14, .tmp 17]) rfl ?_); at_builtin; refine Kd.R_append (Kd.int .u8) (w0 := w) w.heap.size rfl (.tmp 14) (.tmp 17) 90 5 (.int .u8 0) 1 rfl Try.underlying90 info_u8 rfl (by decide) (by omega) u3 xs ((m : Int)) [.int .u8 ((m : Int))] (fun _ => True) (fun _ => False) rfl rfl ?aP (fun _ hk => hk.elim) ?aF ?aO ?aB ?aS ?aL ?_; (case aP => exact rfl); (case aB => exact (by repeat (first | (with_reducible first | exact HB.out | apply below_alloc | apply pw_below_drewN | apply below_drew1) | exact HB.out))); (case aF => exact (fun _ _ => trivial)); (case aO => exact (by (with_reducible repeat (first | apply Kd.R_alloc | apply Kd.R_drewN | apply Kd.R_drew)); exact HO.out)); (case aS => exact (below_size (by repeat (first | (with_reducible first | exact HB.out | apply below_alloc | apply pw_below_drewN | apply below_drew1) | exact HB.out)))); (case aL => have := hlen.out; omega); intro v105 w6 ho hb hg hat; have HB2 := Hd.mk hb; have HO2 := Hd.mk ho; clear HB HO; clear ho hb hg hat; have hcv7 := own_string (P := Try.prog) Try.underlying90 Try.underlying5 Try.underlying9 (Kd.own_of_R HO2.out)))
      go_ret
      refine ⟨?_, HB2.out⟩
      have e : xs ++ [(m : Int)] = num n := by rw [← HX.out, num_small c]
      rw [e]; rfl
    · have cb : decide ((128 : Int) ≤ (m : Int)) = true := by simp; omega
      have hl := num_pos (m / 128)
      go_wp2_with (first | ((with_reducible refine gate_builtin (b := .append) (xs := #[.tmp 8, .tmp 12]) rfl ?_); at_builtin; refine Kd.R_append (Kd.int .u8) (w0 := w) w.heap.size rfl (.tmp 8) (.tmp 12) 90 5 (.int .u8 0) 1 rfl Try.underlying90 info_u8 rfl (by decide) (by omega) u3 xs (Go.bits .or .u8 ((m : Int) % 256) 128) [.int .u8 (Go.bits .or .u8 ((m : Int) % 256) 128)] (fun _ => True) (fun _ => False) rfl rfl ?aP (fun _ hk => hk.elim) ?aF ?aO ?aB ?aS ?aL ?_; (case aP => exact rfl); (case aB => exact (by repeat (first | (with_reducible first | exact HB.out | apply below_alloc | apply pw_below_drewN | apply below_drew1) | exact HB.out))); (case aF => exact (fun _ _ => trivial)); (case aO => exact (by (with_reducible repeat (first | apply Kd.R_alloc | apply Kd.R_drewN | apply Kd.R_drew)); exact HO.out)); (case aS => exact (below_size (by repeat (first | (with_reducible first | exact HB.out | apply below_alloc | apply pw_below_drewN | apply below_drew1) | exact HB.out)))); (case aL => have := hlen.out; omega); intro v105 w6 ho hb hg hat; have HB2 := Hd.mk hb; have HO2 := Hd.mk ho; clear HB HO; clear ho hb hg hat))
      go_roundg (num (m / 128)).length
      case measure => have := HK.out; rw [num_big c] at this; simp only [List.length_cons] at this; omega
      case rel => exact ⟨m / 128, xs ++ [Go.bits .or .u8 ((m : Int) % 256) 128], by congr 1, ⟨by have := Hm.out; omega⟩, ⟨by rw [← HX.out, num_big c, or128 (by omega) (by omega), show ((m : Int) % 256 % 128 + 128) = ((m % 128 + 128 : Nat) : Int) from by omega]; simp⟩, ⟨rfl⟩, HO2, HB2⟩

theorem pack_Int (n : Int) (h0 : -9223372036854775808 ≤ n) (h1 : n ≤ 9223372036854775807) (w : World) :
    Calls Try.prog 52 #[.int .i64 n] w fun e w' => e = .returned (.string (strOfNums (num (zig n)))) ∧ Below w.heap.size w w' := by
  have hz := Hd.mk (zig_bits h0 h1)
  have hl := Hd.mk (zig_lt h0 h1)
  clear h0 h1
  go_enter Try.func52, Try.ntmps52
  go_wp2_with (go_at_call 59; rw [hz.out]; refine (pack_Num _ ⟨hl.out⟩ _).mono ?_; rintro e w1 ⟨rfl, hb⟩)
  go_ret
  exact ⟨rfl, hb⟩
end Go.Proofs.Ytfcopeecgbgljaa
