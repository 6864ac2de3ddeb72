/- pack's contracts as its callers use them: what was packed, with something behind it. -/
import Derived.Test.YtfcopeecgbgljaaPackText
import Derived.Test.YtfcopeecgbgljaaPackLaw
namespace Go.Proofs.Ytfcopeecgbgljaa
open Go.RowKit Go.Proofs.YtfcopeecgbgljaaW.PrintWords Go.Proofs.YtfcopeecgbgljaaW.PrintLast Go.Proofs.YtfcopeecgbgljaaW.PrintMore Pk
set_option linter.unusedVariables false
set_option linter.unusedSimpArgs false

theorem num_size {n : Nat} (h : n < 18446744073709551616) : (strOfNums (num n)).size ≤ 10 := by rw [strOfNums_size]; exact (num_len10 h).2
theorem size_app (a b : ByteArray) : (a ++ b).size = a.size + b.size := ByteArray.size_append

theorem take_num (n : Nat) (hn : n < 18446744073709551616) (s : ByteArray) (hs : s.size ≤ 9223372036854775000) (w : World) :
    Calls Try.prog 58 #[.string (strOfNums (num n) ++ s)] w fun e w' => e = .returned (.tuple #[.int .u64 (n : Int), .string s, .int .i64 0]) ∧ Below w.heap.size w w' := by
  have h := pack_TakeNum (strOfNums (num n) ++ s) (by rw [size_app]; have := num_size hn; unfold maxLen; omega) w
  rw [num_list, tk_back hn] at h
  exact h

theorem take_int (n : Int) (h0 : -9223372036854775808 ≤ n) (h1 : n ≤ 9223372036854775807) (s : ByteArray) (hs : s.size ≤ 9223372036854775000) (w : World) :
    Calls Try.prog 51 #[.string (strOfNums (num (zig n)) ++ s)] w fun e w' => e = .returned (.tuple #[.int .i64 n, .string s, .int .i64 0]) ∧ Below w.heap.size w w' := by
  have hz := zig_lt h0 h1
  have h := pack_TakeInt (strOfNums (num (zig n)) ++ s) (by rw [size_app]; have := num_size hz; unfold maxLen; omega) w
  rw [num_list, tk_back hz] at h
  simp only [tiV, unzig_zig] at h
  exact h

end Go.Proofs.Ytfcopeecgbgljaa
