/- pack's contracts as its callers use them: what was packed, with something behind it. -/
import Derived.Test.YtgflbllflekkeaaPackText
import Derived.Test.YtgflbllflekkeaaPackLaw
namespace Go.Proofs.Ytgflbllflekkeaa
open Go.RowKit Go.Proofs.YtgflbllflekkeaaW.PrintWords Go.Proofs.YtgflbllflekkeaaW.PrintLast Go.Proofs.YtgflbllflekkeaaW.PrintMore Pk
set_option linter.unusedVariables false
set_option linter.unusedSimpArgs false

theorem num_size {n : Nat} (h : n < 18446744073709551616) : (strOfNums (num n)).size ≤ 10 := by rw [strOfNums_size]; exact (num_len10 h).2
theorem size_app (a b : ByteArray) : (a ++ b).size = a.size + b.size := ByteArray.size_append

theorem take_num (n : Nat) (hn : n < 18446744073709551616) (s : ByteArray) (hs : s.size ≤ 9223372036854775000) (w : World) :
    Calls Try.prog 22 #[.string (strOfNums (num n) ++ s)] w fun e w' => e = .returned (.tuple #[.int .u64 (n : Int), .string s, .int .i64 0]) ∧ Below w.heap.size w w' := by
  have h := pack_TakeNum (strOfNums (num n) ++ s) (by rw [size_app]; have := num_size hn; unfold maxLen; omega) w
  rw [num_list, tk_back hn] at h
  exact h

theorem take_int (n : Int) (h0 : -9223372036854775808 ≤ n) (h1 : n ≤ 9223372036854775807) (s : ByteArray) (hs : s.size ≤ 9223372036854775000) (w : World) :
    Calls Try.prog 24 #[.string (strOfNums (num (zig n)) ++ s)] w fun e w' => e = .returned (.tuple #[.int .i64 n, .string s, .int .i64 0]) ∧ Below w.heap.size w w' := by
  have hz := zig_lt h0 h1
  have h := pack_TakeInt (strOfNums (num (zig n)) ++ s) (by rw [size_app]; have := num_size hz; unfold maxLen; omega) w
  rw [num_list, tk_back hz] at h
  simp only [tiV, unzig_zig] at h
  exact h

theorem take_text (t s : ByteArray) (ht : t.size ≤ 10000000) (hs : s.size ≤ 10000000) (most : Int) (h0 : (t.size : Int) ≤ most) (h1 : most ≤ 9223372036854775807) (w : World) :
    Calls Try.prog 26 #[.string (strOfNums (num t.size) ++ t ++ s), .int .i64 most] w fun e w' => e = .returned (.tuple #[.string t, .string s, .int .i64 0]) ∧ Below w.heap.size w w' := by
  have hn : t.size < 18446744073709551616 := by omega
  have h := pack_TakeText (strOfNums (num t.size) ++ t ++ s) (by rw [size_app, size_app]; have := num_size hn; omega) most (by omega) h1 w
  have e : (strOfNums (num t.size) ++ t ++ s).data.toList = numB t.size ++ (t.data.toList ++ s.data.toList) := by
    rw [append_list, append_list, numB_str]; simp
  rw [e, tk_back hn] at h
  have e2 : tx most (some (t.size, t.data.toList ++ s.data.toList)) = some (t.data.toList, s.data.toList) := by
    show (if _ then _ else _) = _
    have hl : t.data.toList.length = t.size := rfl
    rw [if_neg (by rw [List.length_append]; omega)]
    rw [← hl, List.take_left, List.drop_left]
  rw [e2] at h
  exact h

theorem take_text_short (t s : ByteArray) (ht : t.size ≤ 10000000) (hs : s.size ≤ 10000000) (most : Int) (h0 : most < (t.size : Int)) (h1 : -9223372036854775808 ≤ most) (w : World) :
    Calls Try.prog 26 #[.string (strOfNums (num t.size) ++ t ++ s), .int .i64 most] w fun e w' => e = .returned (.tuple #[.string ⟨#[]⟩, .string ⟨#[]⟩, .int .i64 2]) ∧ Below w.heap.size w w' := by
  have hn : t.size < 18446744073709551616 := by omega
  have h := pack_TakeText (strOfNums (num t.size) ++ t ++ s) (by rw [size_app, size_app]; have := num_size hn; omega) most h1 (by omega) w
  have e : (strOfNums (num t.size) ++ t ++ s).data.toList = numB t.size ++ (t.data.toList ++ s.data.toList) := by
    rw [append_list, append_list, numB_str]; simp
  rw [e, tk_back hn] at h
  have e2 : tx most (some (t.size, t.data.toList ++ s.data.toList)) = none := by
    show (if _ then _ else _) = _
    rw [if_pos (by omega)]
  rw [e2] at h
  exact h
end Go.Proofs.Ytgflbllflekkeaa
