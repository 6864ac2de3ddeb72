/- The document's TakeInt, TakeText, Int and Text (layer 1): their contracts. -/
import Derived.Test.YtfcopeecgbgljaaRefTake2
import Derived.Test.YtfcopeecgbgljaaPackUse
namespace Go.Proofs.Ytfcopeecgbgljaa
open Go.RowKit Go.Proofs.YtfcopeecgbgljaaW.PrintWords Go.Proofs.YtfcopeecgbgljaaW.PrintLast Go.Proofs.YtfcopeecgbgljaaW.PrintMore Pk
set_option linter.unusedVariables false
set_option linter.unusedSimpArgs false

theorem ref_TakeInt (s : ByteArray) (hs : s.size ≤ 140737488355328) (w : World) :
    Calls Try.prog 53 #[.string s] w fun e w' => e = .returned (tiV (tk s.data.toList 0 0)) ∧ Below w.heap.size w w' := by
  have H := ref_TakeNum s hs
  cases hT : tk s.data.toList 0 0 with
  | none =>
    rw [hT] at H
    simp only [tnV] at H
    have H' := Hd.mk H
    clear H hT
    go_enter Try.func53, Try.ntmps53
    go_wp2_with fail
    refine (H'.out _).mono ?_; rintro e ws1 ⟨rfl, hs1⟩
    go_wp2_with fail
    go_ret3
    exact ⟨rfl, hs1⟩
  | some p =>
    obtain ⟨n, r⟩ := p
    have hbd := tk_bd _ _ _ _ _ (by decide) (by decide) hT
    rw [hT] at H
    simp only [tnV] at H
    have H' := Hd.mk H
    clear H hT
    have hw : wrap64 ((n : Int) / 2) = (n : Int) / 2 := by unfold wrap64; omega
    have hw2 : wrap64 (-((n : Int) / 2)) = -((n : Int) / 2) := by unfold wrap64; omega
    have hw3 : wrap64 (-((n : Int) / 2) - 1) = -((n : Int) / 2) - 1 := by unfold wrap64; omega
    by_cases hp : n % 2 = 0
    · have hpb : ((n : Int) % 2 == 1) = false := by simp; omega
      have hu : Hd (unzig n = (n : Int) / 2) := ⟨by unfold unzig; rw [if_pos hp]; omega⟩
      clear hp hw hw2 hw3
      have hn2 : (n : Int) ≤ 18446744073709551615 := by omega
      clear hbd
      go_enter Try.func53, Try.ntmps53
      go_wp2_with fail
      refine (H'.out _).mono ?_; rintro e ws2 ⟨rfl, hs2⟩
      go_wp2_with fail
      go_ret3
      exact ⟨by show _ = Ending.returned (Value.tuple #[.int .i64 (unzig n), .string ⟨r.toArray⟩, .int .i64 0]); rw [hu.out]; rfl, hs2⟩
    · have hpb : ((n : Int) % 2 == 1) = true := by simp; omega
      have hu : Hd (unzig n = -((n : Int) / 2) - 1) := ⟨by unfold unzig; rw [if_neg hp]; omega⟩
      clear hp hw hw2 hw3
      have hn2 : (n : Int) ≤ 18446744073709551615 := by omega
      clear hbd
      go_enter Try.func53, Try.ntmps53
      go_wp2_with fail
      refine (H'.out _).mono ?_; rintro e ws3 ⟨rfl, hs3⟩
      go_wp2_with fail
      go_ret3
      exact ⟨by show _ = Ending.returned (Value.tuple #[.int .i64 (unzig n), .string ⟨r.toArray⟩, .int .i64 0]); rw [hu.out]; rfl, hs3⟩

theorem ref_Int (n : Int) (h0 : -9223372036854775808 ≤ n) (h1 : n ≤ 9223372036854775807) (w : World) :
    Calls Try.prog 54 #[.int .i64 n] w fun e w' => e = .returned (.string (strOfNums (num (zig n)))) ∧ Below w.heap.size w w' := by
  have hl := zig_lt h0 h1
  have H := Hd.mk (fun w => ref_Num (zig n) ⟨hl⟩ w)
  by_cases hn : 0 ≤ n
  · have hz : Hd (((zig n : Nat) : Int) = 2 * n) := ⟨by unfold zig; rw [if_pos hn]; omega⟩
    clear hl
    go_enter Try.func54, Try.ntmps54
    go_wp2_with fail
    refine calls_of_args (congrArg (fun z => #[Value.int .u64 z]) (by have := hz.out; omega)) ((H.out _).mono ?_); rintro e w1 ⟨rfl, h1⟩
    go_wp2_with fail
    go_ret
    exact ⟨rfl, h1⟩
  · have hz : Hd (((zig n : Nat) : Int) = -2 * n - 1) := ⟨by unfold zig; rw [if_neg hn]; omega⟩
    clear hl
    go_enter Try.func54, Try.ntmps54
    go_wp2_with fail
    refine calls_of_args (congrArg (fun z => #[Value.int .u64 z]) (by have := hz.out; omega)) ((H.out _).mono ?_); rintro e w1 ⟨rfl, h1⟩
    go_wp2_with fail
    go_ret
    exact ⟨rfl, h1⟩
end Go.Proofs.Ytfcopeecgbgljaa
