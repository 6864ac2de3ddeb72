/- The law of sizes of packed numbers, walked: it returns true, whatever comes in. -/
import Derived.Test.YtgflbllflekkeaaPackEnds
namespace Go.Proofs.Ytgflbllflekkeaa
open Go.RowKit Go.Proofs.YtgflbllflekkeaaW.PrintWords Go.Proofs.YtgflbllflekkeaaW.PrintLast Go.Proofs.YtgflbllflekkeaaW.PrintMore Pk
set_option linter.unusedVariables false
set_option linter.unusedSimpArgs false

theorem num_even (x : Nat) : (num (2 * x)).length = (num (2 * x + 1)).length := by
  induction x using Nat.strongRecOn with
  | _ x ih =>
    by_cases hx : 2 * x < 128
    · rw [num_small hx, num_small (show 2 * x + 1 < 128 by omega)]; rfl
    · rw [num_big hx, num_big (show ¬ 2 * x + 1 < 128 by omega)]
      have e : (2 * x + 1) / 128 = 2 * x / 128 := by omega
      rw [e]; rfl

set_option maxRecDepth 100000 in
theorem law_PackSizes' (n k : Nat) (hn : n < 18446744073709551616) (hk : k < 256) (w : World) :
    Calls Try.prog 3 #[.int .u64 (n : Int), .int .u8 (k : Int)] w fun e w' => e = .returned (.bool true) ∧ Below w.heap.size w w' := by
  have H0 := Hd.mk shown1
  have H1 := Hd.mk (pack_Num n ⟨hn⟩)
  have E2 := pack_Num (n / 128) ⟨by omega⟩
  have e2 : ((n / 128 : Nat) : Int) = (n : Int) / 128 := by omega
  rw [e2] at E2
  have H2 := Hd.mk E2
  have E3 := pack_Int ((n / 2 : Nat) : Int) (by omega) (by omega)
  have E4 := pack_Int (-((n / 2 : Nat) : Int) - 1) (by omega) (by omega)
  have z1 : zig ((n / 2 : Nat) : Int) = 2 * (n / 2) := by unfold zig; rw [if_pos (by omega)]; omega
  have z2 : zig (-((n / 2 : Nat) : Int) - 1) = 2 * (n / 2) + 1 := by unfold zig; rw [if_neg (by omega)]; omega
  rw [z1] at E3
  rw [z2] at E4
  have H3 := Hd.mk E3
  have H4 := Hd.mk E4
  have H5 := Hd.mk (pack_Num k ⟨by omega⟩)
  have s34 : (strOfNums (num (2 * (n / 2)))).size = (strOfNums (num (2 * (n / 2) + 1))).size := by rw [strOfNums_size, strOfNums_size, num_even]
  have s5 : (strOfNums (num k)).size = 1 + k / 128 := by
    rw [strOfNums_size]
    by_cases h : k < 128
    · rw [num_small h]; simp; omega
    · rw [num_big h, num_small (by omega)]; simp; omega
  have sB : 1 ≤ (strOfNums (num (n / 128))).size ∧ (strOfNums (num (n / 128))).size ≤ 10 := by rw [strOfNums_size]; exact num_len10 (by omega)
  have sA : (n < 128 → (strOfNums (num n)).size = 1) ∧ (¬ n < 128 → (strOfNums (num n)).size = (strOfNums (num (n / 128))).size + 1) := by
    constructor
    · intro h; rw [num_small h]; rfl
    · intro h; rw [num_big h, strOfNums_size, strOfNums_size]; rfl
  have hk2 : k < 256 := hk
  have hn2 : (n : Int) ≤ 18446744073709551615 := by omega
  clear E2 E3 E4 e2 z1 z2 hn
  generalize strOfNums (num n) = a at *
  generalize strOfNums (num (n / 128)) = b at *
  generalize strOfNums (num (2 * (n / 2))) = c at *
  generalize strOfNums (num (2 * (n / 2) + 1)) = d at *
  generalize strOfNums (num k) = f at *
  by_cases h : n < 128
  · have ha := sA.1 h
    clear sA
    go_enter Try.func3, Try.ntmps3
    go_wp2_with fail
    refine (H0.out _).mono ?_; rintro e ws1 ⟨rfl, hs1⟩
    go_wp2_with fail
    refine (H1.out _).mono ?_; rintro e ws2 ⟨rfl, hs2⟩
    go_wp2_with fail
    refine (H2.out _).mono ?_; rintro e ws3 ⟨rfl, hs3⟩
    go_wp2_with fail
    refine calls_of_args (congrArg (fun z => #[Value.int .i64 z]) (by first | rfl | (unfold wrap64; omega) | omega)) ((H3.out _).mono ?_); rintro e ws4 ⟨rfl, hs4⟩
    go_wp2_with fail
    refine calls_of_args (congrArg (fun z => #[Value.int .i64 z]) (by first | rfl | (unfold wrap64; omega) | omega)) ((H4.out _).mono ?_); rintro e ws5 ⟨rfl, hs5⟩
    go_wp2_with fail
    refine (H5.out _).mono ?_; rintro e ws6 ⟨rfl, hs6⟩
    go_wp2_with fail
    go_ret
    exact ⟨rfl, (below_step (below_step (below_step (below_step (below_step hs1 hs2) hs3) hs4) hs5) hs6)⟩
  · have ha := sA.2 h
    clear sA
    have hd : decide ((n : Int) < 128) = false := by simp; omega
    have hb1 : (((b.size : Int) + 1) == 1) = false := by simp; omega
    go_enter Try.func3, Try.ntmps3
    go_wp2_with fail
    refine (H0.out _).mono ?_; rintro e ws7 ⟨rfl, hs7⟩
    go_wp2_with fail
    refine (H1.out _).mono ?_; rintro e ws8 ⟨rfl, hs8⟩
    go_wp2_with fail
    refine (H2.out _).mono ?_; rintro e ws9 ⟨rfl, hs9⟩
    go_wp2_with fail
    refine calls_of_args (congrArg (fun z => #[Value.int .i64 z]) (by first | rfl | (unfold wrap64; omega) | omega)) ((H3.out _).mono ?_); rintro e ws10 ⟨rfl, hs10⟩
    go_wp2_with fail
    refine calls_of_args (congrArg (fun z => #[Value.int .i64 z]) (by first | rfl | (unfold wrap64; omega) | omega)) ((H4.out _).mono ?_); rintro e ws11 ⟨rfl, hs11⟩
    go_wp2_with fail
    refine (H5.out _).mono ?_; rintro e ws12 ⟨rfl, hs12⟩
    go_wp2_with fail
    go_ret
    exact ⟨rfl, (below_step (below_step (below_step (below_step (below_step hs7 hs8) hs9) hs10) hs11) hs12)⟩
end Go.Proofs.Ytgflbllflekkeaa
namespace Go.Proofs.Ytgflbllflekkeaa.packSizes
open Go.RowKit Go.Proofs.YtgflbllflekkeaaW.PrintWords Go.Proofs.YtgflbllflekkeaaW.PrintLast Go.Proofs.YtgflbllflekkeaaW.PrintMore
theorem law_PackSizes (n : Int) (hn : (Lit.int .u64 n).wf = true) (k : Int) (hk : (Lit.int .u8 k).wf = true) (w : World) :
    Calls Try.prog 3 #[.int .u64 n, .int .u8 k] w fun e w' => e = .returned (.bool true) ∧ Below w.heap.size w w' := by
  obtain ⟨m, rfl, hm⟩ := u64_of hn
  obtain ⟨j, rfl, hj⟩ := u8_of hk
  exact law_PackSizes' m j hm hj w
end Go.Proofs.Ytgflbllflekkeaa.packSizes
