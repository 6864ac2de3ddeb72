/- The stamps' functions, as the print tells them, in plain words (for one law's print). -/
import Derived.Test.YtfcopeecgbgljaaStampPlain
import Derived.Test.YtfcopeecgbgljaaPStampTellsx2
namespace Go.Proofs.Ytfcopeecgbgljaa.PureStampTells
open Go.RowKit Go.Proofs.Ytfcopeecgbgljaa.PStampTells Go.Proofs.YtfcopeecgbgljaaW.PrintWords Go.Proofs.YtfcopeecgbgljaaW.PrintLast Go.Proofs.YtfcopeecgbgljaaW.PrintMore St
set_option linter.unusedVariables false
set_option linter.unusedSimpArgs false

theorem or_two (k : Nat) (x y : Int) : cmp_Or_int.f (k + 3) [x, y] = some (if x = 0 then y else x) := by
  unfold cmp_Or_int.f
  have r0 : rd [x, y] 0 = x := rfl
  have r1 : rd [x, y] 1 = y := rfl
  have w0 : wrap64 (0 + 1) = 1 := by unfold wrap64; omega
  have w1 : wrap64 (1 + 1) = 2 := by unfold wrap64; omega
  simp only [cmp_Or_int.l0, List.length_cons, List.length_nil, r0]
  rw [if_pos (by decide), if_pos (by decide), if_pos (by decide)]
  by_cases hx : x = 0
  · rw [if_pos hx, if_pos hx, w0, if_pos (by decide), if_pos (by decide), if_pos (by decide), r1]
    by_cases hy : y = 0
    · rw [if_pos hy, w1, if_neg (by decide), hy]
    · rw [if_neg hy]
  · rw [if_neg hx, if_neg hx]

theorem comp64 (a b : Int) : cmp_Compare_int64.f a b = some (if a < b then -1 else if a > b then 1 else 0) := by
  unfold cmp_Compare_int64.f cmp_isNaN_int64.f
  simp only [Option.bind_some, bne_self_eq_false, Bool.false_eq_true, if_false]
  split
  · rfl
  · split <;> rfl
theorem comp (a b : Int) : cmp_Compare_int.f a b = some (if a < b then -1 else if a > b then 1 else 0) := by
  unfold cmp_Compare_int.f cmp_isNaN_int.f
  simp only [Option.bind_some, bne_self_eq_false, Bool.false_eq_true, if_false]
  split
  · rfl
  · split <;> rfl
theorem comp_f (k : Nat) (a b c d : Int) : stamp_Compare.f (k + 3) a b c d = some (cmpS a b c d) := by
  unfold stamp_Compare.f
  rw [comp64, comp]
  simp only [Option.bind_some]
  rw [or_two]
  simp only [Option.bind_some]
  congr 1
  unfold cmpS
  repeat' split
  all_goals omega
theorem rep_f (n : Int) : stamp_rep.f n = some (decide (0 ≤ n ∧ n < 8)) := by
  unfold stamp_rep.f
  by_cases h : n ≥ 0
  · rw [if_pos h]; congr 1; simp; omega
  · rw [if_neg h]; congr 1; simp; omega
theorem next_f (k : Nat) (t n : Int) : stamp_Next.f (k + 1) t n = some (if 0 ≤ n ∧ n < 8 ∧ 0 ≤ t then (if t ≥ 1073741824 then (0, 0, 14) else (wrap64 (t + 1), n, 0)) else (0, 0, 1)) := by
  unfold stamp_Next.f
  rw [rep_f]
  simp only [Option.bind_some]
  by_cases h : 0 ≤ n ∧ n < 8
  · rw [decide_eq_true h]
    simp only [if_true, stamp_Next.j0]
    by_cases ht : t < 0
    · rw [decide_eq_true ht, if_neg (show ¬ (0 ≤ n ∧ n < 8 ∧ 0 ≤ t) by omega)]; rfl
    · rw [decide_eq_false ht, if_pos (show 0 ≤ n ∧ n < 8 ∧ 0 ≤ t by omega)]
      by_cases h2 : t ≥ 1073741824
      · rw [if_pos h2]; simp [h2]
      · rw [if_neg h2]; simp [h2]
  · rw [decide_eq_false h, if_neg (show ¬ (0 ≤ n ∧ n < 8 ∧ 0 ≤ t) by omega)]
    simp [stamp_Next.j0]

theorem shown_f (k : Nat) : thimblelaw03_shown.f (k + 3) = some true := by
  unfold thimblelaw03_shown.f
  rw [next_f]
  rw [if_pos (by decide), if_neg (by decide), show wrap64 (4 + 1) = 5 from by unfold wrap64; omega]
  simp only [Option.bind_some, if_true]
  rw [comp_f]
  decide
end Go.Proofs.Ytfcopeecgbgljaa.PureStampTells
