/- Plain law of stamps: which of two is first, and the greatest of some. -/
import Derived.RowKit
namespace Go.Proofs.Ytfcopeecgbgljaa.St
set_option linter.unusedVariables false

/-- Which of two is first: by time, then by replica. -/
def cmpS (a b c d : Int) : Int := if a < c then -1 else if a > c then 1 else if b < d then -1 else if b > d then 1 else 0

theorem cmpS_neg (a b c d : Int) : cmpS a b c d = -cmpS c d a b := by
  unfold cmpS
  repeat' split
  all_goals omega
theorem cmpS_zero (a b c d : Int) : cmpS a b c d = 0 ↔ a = c ∧ b = d := by
  unfold cmpS
  repeat' split
  all_goals omega
theorem cmpS_le (a b c d : Int) : cmpS a b c d ≤ 0 ↔ a < c ∨ (a = c ∧ b ≤ d) := by
  unfold cmpS
  repeat' split
  all_goals omega
theorem cmpS_lt (a b c d : Int) : cmpS a b c d < 0 ↔ a < c ∨ (a = c ∧ b < d) := by
  unfold cmpS
  repeat' split
  all_goals omega
theorem cmpS_bd (a b c d : Int) : -1 ≤ cmpS a b c d ∧ cmpS a b c d ≤ 1 := by
  unfold cmpS
  repeat' split
  all_goals omega
theorem cmpS_trans {a b c d e f : Int} (h : cmpS a b c d ≤ 0) (k : cmpS c d e f ≤ 0) : cmpS a b e f ≤ 0 := by
  rw [cmpS_le] at *; omega
theorem cmpS_trans' {a b c d e f : Int} (h : cmpS a b c d < 0) (k : cmpS c d e f < 0) : cmpS a b e f < 0 := by
  rw [cmpS_lt] at *; omega

end Go.Proofs.Ytfcopeecgbgljaa.St
