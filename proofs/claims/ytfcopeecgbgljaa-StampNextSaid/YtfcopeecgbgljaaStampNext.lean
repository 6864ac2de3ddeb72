/- The next stamp of a time may be, is above each that may be, and is of that time or below: the law returns true, whatever comes in. -/
import Derived.Test.YtfcopeecgbgljaaStampPureStampNext
import Derived.Test.YtfcopeecgbgljaaPStampNextx3
import Derived.Test.YtfcopeecgbgljaaStampOpen
namespace Go.Proofs.Ytfcopeecgbgljaa.stampNext
open Go.RowKit Go.Proofs.Ytfcopeecgbgljaa.PStampNext Go.Proofs.YtfcopeecgbgljaaW.PrintWords Go.Proofs.YtfcopeecgbgljaaW.PrintLast Go.Proofs.YtfcopeecgbgljaaW.PrintMore St PureStampNext
set_option linter.unusedVariables false

theorem may_f (t r : Int) : stamp_May.f t r = some (decide ((t = 0 ∧ r = 0) ∨ (1 ≤ t ∧ t ≤ 1073741824 ∧ 0 ≤ r ∧ r < 8))) := by
  unfold stamp_May.f
  by_cases h0 : t = 0 ∧ r = 0
  · rw [if_pos (by simp [h0.1, h0.2]), decide_eq_true (Or.inl h0)]
  · rw [if_neg (by simp; omega)]
    by_cases h1 : t ≥ 1
    · rw [if_pos h1]
      by_cases h2 : t ≤ 1073741824
      · rw [if_pos h2, rep_f]
        simp only [Option.bind_some]
        congr 1
        rw [decide_eq_decide]; omega
      · rw [if_neg h2, decide_eq_false (by omega)]
    · rw [if_neg h1, decide_eq_false (by omega)]

theorem pure (a0 a1 t r : Int) : thimblelaw03_StampNext.f 3 a0 a1 t r = some true := by
  unfold thimblelaw03_StampNext.f
  rw [shown_f 0, next_f 2]
  simp only [Option.bind_some, if_true]
  by_cases h : 0 ≤ a1 ∧ a1 < 8 ∧ 0 ≤ a0
  · rw [if_pos h]
    by_cases h2 : a0 ≥ 1073741824
    · rw [if_pos h2]; simp
    · rw [if_neg h2]
      have hw : wrap64 (a0 + 1) = a0 + 1 := by unfold wrap64; omega
      simp only [hw, if_true]
      rw [may_f, may_f, decide_eq_true (by omega)]
      simp only [Option.bind_some, if_true]
      by_cases hm : (t = 0 ∧ r = 0) ∨ (1 ≤ t ∧ t ≤ 1073741824 ∧ 0 ≤ r ∧ r < 8)
      · rw [decide_eq_true hm, if_pos rfl]
        by_cases ht : t > a0
        · rw [if_pos ht]
        · rw [if_neg ht, comp_f 0]
          simp only [Option.bind_some]
          have : cmpS (a0 + 1) a1 t r = 1 := by unfold cmpS; rw [if_neg (by omega), if_pos (by omega)]
          rw [this]; rfl
      · rw [decide_eq_false hm, if_neg (by decide)]
  · rw [if_neg h]; simp

theorem law_StampNext (a0 : Int) (h0 : (Lit.int .i64 a0).wf = true) (a1 : Int) (h1 : (Lit.int .i64 a1).wf = true) {v : Value} {t r : Int} (hv : IsStamp v t r) (w : World) :
    Calls Try.prog 7 #[.int .i64 a0, .int .i64 a1, v] w fun e w' => e = .returned (.bool true) ∧ Below w.heap.size w w' := by
  obtain ⟨rfl, _, _⟩ := hv
  exact thimblelaw03_StampNext.calls 3 a0 a1 t r true w (pure a0 a1 t r)
end Go.Proofs.Ytfcopeecgbgljaa.stampNext
