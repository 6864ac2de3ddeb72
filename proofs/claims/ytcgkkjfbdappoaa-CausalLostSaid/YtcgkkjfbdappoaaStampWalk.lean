/- stamp.May, stamp.Put and stamp.Take, and the document's: their contracts. -/
import Derived.Test.YtcgkkjfbdappoaaStampOpen
namespace Go.Proofs.Ytcgkkjfbdappoaa
open Go.RowKit Go.Proofs.YtcgkkjfbdappoaaW.PrintWords Go.Proofs.YtcgkkjfbdappoaaW.PrintLast Go.Proofs.YtcgkkjfbdappoaaW.PrintMore
attribute [local go_sem high] eqStamp
set_option linter.unusedVariables false
set_option linter.unusedSimpArgs false

/-- Whether a stamp may be. -/
def mayS (t r : Int) : Bool := decide ((t = 0 ∧ r = 0) ∨ (1 ≤ t ∧ t ≤ 1073741824 ∧ 0 ≤ r ∧ r < 8))

/-- Whether there is a replica. -/
def repB (n : Int) : Bool := decide (0 ≤ n ∧ n < 8)

theorem stamp_rep (n : Int) (w : World) : Calls Try.prog 60 #[.int .i64 n] w fun e w' => e = .returned (.bool (repB n)) ∧ Below w.heap.size w w' := by
  by_cases h : 0 ≤ n ∧ n < 8
  · have hm : Hd (repB n = true) := ⟨decide_eq_true h⟩
    go_enter Try.func60, Try.ntmps60
    go_wp2
    go_ret
    exact ⟨by rw [hm.out]; first | rfl | (simp; done) | (simp; omega), Below.refl _ _⟩
  · have hm : Hd (repB n = false) := ⟨decide_eq_false h⟩
    by_cases h0 : 0 ≤ n
    · have h8 : 8 ≤ n := by omega
      clear h
      go_enter Try.func60, Try.ntmps60
      go_wp2
      go_ret
      exact ⟨by rw [hm.out]; first | rfl | (simp; done) | (simp; omega), Below.refl _ _⟩
    · have h8 : n < 0 := by omega
      clear h h0
      go_enter Try.func60, Try.ntmps60
      go_wp2
      go_ret
      exact ⟨by rw [hm.out]; first | rfl | (simp; done) | (simp; omega), Below.refl _ _⟩

theorem stamp_May (t r : Int) (w : World) : Calls Try.prog 48 #[.agg #[.int .i64 t, .int .i64 r]] w fun e w' => e = .returned (.bool (mayS t r)) ∧ Below w.heap.size w w' := by
  by_cases h0 : t = 0 ∧ r = 0
  · obtain ⟨rfl, rfl⟩ := h0
    go_enter Try.func48, Try.ntmps48
    go_wp2
    go_ret
    exact ⟨rfl, (Below.refl _ _).alloc (Nat.le_refl _) _⟩
  · have hz : (t == 0 && r == 0) = false := by rw [Bool.eq_false_iff]; simpa using h0
    by_cases h1 : 1 ≤ t ∧ t ≤ 1073741824
    · have hm : Hd (mayS t r = repB r) := ⟨by unfold mayS repB; rw [decide_eq_decide]; omega⟩
      obtain ⟨h1, h2⟩ := h1
      have H := Hd.mk (stamp_rep r)
      clear h0
      go_enter Try.func48, Try.ntmps48
      go_wp2_with fail
      refine (H.out _).mono ?_; rintro e ws1 ⟨rfl, hs1⟩
      have ks1 := hs1
      clear hs1
      obtain ⟨cs1, fs1⟩ := bcell ks1
      have zs1 := ks1.size
      try simp at zs1
      try have ys1_0 : w.heap.size < ws1.heap.size := by omega
      try have ys1_1 : w.heap.size + 1 < ws1.heap.size := by omega
      try have ys1_2 : w.heap.size + 1 + 1 < ws1.heap.size := by omega
      try have ys1_3 : w.heap.size + 1 + 1 + 1 < ws1.heap.size := by omega
      go_wp2_with fail
      go_ret
      exact ⟨by rw [hm.out]; rfl, ((Below.refl _ _).alloc (by simp <;> omega) _).trans (ks1.mono (by simp <;> omega))⟩
    · have hm : Hd (mayS t r = false) := ⟨by unfold mayS; rw [decide_eq_false]; omega⟩
      clear h0
      by_cases h2 : 1 ≤ t
      · have h3 : 1073741824 < t := by omega
        clear h1
        go_enter Try.func48, Try.ntmps48
        go_wp2_with fail
        go_ret
        exact ⟨by rw [hm.out]; rfl, (Below.refl _ _).alloc (Nat.le_refl _) _⟩
      · have h3 : t < 1 := by omega
        clear h1 h2
        go_enter Try.func48, Try.ntmps48
        go_wp2_with fail
        go_ret
        exact ⟨by rw [hm.out]; rfl, (Below.refl _ _).alloc (Nat.le_refl _) _⟩

end Go.Proofs.Ytcgkkjfbdappoaa
