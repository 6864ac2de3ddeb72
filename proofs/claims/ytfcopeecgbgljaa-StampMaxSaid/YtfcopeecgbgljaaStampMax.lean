/- The greatest of some stamps is one of them, and no other one is above: the law returns true, whatever comes in. -/
import Derived.Test.YtfcopeecgbgljaaStampMaxesStampMax
import Derived.Test.YtfcopeecgbgljaaPStampMaxx4
namespace Go.Proofs.Ytfcopeecgbgljaa.stampMax
open Go.RowKit Go.Proofs.Ytfcopeecgbgljaa.PStampMax Go.Proofs.YtfcopeecgbgljaaW.PrintWords Go.Proofs.YtfcopeecgbgljaaW.PrintLast Go.Proofs.YtfcopeecgbgljaaW.PrintMore St PureStampMax
set_option linter.unusedVariables false

theorem loop (l : List SS) (hl : l.length ≤ 200) (m : SS) (hm : ∀ x ∈ l, PureStampMax.le x m) (d : Nat) : ∀ (k j : Nat) (is : Bool), l.length - j = d → j ≤ l.length → d + 4 ≤ k → (is = true ∨ m ∈ l.drop j) →
    thimblelaw03_StampMax.l0 k l true is (j : Int) m.f0 m.f1 = some true := by
  induction d with
  | zero =>
    intro k j is hd hj hk his
    obtain ⟨k, rfl⟩ : ∃ q, k = q + 1 := ⟨k - 1, by omega⟩
    have e : j = l.length := by omega
    rw [e, List.drop_length] at his
    have : is = true := by rcases his with h | h; exact h; simp at h
    subst this
    simp only [thimblelaw03_StampMax.l0]
    rw [if_neg (by omega)]; rfl
  | succ d ih =>
    intro k j is hd hj hk his
    obtain ⟨k, rfl⟩ : ∃ q, k = q + 4 := ⟨k - 4, by omega⟩
    have hlt : j < l.length := by omega
    have hw : wrap64 ((j : Int) + 1) = ((j + 1 : Nat) : Int) := by unfold wrap64; omega
    have hle := hm l[j] (List.getElem_mem hlt)
    have hdrop : l.drop j = l[j] :: l.drop (j + 1) := List.drop_eq_getElem_cons hlt
    unfold PureStampMax.le at hle
    simp only [thimblelaw03_StampMax.l0]
    rw [if_pos (by omega)]
    cases is with
    | true =>
      rw [if_pos rfl, if_pos (by omega), rd_at hlt, comp_f]
      simp only [Option.bind_some]
      rw [if_neg (by omega), hw]
      exact ih (k + 3) (j + 1) true (by omega) (by omega) (by omega) (Or.inl rfl)
    | false =>
      rw [if_neg (by decide), if_pos (by omega), rd_at hlt, comp_f]
      simp only [Option.bind_some]
      rw [if_neg (by omega), hw]
      refine ih (k + 3) (j + 1) _ (by omega) (by omega) (by omega) ?_
      rcases his with h | h
      · exact absurd h (by decide)
      · rw [hdrop] at h
        rcases List.mem_cons.1 h with h | h
        · left; rw [← h]; simp
        · exact Or.inr h

theorem pure (l : List SS) (hl : l.length ≤ 9223372036854775807) : thimblelaw03_StampMax.f 300 l = some true := by
  unfold thimblelaw03_StampMax.f
  rw [shown_f 297]
  simp only [Option.bind_some]
  by_cases h : l.length > 200
  · rw [if_pos (by omega)]
  · rw [if_neg (by omega)]
    by_cases h0 : l = []
    · subst h0
      rw [max_nil 300 (by decide)]
      simp [thimblelaw03_StampMax.j0, thimblelaw03_StampMax.l0]
    · obtain ⟨r, hr, hm⟩ := max_f l hl h0 300 (by omega)
      have hlen : l.length ≠ 0 := fun e => h0 (List.eq_nil_of_length_eq_zero e)
      rw [hr]
      simp only [Option.bind_some]
      rw [if_neg (by omega)]
      simp only [thimblelaw03_StampMax.j0]
      exact loop l (by omega) r hm.2 l.length 299 0 false (by omega) (by omega) (by omega) (Or.inr (by simpa using hm.1))

theorem law_StampMax {v : Value} {A : Option Addr} {len cap : Nat} {l : List (Int × Int)} {w : World} (hv : AreStamps w v A len cap l) :
    Calls Try.prog 8 #[v] w fun e w' => e = .returned (.bool true) ∧ Below w.heap.size w w' := by
  have hr := reads hv
  have hlen : (toS l).length = len := by unfold toS; rw [List.length_map]; exact hv.2.2.2.1
  have hcap := hv.2.2.1
  unfold maxLen at hcap
  have hp := pure (toS l) (by rw [hlen]; have := hv.2.1; omega)
  have := thimblelaw03_StampMax.calls 300 A cap (toS l) true w hr (by rw [hlen]; exact hv.2.1) hp
  rw [hlen] at this
  rw [hv.1]
  exact this
end Go.Proofs.Ytfcopeecgbgljaa.stampMax
