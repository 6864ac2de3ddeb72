/- The greatest of two lists of stamps together is the greater one of both, in whatever order: the law returns true, whatever comes in. -/
import Derived.Test.YtfcopeecgbgljaaStampMaxesStampJoins
import Derived.Test.YtfcopeecgbgljaaPStampJoinsx4
namespace Go.Proofs.Ytfcopeecgbgljaa.stampJoins
open Go.RowKit Go.Proofs.Ytfcopeecgbgljaa.PStampJoins Go.Proofs.YtfcopeecgbgljaaW.PrintWords Go.Proofs.YtfcopeecgbgljaaW.PrintLast Go.Proofs.YtfcopeecgbgljaaW.PrintMore St PureStampJoins
set_option linter.unusedVariables false

theorem back_all (l : List SS) (j : Nat) (hj : j < l.length) : (l.drop (j + 1)).reverse ++ [l[j]] = (l.drop j).reverse := by
  rw [List.drop_eq_getElem_cons hj, List.reverse_cons]

theorem loop (a b : List SS) (hab : 0 < a.length ∧ a.length ≤ 100 ∧ 0 < b.length ∧ b.length ≤ 100) (j : Nat) : ∀ (k : Nat), j ≤ (a ++ b).length → j + 230 ≤ k →
    thimblelaw03_StampJoins.l0 k a b true (a ++ b) ((a ++ b).drop j).reverse ((j : Int) - 1) = some true := by
  have hl : (a ++ b).length = a.length + b.length := List.length_append
  induction j with
  | zero =>
    intro k hj hk
    obtain ⟨k, rfl⟩ : ∃ q, k = q + 1 := ⟨k - 1, by omega⟩
    simp only [thimblelaw03_StampJoins.l0]
    rw [if_neg (by omega), List.drop_zero]
    have na : a ≠ [] := fun e => by rw [e] at hab; simp at hab
    have nb : b ≠ [] := fun e => by rw [e] at hab; simp at hab
    obtain ⟨m, hm, Hm⟩ := max_f (a ++ b) (by omega) (by simp [na]) k (by omega)
    obtain ⟨x, hx, Hx⟩ := max_f a (by omega) na k (by omega)
    obtain ⟨y, hy, Hy⟩ := max_f b (by omega) nb k (by omega)
    obtain ⟨z, hz, Hz⟩ := max_f [x, y] (by simp) (by simp) k (by simp; omega)
    obtain ⟨q, hq, Hq⟩ := max_f (a ++ b).reverse (by rw [List.length_reverse]; omega) (by simp [na]) k (by rw [List.length_reverse]; omega)
    have e1 : m = z := by
      refine le_antisymm ?_ ?_
      · rcases List.mem_append.1 Hm.1 with h | h
        · exact PureStampJoins.le_trans (Hx.2 m h) (Hz.2 x (by simp))
        · exact PureStampJoins.le_trans (Hy.2 m h) (Hz.2 y (by simp))
      · refine Hm.2 z ?_
        have := Hz.1
        simp only [List.mem_cons, List.not_mem_nil, or_false] at this
        rcases this with h | h
        · rw [h]; exact List.mem_append_left _ Hx.1
        · rw [h]; exact List.mem_append_right _ Hy.1
    have e2 : m = q := Hm.unique Hq (fun x => by rw [List.mem_reverse])
    rw [hm]; simp only [Option.bind_some]
    rw [if_pos trivial, hx]; simp only [Option.bind_some]
    rw [hy]; simp only [Option.bind_some]
    have hz' : stamp_Max.f k [({ f0 := x.f0, f1 := x.f1 } : SS), { f0 := y.f0, f1 := y.f1 }] = some (z.f0, z.f1) := hz
    rw [hz']; simp only [Option.bind_some]
    rw [← e1, if_pos (by simp), hq]; simp only [Option.bind_some]
    rw [← e2]; simp
  | succ j ih =>
    intro k hj hk
    obtain ⟨k, rfl⟩ : ∃ q, k = q + 1 := ⟨k - 1, by omega⟩
    have hlt : j < (a ++ b).length := by omega
    have e : (((j + 1 : Nat) : Int) - 1) = (j : Int) := by omega
    have hw : wrap64 ((j : Int) - 1) = (j : Int) - 1 := by unfold wrap64; omega
    simp only [thimblelaw03_StampJoins.l0]
    rw [e, if_pos (by omega), if_pos (by omega), if_pos (by omega), if_pos (by rw [List.length_reverse, List.length_drop]; omega), rd_at hlt, hw, back_all _ j hlt]
    exact ih k (by omega) (by omega)

theorem pure (a b : List SS) (ha : a.length ≤ 9223372036854775807) (hb : b.length ≤ 9223372036854775807) : thimblelaw03_StampJoins.f 600 a b = some true := by
  unfold thimblelaw03_StampJoins.f
  rw [shown_f 597]
  simp only [Option.bind_some]
  by_cases h : 0 < a.length ∧ a.length ≤ 100 ∧ 0 < b.length ∧ b.length ≤ 100
  · rw [if_neg (by omega), if_neg (by omega), if_neg (by omega), decide_eq_false (by omega)]
    simp only [thimblelaw03_StampJoins.j0]
    rw [if_neg (by decide)]
    simp only [Option.bind_some, List.nil_append, List.length_nil]
    rw [if_pos (by omega)]
    rw [if_pos (by omega)]
    have hl : (a ++ b).length = a.length + b.length := List.length_append
    have hw : wrap64 (((a ++ b).length : Int) - 1) = ((a ++ b).length : Int) - 1 := by rw [hl]; unfold wrap64; omega
    rw [hw]
    have := loop a b h (a ++ b).length 599 (Nat.le_refl _) (by omega)
    rw [List.drop_length] at this
    exact this
  · have fin : thimblelaw03_StampJoins.j0 600 a b true true = some true := by simp [thimblelaw03_StampJoins.j0]
    split
    · exact fin
    · split
      · exact fin
      · split
        · exact fin
        · rw [decide_eq_true (by omega)]; exact fin

theorem law_StampJoins {v : Value} {A : Option Addr} {len cap : Nat} {l : List (Int × Int)} {w : World} (hv : AreStamps w v A len cap l) {v' : Value} {A' : Option Addr} {len' cap' : Nat} {l' : List (Int × Int)} (hv' : AreStamps w v' A' len' cap' l') :
    Calls Try.prog 9 #[v, v'] w fun e w' => e = .returned (.bool true) ∧ Below w.heap.size w w' := by
  have hlen : (toS l).length = len := by unfold toS; rw [List.length_map]; exact hv.2.2.2.1
  have hlen' : (toS l').length = len' := by unfold toS; rw [List.length_map]; exact hv'.2.2.2.1
  have hcap := hv.2.2.1
  have hcap' := hv'.2.2.1
  unfold maxLen at hcap hcap'
  have hp := pure (toS l) (toS l') (by rw [hlen]; have := hv.2.1; omega) (by rw [hlen']; have := hv'.2.1; omega)
  have := thimblelaw03_StampJoins.calls 600 A cap (toS l) A' cap' (toS l') true w (reads hv) (by rw [hlen]; exact hv.2.1) (reads hv') (by rw [hlen']; exact hv'.2.1) hp
  rw [hlen, hlen'] at this
  rw [hv.1, hv'.1]
  exact this
end Go.Proofs.Ytfcopeecgbgljaa.stampJoins
