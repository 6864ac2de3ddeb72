/- The greatest of some stamps, as the print tells it, in plain words (for one law's print). -/
import Derived.Test.YtfcopeecgbgljaaStampPureStampTells
import Derived.Test.YtfcopeecgbgljaaPStampTellsx3
import Derived.Test.YtfcopeecgbgljaaStampOpen
namespace Go.Proofs.Ytfcopeecgbgljaa.PureStampTells
open Go.RowKit Go.Proofs.Ytfcopeecgbgljaa.PStampTells Go.Proofs.YtfcopeecgbgljaaW.PrintWords Go.Proofs.YtfcopeecgbgljaaW.PrintLast Go.Proofs.YtfcopeecgbgljaaW.PrintMore St
set_option linter.unusedVariables false
set_option linter.unusedSimpArgs false

abbrev SS := S35
def le (a b : SS) : Prop := cmpS a.f0 a.f1 b.f0 b.f1 ≤ 0
/-- The greatest one of some. -/
def IsMax (l : List SS) (m : SS) : Prop := m ∈ l ∧ ∀ x ∈ l, le x m

theorem le_refl (a : SS) : le a a := by unfold le; rw [cmpS_le]; omega
theorem le_trans {a b c : SS} (h : le a b) (k : le b c) : le a c := cmpS_trans h k
theorem le_total (a b : SS) : le a b ∨ le b a := by unfold le; rw [cmpS_le, cmpS_le]; omega
theorem le_antisymm {a b : SS} (h : le a b) (k : le b a) : a = b := by
  unfold le at *
  rw [cmpS_le] at *
  cases a; cases b
  simp only at *
  congr <;> omega
theorem IsMax.unique {l k : List SS} {a b : SS} (ha : IsMax l a) (hb : IsMax k b) (h : ∀ x, x ∈ l ↔ x ∈ k) : a = b :=
  le_antisymm (hb.2 a ((h a).1 ha.1)) (ha.2 b ((h b).2 hb.1))

theorem rd_at {l : List SS} {j : Nat} (h : j < l.length) : rd_T35 l (j : Int) = l[j] := by
  unfold rd_T35
  rw [Int.toNat_natCast, List.getD_eq_getElem?_getD, List.getElem?_eq_getElem h]; rfl

theorem max_l0 (l : List SS) (hl : l.length ≤ 9223372036854775807) (d : Nat) : ∀ (k j : Nat) (m : SS), l.length - j = d → 1 ≤ j → j ≤ l.length → d + 4 ≤ k →
    ∃ r : SS, stamp_Max.l0 k l (l.length : Int) (j : Int) m.f0 m.f1 = some (r.f0, r.f1) ∧ IsMax (m :: l.drop j) r := by
  induction d with
  | zero =>
    intro k j m hd h1 hj hk
    obtain ⟨k, rfl⟩ : ∃ q, k = q + 1 := ⟨k - 1, by omega⟩
    have : j = l.length := by omega
    refine ⟨m, ?_, ?_⟩
    · simp only [stamp_Max.l0]; rw [if_neg (by omega)]
    · rw [this, List.drop_length]
      exact ⟨List.mem_cons_self, fun x hx => by simp at hx; subst hx; exact le_refl _⟩
  | succ d ih =>
    intro k j m hd h1 hj hk
    obtain ⟨k, rfl⟩ : ∃ q, k = q + 1 := ⟨k - 1, by omega⟩
    have hlt : j < l.length := by omega
    have hw : wrap64 ((j : Int) + 1) = ((j + 1 : Nat) : Int) := by unfold wrap64; omega
    simp only [stamp_Max.l0]
    rw [if_pos (by omega), if_pos (by omega), if_pos (by omega), if_neg (by omega), rd_at hlt, hw]
    obtain ⟨k, rfl⟩ : ∃ q, k = q + 3 := ⟨k - 3, by omega⟩
    rw [comp_f]
    simp only [Option.bind_some]
    have hdrop : l.drop j = l[j] :: l.drop (j + 1) := List.drop_eq_getElem_cons hlt
    by_cases hc : cmpS l[j].f0 l[j].f1 m.f0 m.f1 > 0
    · rw [if_pos hc]
      obtain ⟨r, hr, hm⟩ := ih (k + 3) (j + 1) l[j] (by omega) (by omega) (by omega) (by omega)
      refine ⟨r, hr, ?_⟩
      rw [hdrop]
      refine ⟨List.mem_cons_of_mem _ hm.1, fun x hx => ?_⟩
      rcases List.mem_cons.1 hx with rfl | hx
      · refine le_trans (b := l[j]) ?_ (hm.2 _ List.mem_cons_self)
        unfold le; rw [cmpS_neg]; omega
      · exact hm.2 x hx
    · rw [if_neg hc]
      obtain ⟨r, hr, hm⟩ := ih (k + 3) (j + 1) m (by omega) (by omega) (by omega) (by omega)
      refine ⟨r, hr, ?_⟩
      rw [hdrop]
      refine ⟨?_, fun x hx => ?_⟩
      · rcases List.mem_cons.1 hm.1 with h | h
        · rw [h]; exact List.mem_cons_self
        · exact List.mem_cons_of_mem _ (List.mem_cons_of_mem _ h)
      · rcases List.mem_cons.1 hx with rfl | hx
        · exact hm.2 _ List.mem_cons_self
        · rcases List.mem_cons.1 hx with rfl | hx
          · exact le_trans (b := m) (by unfold le; omega) (hm.2 m List.mem_cons_self)
          · exact hm.2 x (List.mem_cons_of_mem _ hx)

theorem max_f (l : List SS) (hl : l.length ≤ 9223372036854775807) (h0 : l ≠ []) (k : Nat) (hk : l.length + 5 ≤ k) :
    ∃ r : SS, stamp_Max.f k l = some (r.f0, r.f1) ∧ IsMax l r := by
  obtain ⟨x, t, rfl⟩ : ∃ x t, l = x :: t := by cases l with
    | nil => exact absurd rfl h0
    | cons x t => exact ⟨x, t, rfl⟩
  obtain ⟨k, rfl⟩ : ∃ q, k = q + 1 := ⟨k - 1, by omega⟩
  have hw : wrap64 ((0 : Int) + 1) = ((1 : Nat) : Int) := by unfold wrap64; omega
  unfold stamp_Max.f
  simp only [stamp_Max.l0]
  rw [if_pos (by simp only [List.length_cons]; omega), if_pos (by omega), if_pos (by simp only [List.length_cons]; omega), if_pos trivial, hw]
  obtain ⟨r, hr, hm⟩ := max_l0 (x :: t) hl t.length k 1 x (by simp) (by omega) (by simp) (by simp at hk; omega)
  refine ⟨r, ?_, by simpa using hm⟩
  exact hr
theorem max_nil (k : Nat) (hk : 1 ≤ k) : stamp_Max.f k [] = some (0, 0) := by
  obtain ⟨k, rfl⟩ : ∃ q, k = q + 1 := ⟨k - 1, by omega⟩
  unfold stamp_Max.f
  simp [stamp_Max.l0]

/-- A slice of stamps, as the print reads it. -/
def toS (l : List (Int × Int)) : List SS := l.map fun x => ⟨x.1, x.2⟩
theorem reads {W : World} {v : Value} {A : Option Addr} {len cap : Nat} {l : List (Int × Int)} (h : AreStamps W v A len cap l) : Kd.C k35 W A (toS l).length (toS l) := by
  obtain ⟨_, hlc, hcm, hl, _, hc⟩ := h
  refine ⟨rfl, by unfold maxLen at hcm; unfold toS; rw [List.length_map]; omega, fun hpos => ?_⟩
  have hpos' : 0 < l.length := by unfold toS at hpos; rwa [List.length_map] at hpos
  obtain ⟨a, ha, _⟩ := hc 0 _ (List.getElem?_eq_getElem hpos')
  refine ⟨a, ha, fun j p hp => ?_⟩
  unfold toS at hp
  rw [List.getElem?_map] at hp
  obtain ⟨x, hx, rfl⟩ := Option.map_eq_some_iff.1 hp
  obtain ⟨a', ha', h1, h2⟩ := hc j x hx
  obtain rfl : a = a' := Option.some.inj (ha.symm.trans ha')
  refine ⟨[.int .i64 x.1, .int .i64 x.2], rfl, k35_mk W _, fun i u hi => ?_⟩
  match i, hi with
  | 0, hi => simp at hi; subst hi; exact h1
  | 1, hi => simp at hi; subst hi; exact h2
  | n + 2, hi => simp at hi
end Go.Proofs.Ytfcopeecgbgljaa.PureStampTells
