/- Vectors: what is joined, and met, in plain Lean. -/
import Derived.Test.YtkjlakjihjfjdaaVecCovers
namespace Go.Proofs.Ytkjlakjihjfjdaa
open Go.RowKit Go.Proofs.YtkjlakjihjfjdaaW.PrintWords
set_option linter.unusedVariables false
set_option linter.unusedSimpArgs false

theorem bothL_at (f : Int → Int → Int) (a b : List Int) (i : Nat) {x y : Int} (hx : a[i]? = some x) (hy : b[i]? = some y) : (bothL f a b)[i]? = some (f x y) := by
  simp [bothL, List.getElem?_zipWith, hx, hy]
/-- Number by number. -/
def leL (a b : List Int) : Prop := ∀ (i : Nat) (x y : Int), a[i]? = some x → b[i]? = some y → x ≤ y
theorem at8 {a : List Int} (ha : a.length = 8) {i : Nat} (hi : i < 8) : ∃ x, a[i]? = some x := ⟨_, List.getElem?_eq_getElem (by omega)⟩
theorem lt8 {a : List Int} (ha : a.length = 8) {i : Nat} {x : Int} (h : a[i]? = some x) : i < 8 := by
  have := (List.getElem?_eq_some_iff.1 h).1; omega
theorem ext8 {a b : List Int} (ha : a.length = 8) (hb : b.length = 8) (h : ∀ (i : Nat) (x y : Int), a[i]? = some x → b[i]? = some y → x = y) : a = b := by
  apply List.ext_getElem?
  intro i
  by_cases hi : i < 8
  · obtain ⟨x, hx⟩ := at8 ha hi
    obtain ⟨y, hy⟩ := at8 hb hi
    rw [hx, hy, h i x y hx hy]
  · rw [List.getElem?_eq_none (by omega), List.getElem?_eq_none (by omega)]
theorem mx_def (x y : Int) : mx x y = max x y := by
  unfold mx; rcases Int.lt_or_le x y with h | h
  · rw [if_pos h]; omega
  · rw [if_neg (by omega)]; omega
theorem mn_def (x y : Int) : mn x y = min x y := by
  unfold mn; rcases Int.lt_or_le y x with h | h
  · rw [if_pos h]; omega
  · rw [if_neg (by omega)]; omega
theorem covL_iff {a b : List Int} (ha : a.length = 8) (hb : b.length = 8) : covL a b = true ↔ leL b a := by
  unfold covL eqV
  rw [decide_eq_true_eq]
  constructor
  · intro h i x y hx hy
    have h1 := bothL_at mx a b i hy hx
    rw [show bothL mx a b = a from h, hy] at h1
    have := Option.some.inj h1
    rw [mx_def] at this; omega
  · intro h
    refine ext8 (bothL_len ha hb) ha fun i x y hx hy => ?_
    obtain ⟨z, hz⟩ := at8 hb (lt8 ha hy)
    have h1 := bothL_at mx a b i hy hz
    rw [show (bothL mx a b)[i]? = some x from hx] at h1
    have h2 := Option.some.inj h1
    have h3 := h i z y hz hy
    rw [mx_def] at h2; omega
section
variable {a b c : List Int} (ha : a.length = 8) (hb : b.length = 8) (hc : c.length = 8)
include ha hb
theorem join_len : (joinL a b).length = 8 := bothL_len ha hb
theorem meet_len : (meetL a b).length = 8 := bothL_len ha hb
theorem join_comm : joinL a b = joinL b a := by
  refine ext8 (bothL_len ha hb) (bothL_len hb ha) fun i x y hx hy => ?_
  obtain ⟨p, hp⟩ := at8 ha (lt8 (bothL_len ha hb) hx); obtain ⟨q, hq⟩ := at8 hb (lt8 (bothL_len ha hb) hx)
  have h1 := (bothL_at mx a b i hp hq).symm.trans hx; have h2 := (bothL_at mx b a i hq hp).symm.trans hy
  simp only [Option.some.injEq, mx_def] at h1 h2; omega
theorem meet_comm : meetL a b = meetL b a := by
  refine ext8 (bothL_len ha hb) (bothL_len hb ha) fun i x y hx hy => ?_
  obtain ⟨p, hp⟩ := at8 ha (lt8 (bothL_len ha hb) hx); obtain ⟨q, hq⟩ := at8 hb (lt8 (bothL_len ha hb) hx)
  have h1 := (bothL_at mn a b i hp hq).symm.trans hx; have h2 := (bothL_at mn b a i hq hp).symm.trans hy
  simp only [Option.some.injEq, mn_def] at h1 h2; omega
theorem join_meet : joinL a (meetL a b) = a := by
  refine ext8 (bothL_len ha (bothL_len ha hb)) ha fun i x y hx hy => ?_
  obtain ⟨q, hq⟩ := at8 hb (lt8 ha hy)
  have h1 := (bothL_at mx a (meetL a b) i hy (bothL_at mn a b i hy hq)).symm.trans hx
  simp only [Option.some.injEq, mx_def, mn_def] at h1; omega
theorem meet_join : meetL a (joinL a b) = a := by
  refine ext8 (bothL_len ha (bothL_len ha hb)) ha fun i x y hx hy => ?_
  obtain ⟨q, hq⟩ := at8 hb (lt8 ha hy)
  have h1 := (bothL_at mn a (joinL a b) i hy (bothL_at mx a b i hy hq)).symm.trans hx
  simp only [Option.some.injEq, mx_def, mn_def] at h1; omega
omit hb in
theorem join_self : joinL a a = a := by
  refine ext8 (bothL_len ha ha) ha fun i x y hx hy => ?_
  have h1 := (bothL_at mx a a i hy hy).symm.trans hx
  simp only [Option.some.injEq, mx_def] at h1; omega
omit hb in
theorem meet_self : meetL a a = a := by
  refine ext8 (bothL_len ha ha) ha fun i x y hx hy => ?_
  have h1 := (bothL_at mn a a i hy hy).symm.trans hx
  simp only [Option.some.injEq, mn_def] at h1; omega
theorem cov_join_left : covL (joinL a b) a = true := by
  refine (covL_iff (bothL_len ha hb) ha).2 fun i x y hx hy => ?_
  obtain ⟨q, hq⟩ := at8 hb (lt8 ha hx)
  have h1 := (bothL_at mx a b i hx hq).symm.trans hy
  simp only [Option.some.injEq, mx_def] at h1; omega
theorem cov_join_right : covL (joinL a b) b = true := by
  refine (covL_iff (bothL_len ha hb) hb).2 fun i x y hx hy => ?_
  obtain ⟨q, hq⟩ := at8 ha (lt8 hb hx)
  have h1 := (bothL_at mx a b i hq hx).symm.trans hy
  simp only [Option.some.injEq, mx_def] at h1; omega
theorem cov_meet_left : covL a (meetL a b) = true := by
  refine (covL_iff ha (bothL_len ha hb)).2 fun i x y hx hy => ?_
  obtain ⟨q, hq⟩ := at8 hb (lt8 ha hy)
  have h1 := (bothL_at mn a b i hy hq).symm.trans hx
  simp only [Option.some.injEq, mn_def] at h1; omega
theorem cov_meet_right : covL b (meetL a b) = true := by
  refine (covL_iff hb (bothL_len ha hb)).2 fun i x y hx hy => ?_
  obtain ⟨q, hq⟩ := at8 ha (lt8 hb hy)
  have h1 := (bothL_at mn a b i hq hy).symm.trans hx
  simp only [Option.some.injEq, mn_def] at h1; omega
theorem cov_both : (covL a b && covL b a) = eqV a b := by
  rw [Bool.eq_iff_iff, Bool.and_eq_true, covL_iff ha hb, covL_iff hb ha]
  unfold eqV
  rw [decide_eq_true_eq]
  constructor
  · rintro ⟨h1, h2⟩
    refine ext8 ha hb fun i x y hx hy => ?_
    have := h1 i y x hy hx; have := h2 i x y hx hy; omega
  · rintro rfl
    constructor <;> intro i x y hx hy <;> (rw [hx] at hy; have := Option.some.inj hy; omega)
include hc
theorem cov_of_join : covL c (joinL a b) = (covL c a && covL c b) := by
  rw [Bool.eq_iff_iff, Bool.and_eq_true, covL_iff hc (join_len ha hb), covL_iff hc ha, covL_iff hc hb]
  constructor
  · intro h
    constructor
    · intro i x y hx hy
      obtain ⟨q, hq⟩ := at8 hb (lt8 ha hx)
      have := h i _ y (bothL_at mx a b i hx hq) hy
      rw [mx_def] at this; omega
    · intro i x y hx hy
      obtain ⟨q, hq⟩ := at8 ha (lt8 hb hx)
      have := h i _ y (bothL_at mx a b i hq hx) hy
      rw [mx_def] at this; omega
  · rintro ⟨h1, h2⟩ i x y hx hy
    obtain ⟨p, hp⟩ := at8 ha (lt8 hc hy); obtain ⟨q, hq⟩ := at8 hb (lt8 hc hy)
    have h3 := (bothL_at mx a b i hp hq).symm.trans hx
    have := h1 i p y hp hy; have := h2 i q y hq hy
    simp only [Option.some.injEq, mx_def] at h3; omega
theorem cov_of_meet : covL (meetL a b) c = (covL a c && covL b c) := by
  rw [Bool.eq_iff_iff, Bool.and_eq_true, covL_iff (meet_len ha hb) hc, covL_iff ha hc, covL_iff hb hc]
  constructor
  · intro h
    constructor
    · intro i x y hx hy
      obtain ⟨q, hq⟩ := at8 hb (lt8 ha hy)
      have := h i x _ hx (bothL_at mn a b i hy hq)
      rw [mn_def] at this; omega
    · intro i x y hx hy
      obtain ⟨q, hq⟩ := at8 ha (lt8 hb hy)
      have := h i x _ hx (bothL_at mn a b i hq hy)
      rw [mn_def] at this; omega
  · rintro ⟨h1, h2⟩ i x y hx hy
    obtain ⟨p, hp⟩ := at8 ha (lt8 hc hx); obtain ⟨q, hq⟩ := at8 hb (lt8 hc hx)
    have h3 := (bothL_at mn a b i hp hq).symm.trans hy
    have := h1 i x p hx hp; have := h2 i x q hx hq
    simp only [Option.some.injEq, mn_def] at h3; omega
theorem join_assoc : joinL (joinL a b) c = joinL a (joinL b c) := by
  refine ext8 (bothL_len (bothL_len ha hb) hc) (bothL_len ha (bothL_len hb hc)) fun i x y hx hy => ?_
  have hi := lt8 (bothL_len (bothL_len ha hb) hc) hx
  obtain ⟨p, hp⟩ := at8 ha hi; obtain ⟨q, hq⟩ := at8 hb hi; obtain ⟨r, hr⟩ := at8 hc hi
  have h1 := (bothL_at mx (joinL a b) c i (bothL_at mx a b i hp hq) hr).symm.trans hx
  have h2 := (bothL_at mx a (joinL b c) i hp (bothL_at mx b c i hq hr)).symm.trans hy
  simp only [Option.some.injEq, mx_def] at h1 h2; omega
theorem meet_assoc : meetL (meetL a b) c = meetL a (meetL b c) := by
  refine ext8 (bothL_len (bothL_len ha hb) hc) (bothL_len ha (bothL_len hb hc)) fun i x y hx hy => ?_
  have hi := lt8 (bothL_len (bothL_len ha hb) hc) hx
  obtain ⟨p, hp⟩ := at8 ha hi; obtain ⟨q, hq⟩ := at8 hb hi; obtain ⟨r, hr⟩ := at8 hc hi
  have h1 := (bothL_at mn (meetL a b) c i (bothL_at mn a b i hp hq) hr).symm.trans hx
  have h2 := (bothL_at mn a (meetL b c) i hp (bothL_at mn b c i hq hr)).symm.trans hy
  simp only [Option.some.injEq, mn_def] at h1 h2; omega
end
end Go.Proofs.Ytkjlakjihjfjdaa
