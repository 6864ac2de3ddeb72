/- The document's May of an operation is the code's: a plain law. -/
import Derived.Test.YtcekecpbjmfbhaaOpRefMay
namespace Go.Proofs.Ytcekecpbjmfbhaa
open Go.RowKit Go.Proofs.YtcekecpbjmfbhaaW.PrintWords Go.Proofs.YtcekecpbjmfbhaaW.PrintLast Go.Proofs.YtcekecpbjmfbhaaW.PrintMore Pk
set_option linter.unusedVariables false
set_option linter.unusedSimpArgs false

theorem empty_list (s : ByteArray) : ((⟨#[]⟩ : ByteArray).toList == s.toList) = isE s := by
  rw [← isE_list]
  have e : (⟨#[]⟩ : ByteArray).toList = [] := by rw [Lib.toList_data]
  rw [e]
  cases s.toList <;> rfl
theorem zero_beq (a b : Int) : ((0 : Int) == a && ((0 : Int) == b)) = isZ a b := by
  unfold isZ
  rw [Bool.eq_iff_iff]
  simp
  omega
theorem may_of_z {a b : Int} (h : isZ a b = true) : mayS a b = true := by
  unfold isZ at h
  simp only [Bool.and_eq_true, beq_iff_eq] at h
  exact decide_eq_true (.inl h)
theorem z_of_may {a b : Int} (h : mayS a b = true) : (a != 0) = !isZ a b := by
  have := of_decide_eq_true h
  unfold isZ
  rw [Bool.eq_iff_iff]
  simp
  omega
/-- What the fields that the kind hasn't must be. -/
def bareB (o : OpV) : Bool :=
  (decide (o.k ≤ 7) || isZ o.a0 o.a1) && ((decide (4 ≤ o.k) || isZ o.i0 o.i1) && ((decide (o.k = 7) || isZ o.t0 o.t1) && ((decide (o.k ≤ 7) || isE o.nm) && ((decide (o.k = 7) || isE o.nw) && ((decide (8 ≤ o.k) || (o.off == 0)) && (decide (o.k = 3 ∨ o.k = 8) || isE o.dt))))))
theorem bare_eq (o : OpV) : eqO (bareV o) o = bareB o := by
  have hz : ((0 : Int) == o.off) = (o.off == 0) := by rw [Bool.eq_iff_iff]; simp; omega
  have p1 : ((if o.k ≤ 7 then o.a0 else 0) == o.a0 && ((if o.k ≤ 7 then o.a1 else 0) == o.a1)) = (decide (o.k ≤ 7) || isZ o.a0 o.a1) := by
    by_cases h : o.k ≤ 7
    · rw [if_pos h, if_pos h, decide_eq_true h]; simp
    · rw [if_neg h, if_neg h, decide_eq_false h, zero_beq]; simp
  have p2 : ((if 4 ≤ o.k then o.i0 else 0) == o.i0 && ((if 4 ≤ o.k then o.i1 else 0) == o.i1)) = (decide (4 ≤ o.k) || isZ o.i0 o.i1) := by
    by_cases h : 4 ≤ o.k
    · rw [if_pos h, if_pos h, decide_eq_true h]; simp
    · rw [if_neg h, if_neg h, decide_eq_false h, zero_beq]; simp
  have p3 : ((if o.k = 7 then o.t0 else 0) == o.t0 && ((if o.k = 7 then o.t1 else 0) == o.t1)) = (decide (o.k = 7) || isZ o.t0 o.t1) := by
    by_cases h : o.k = 7
    · rw [if_pos h, if_pos h, decide_eq_true h]; simp
    · rw [if_neg h, if_neg h, decide_eq_false h, zero_beq]; simp
  have p4 : ((if o.k ≤ 7 then o.nm else ⟨#[]⟩).toList == o.nm.toList) = (decide (o.k ≤ 7) || isE o.nm) := by
    by_cases h : o.k ≤ 7
    · rw [if_pos h, decide_eq_true h]; simp
    · rw [if_neg h, decide_eq_false h, empty_list]; simp
  have p5 : ((if o.k = 7 then o.nw else ⟨#[]⟩).toList == o.nw.toList) = (decide (o.k = 7) || isE o.nw) := by
    by_cases h : o.k = 7
    · rw [if_pos h, decide_eq_true h]; simp
    · rw [if_neg h, decide_eq_false h, empty_list]; simp
  have p6 : ((if 8 ≤ o.k then o.off else 0) == o.off) = (decide (8 ≤ o.k) || (o.off == 0)) := by
    by_cases h : 8 ≤ o.k
    · rw [if_pos h, decide_eq_true h]; simp
    · rw [if_neg h, decide_eq_false h, hz]; simp
  have p7 : ((if o.k = 3 ∨ o.k = 8 then o.dt else ⟨#[]⟩).toList == o.dt.toList) = (decide (o.k = 3 ∨ o.k = 8) || isE o.dt) := by
    by_cases h : o.k = 3 ∨ o.k = 8
    · rw [if_pos h, decide_eq_true h]; simp
    · rw [if_neg h, decide_eq_false h, empty_list]; simp
  unfold eqO bareV bareB
  dsimp only
  rw [p1, p2, p3, p4, p5, p6, p7]
  simp
/-- The document's May is the code's. -/
theorem refMayO_eq (o : OpV) : refMayO o = o.may := by
  unfold refMayO
  rw [bare_eq]
  unfold OpV.may mayO bareB
  have hza := @may_of_z o.a0 o.a1
  have hzi := @may_of_z o.i0 o.i1
  have hzt := @may_of_z o.t0 o.t1
  have hzs := @z_of_may o.t o.r
  generalize mayS o.a0 o.a1 = ma at *
  generalize mayS o.i0 o.i1 = mi at *
  generalize mayS o.t0 o.t1 = mt at *
  generalize isZ o.a0 o.a1 = za at *
  generalize isZ o.i0 o.i1 = zi at *
  generalize isZ o.t0 o.t1 = zt at *
  generalize (o.t != 0) = ne at *
  generalize isZ o.t o.r = zs at *
  generalize mayS o.t o.r = ms at *
  generalize nameB o.nm = nB at *
  generalize nameB o.nw = wB at *
  generalize isE o.nm = en at *
  generalize isE o.nw = ew at *
  generalize isE o.dt = ed at *
  generalize (o.off == 0) = oz at *
  generalize hd : dataB o.k o.off o.dt = d at *
  clear hd
  generalize o.k = k at *
  have key : ∀ (f : Nat) (b1 b2 b3 b4 b5 : Bool), True := fun _ _ _ _ _ _ => trivial
  cases ms with
  | false => simp
  | true =>
    have hs := hzs rfl
    subst hs
    rcases k_cases k with rfl | rfl | rfl | rfl | rfl | rfl | rfl | rfl | rfl | rfl | h0
    case inr.inr.inr.inr.inr.inr.inr.inr.inr.inr =>
      have hk : ¬ (1 ≤ k ∧ k ≤ 10) := by
        intro h
        have h3 : k = 1 ∨ k = 2 ∨ k = 3 ∨ k = 4 ∨ k = 5 ∨ k = 6 ∨ k = 7 ∨ k = 8 ∨ k = 9 ∨ k = 10 := by omega
        rcases h3 with rfl | rfl | rfl | rfl | rfl | rfl | rfl | rfl | rfl | rfl <;> exact absurd h0 (by decide)
      rw [decide_eq_false hk, h0]
      simp
    all_goals
      simp [fieldsN, rowsOk, rowOk, impB]
      cases za <;> cases zi <;> cases zt <;> simp_all <;> (cases zs <;> cases nB <;> cases wB <;> cases en <;> cases ew <;> cases ed <;> cases oz <;> cases d <;> simp_all) <;> simp only [Bool.and_assoc]
end Go.Proofs.Ytcekecpbjmfbhaa
