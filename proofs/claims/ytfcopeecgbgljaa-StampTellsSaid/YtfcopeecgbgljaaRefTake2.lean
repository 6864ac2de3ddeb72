/- The document's TakeNum, TakeInt, TakeText, Int and Text (layer 1): their contracts. -/
import Derived.Test.YtfcopeecgbgljaaRefTake
namespace Go.Proofs.Ytfcopeecgbgljaa
open Go.RowKit Go.Proofs.YtfcopeecgbgljaaW.PrintWords Go.Proofs.YtfcopeecgbgljaaW.PrintLast Go.Proofs.YtfcopeecgbgljaaW.PrintMore Pk
set_option linter.unusedVariables false
set_option linter.unusedSimpArgs false

set_option maxHeartbeats 1000000 in
set_option maxRecDepth 100000 in
theorem ref_TakeNum (s : ByteArray) (hs : s.size ≤ 140737488355328) (w : World) :
    Calls Try.prog 60 #[.string s] w fun e w' => e = .returned (tnV (tk s.data.toList 0 0)) ∧ Below w.heap.size w w' := by
  have H0 := Hd.mk (ref_begin s hs)
  have hle := bg_le s.data.toList 0
  have hsl : s.data.toList.length = s.size := rfl
  obtain ⟨m, hm⟩ : ∃ m, m = bg s.data.toList 0 := ⟨_, rfl⟩
  rw [← hm] at H0 hle
  have hms : m ≤ s.size := by omega
  obtain ⟨b, hb⟩ : ∃ b, b = s.extract 0 m := ⟨_, rfl⟩
  rw [← hb] at H0
  have hbl : b.data.toList = s.data.toList.take m := by rw [hb, take_bytes]
  have hbs : b.size = m := by
    have : b.data.toList.length = b.size := rfl
    rw [← this, hbl, List.length_take]; omega
  have Hbs := Hd.mk hbs
  have hbz : b.size ≤ 140737488355328 := by omega
  have HN := Hd.mk (fun w => ref_Num (hv b.data.toList) ⟨hv_lt _⟩ w)
  -- what the last test tells
  have HE : Hd ((b.toList == []) = decide (m = 0)) := ⟨by
    rw [Lib.toList_data, hbl, hm]
    by_cases h0 : bg s.data.toList 0 = 0
    · rw [h0]; rfl
    · rw [decide_eq_false h0]
      cases hq : s.data.toList.take (bg s.data.toList 0) with
      | nil =>
        have h1 := congrArg List.length hq
        rw [List.length_take] at h1
        simp only [List.length_nil] at h1
        omega
      | cons a t => rfl⟩
  have HS : Hd (∀ n r, tk s.data.toList 0 0 = some (n, r) → m ≠ 0 ∧ strOfNums (num n) = b ∧ hv b.data.toList = n ∧ s.extract m s.size = ⟨r.toArray⟩) := ⟨by
    intro n r h
    obtain ⟨e1, e2, e3, e4, e5⟩ := ref_some h
    rw [← hm] at e1 e2 e4
    refine ⟨?_, ?_, ?_, ?_⟩
    · intro h0; rw [h0] at e1; exact e5 (List.eq_nil_of_length_eq_zero e1.symm)
    · rw [numB_str]
      refine (bytes_eq (a := b) (l := numB n) ?_).symm
      rw [hbl, e2]
    · rw [hbl, e2, e3]
    · rw [drop_bytes, e4]⟩
  have HX : Hd (tk s.data.toList 0 0 = none → strOfNums (num (hv b.data.toList)) ≠ b) := ⟨by
    intro h e
    refine ref_none h ?_
    rw [← hm, ← hbl]
    have := congrArg (fun x : ByteArray => x.data.toList) e
    rw [numB_str] at this
    exact this⟩
  clear hbl hb hm hle hsl hbs
  go_enter Try.func60, Try.ntmps60
  go_wp2_with fail
  refine (H0.out _).mono ?_; rintro e ws1 ⟨rfl, hs1⟩
  go_wp2_with fail
  have HB := Hd.mk hs1
  go_loopg [6, 7] (b.size) (fun kq v6 v7 w' => ∃ (j : Nat), j ≤ b.size ∧ v6 = .int .u64 ((hv (b.data.toList.drop j) : Nat) : Int) ∧ v7 = .int .i64 ((j : Int) - 1) ∧ Hd (kq = j) ∧ Hd (Below w.heap.size w w'))
  case atStart => exact ⟨b.size, by omega, by rw [List.drop_eq_nil_of_le (by exact Nat.le_refl _)]; rfl, rfl, ⟨rfl⟩, HB⟩
  case round =>
    clear HB hs1
    obtain ⟨j, hj, rfl, rfl, HK, HB⟩ := hrel
    by_cases h0 : j = 0
    · obtain rfl := h0
      cases hT : tk s.data.toList 0 0 with
      | none =>
        have hx := HX.out hT
        have HT := Hd.mk hT
        clear hT HS HX
        by_cases hm0 : m = 0
        · have he : b.toList = [] := by have := HE.out; rw [decide_eq_true hm0] at this; exact beq_iff_eq.1 this
          clear hm0
          go_wp2_with fail
          go_ret3
          exact ⟨by rw [HT.out]; rfl, HB.out⟩
        · have he : ¬ b.toList = [] := by have := HE.out; rw [decide_eq_false hm0] at this; exact beq_eq_false_iff_ne.1 this
          have he2 : (b.toList == []) = false := by have := HE.out; rw [decide_eq_false hm0] at this; exact this
          obtain ⟨A, hA⟩ : ∃ A, A = strOfNums (num (hv b.data.toList)) := ⟨_, rfl⟩
          rw [← hA] at hx HN
          have hx2 : ¬ A.toList = b.toList := fun e => hx (by
            rw [Lib.toList_data, Lib.toList_data] at e
            exact ByteArray.ext (Array.toList_inj.1 e))
          have hx3 : (A.toList != b.toList) = true := by simpa using hx2
          have hx4 : (A.toList == b.toList) = false := by simpa using hx2
          clear hm0 hx hA
          go_wp2_with fail
          refine (HN.out _).mono ?_; rintro e w5 ⟨rfl, h5⟩
          go_wp2_with fail
          go_ret3
          exact ⟨by rw [HT.out]; rfl, below_step HB.out h5⟩
      | some p =>
        obtain ⟨n, r⟩ := p
        obtain ⟨g1, g2, g3, g4⟩ := HS.out n r hT
        have HT := Hd.mk hT
        have he : ¬ b.toList = [] := by have := HE.out; rw [decide_eq_false g1] at this; exact beq_eq_false_iff_ne.1 this
        have he2 : (b.toList == []) = false := by have := HE.out; rw [decide_eq_false g1] at this; exact this
        have HN2 := HN.out
        rw [g3, g2] at HN2
        have HN3 := Hd.mk HN2
        have G3 : hv (b.data.toList.drop 0) = n := g3
        have G4 := Hd.mk g4
        have hbm : (b.size : Int) ≤ (s.size : Int) := by have := Hbs.out; omega
        have G5 : Hd (s.extract b.size s.size = ⟨r.toArray⟩) := ⟨by rw [Hbs.out]; exact g4⟩
        rw [G3]
        clear hT HS HX HN HN2 g1 g2 g3 g4 G3
        go_wp2_with fail
        refine (HN3.out _).mono ?_; rintro e w5 ⟨rfl, h5⟩
        go_wp2_with fail
        go_quiet (fail)
        go_wp2
        go_ret3
        refine ⟨congrArg Ending.returned ?_, by repeat (first | (with_reducible first | exact (below_step HB.out h5) | apply below_alloc | apply pw_below_drewN | apply below_drew1) | exact (below_step HB.out h5))⟩
        show Value.tuple #[.int .u64 (n : Int), .string (s.extract b.size s.size), .int .i64 0] = _
        rw [G5.out, HT.out]; rfl
    · have hj1 : j - 1 < b.size := by omega
      obtain ⟨i, rfl⟩ : ∃ i, j = i + 1 := ⟨j - 1, by omega⟩
      have hi : i < b.size := by omega
      have hd : Hd (hv (b.data.toList.drop i) = (128 * hv (b.data.toList.drop (i + 1)) + (b[i]'hi).toNat % 128) % 18446744073709551616) := ⟨by
        have h1 : i < b.data.toList.length := hi
        rw [List.drop_eq_getElem_cons h1]; rfl⟩
      have hc : (b[i]'hi).toNat < 256 := (b[i]'hi).toNat_lt
      go_wp2_with fail
      go_roundg i
      case measure => have := HK.out; omega
      case rel => exact ⟨i, by omega, by rw [hd.out]; congr 1; simp only [wrap_u64]; omega, by congr 1 <;> omega, ⟨rfl⟩, HB⟩
end Go.Proofs.Ytfcopeecgbgljaa
