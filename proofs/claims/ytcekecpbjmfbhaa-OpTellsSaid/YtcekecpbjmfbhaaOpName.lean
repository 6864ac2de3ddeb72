/- op.Name, and the document's: which texts are names. -/
import Derived.Test.YtcekecpbjmfbhaaAnyWalk
namespace Go.Proofs.Ytcekecpbjmfbhaa
open Go.RowKit Go.Proofs.YtcekecpbjmfbhaaW.PrintWords Go.Proofs.YtcekecpbjmfbhaaW.PrintLast Go.Proofs.YtcekecpbjmfbhaaW.PrintMore
set_option linter.unusedVariables false
set_option linter.unusedSimpArgs false

theorem str_of {s : ByteArray} {l : List UInt8} (h : s.toList = l) : s = ⟨l.toArray⟩ := by
  rw [Lib.toList_data] at h
  subst h
  cases s; simp
/-- Whether a text is a name. -/
def nameB (s : ByteArray) : Bool := decide (1 ≤ s.size ∧ s.size ≤ 8 ∧ s ≠ ⟨#[46]⟩ ∧ s ≠ ⟨#[46, 46]⟩) && cleanB s.data.toList
theorem empty_of {s : ByteArray} (h : s.size = 0) : s = ⟨#[]⟩ := by
  have : s.data.size = 0 := h
  cases s; simp_all
theorem name_shape {s : ByteArray} (h1 : 1 ≤ s.size) (h8 : s.size ≤ 8) (n1 : s ≠ ⟨#[46]⟩) (n2 : s ≠ ⟨#[46, 46]⟩) : nameB s = cleanB s.data.toList := by
  unfold nameB
  rw [decide_eq_true ⟨h1, h8, n1, n2⟩, Bool.true_and]
theorem name_not {s : ByteArray} (h : ¬ (1 ≤ s.size ∧ s.size ≤ 8 ∧ s ≠ ⟨#[46]⟩ ∧ s ≠ ⟨#[46, 46]⟩)) : nameB s = false := by
  unfold nameB
  rw [decide_eq_false h, Bool.false_and]
set_option maxHeartbeats 1000000 in
theorem op_Name (s : ByteArray) (w : World) : Calls Try.prog 26 #[.string s] w fun e w' => e = .returned (.bool (nameB s)) ∧ Below w.heap.size w w' := by
  by_cases h0 : s.size = 0
  · obtain rfl := empty_of h0
    have HN : Hd (nameB ⟨#[]⟩ = false) := ⟨by decide⟩
    clear h0
    go_enter Try.func26, Try.ntmps26
    go_wp2_with fail
    go_ret
    exact ⟨by rw [HN.out]; rfl, Below.refl _ _⟩
  · by_cases hd : s = ⟨#[46]⟩
    · subst hd
      have HN : Hd (nameB ⟨#[46]⟩ = false) := ⟨by decide⟩
      clear h0
      go_enter Try.func26, Try.ntmps26
      go_wp2_with fail
      go_ret
      exact ⟨by rw [HN.out]; rfl, Below.refl _ _⟩
    · by_cases hdd : s = ⟨#[46, 46]⟩
      · subst hdd
        have HN : Hd (nameB ⟨#[46, 46]⟩ = false) := ⟨by decide⟩
        clear h0 hd
        go_enter Try.func26, Try.ntmps26
        go_wp2_with fail
        go_ret
        exact ⟨by rw [HN.out]; rfl, Below.refl _ _⟩
      · have e0 : s.toList.isEmpty = false := by
          rw [Lib.toList_data]
          cases h : s.data.toList with
          | nil => have : s.data.toList.length = s.size := rfl; rw [h] at this; exact absurd this.symm h0
          | cons _ _ => rfl
        have e1 : ¬ s.toList = [46] := fun h => hd (str_of h)
        have e2 : ¬ s.toList = [46, 46] := fun h => hdd (str_of h)
        have e5 : (!s.toList.isEmpty) = true := by rw [e0]; rfl
        by_cases h8 : s.size ≤ 8
        · have HN := Hd.mk (name_shape (by omega) h8 hd hdd)
          have HC := Hd.mk (contains_any s h8)
          have hb2 : bad2 = ⟨#[47, 0]⟩ := rfl
          rw [hb2] at HC
          have d8 : (s.size : Int) ≤ 8 := by omega
          clear h0 hd hdd hb2
          go_enter Try.func26, Try.ntmps26
          go_wp2_with fail
          refine (HC.out _).mono ?_; rintro e w1 ⟨rfl, hb1⟩
          go_wp2_with fail
          go_ret
          exact ⟨by rw [HN.out]; simp [e1, e2], hb1⟩
        · have HN := Hd.mk (name_not (s := s) (fun h => h8 h.2.1))
          have d8 : ¬ (s.size : Int) ≤ 8 := by omega
          clear h0 hd hdd h8
          go_enter Try.func26, Try.ntmps26
          go_wp2_with fail
          go_ret
          exact ⟨by rw [HN.out]; rfl, Below.refl _ _⟩
/-- Whether a text has a byte. -/
def hasB (s : ByteArray) (c : UInt8) : Bool := s.data.toList.any fun b => b == c
theorem clean_has (s : ByteArray) : cleanB s.data.toList = (!hasB s 47 && !hasB s 0) := by
  unfold cleanB hasB
  generalize s.data.toList = l
  induction l with
  | nil => rfl
  | cons b t ih =>
    simp only [List.all_cons, List.any_cons, ih]
    cases h1 : b == 47 <;> cases h2 : b == 0 <;> simp [bne, h1, h2]
theorem has_take {s : ByteArray} {c : UInt8} {i : Nat} (hi : i < s.size) (h : (s.data.toList.take i).any (fun b => b == c) = false) : (s.data.toList.take (i + 1)).any (fun b => b == c) = (s[i] == c) := by
  rw [List.take_succ_eq_append_getElem (show i < s.data.toList.length from hi), List.any_append, h]
  simp only [List.any_cons, List.any_nil, Bool.or_false, Bool.false_or]
  rfl
theorem u8_beq (x c : UInt8) : (((x.toNat : Nat) : Int) == ((c.toNat : Nat) : Int)) = (x == c) := by
  by_cases h : x = c
  · subst h; simp
  · rw [beq_eq_false_iff_ne.2 h, beq_eq_false_iff_ne]
    intro e; exact h (UInt8.toNat_inj.1 (by omega))
set_option maxHeartbeats 1000000 in
theorem ref_has (s : ByteArray) (hs : s.size ≤ 140737488355328) (c : UInt8) (w : World) : Calls Try.prog 59 #[.string s, .int .u8 (c.toNat : Int)] w fun e w' => e = .returned (.bool (hasB s c)) ∧ Below w.heap.size w w' := by
  have HS := Hd.mk hs
  clear hs
  go_enter Try.func59, Try.ntmps59
  go_wp2_with fail
  go_loopg [5] s.size (fun g v5 wx => ∃ i : Nat, Hd (i + g = s.size) ∧ v5 = .int .i64 (i : Int) ∧ wx = w ∧ Hd ((s.data.toList.take i).any (fun b => b == c) = false))
  case atStart => exact ⟨0, ⟨by omega⟩, rfl, rfl, ⟨rfl⟩⟩
  case round =>
    obtain ⟨i, HG, rfl, rfl, HC⟩ := hrel
    by_cases hi : i < s.size
    · have d1 : (i : Int) < (s.size : Int) := by omega
      have hw1 : wrap64 ((i : Int) + 1) = ((i + 1 : Nat) : Int) := by have := HS.out; unfold wrap64; omega
      have HT := Hd.mk (has_take hi HC.out)
      have hu := u8_beq s[i] c
      cases hc : (s[i] == c) with
      | true =>
        rw [hc] at hu HT
        have HH : Hd (hasB s c = true) := ⟨by
          unfold hasB; rw [List.any_eq_true]
          have h := HT.out
          rw [List.any_eq_true] at h
          obtain ⟨x, hx, h⟩ := h
          exact ⟨x, List.mem_of_mem_take hx, h⟩⟩
        clear hc
        go_wp2_with fail
        go_ret
        exact ⟨by rw [HH.out]; rfl, Below.refl _ _⟩
      | false =>
        rw [hc] at hu HT
        have HI := Hd.mk hi
        clear hc
        go_wp2_with fail
        go_roundg (s.size - (i + 1))
        case measure => have := HG.out; have := HI.out; omega
        case rel => exact ⟨i + 1, ⟨by have := HG.out; have := HI.out; omega⟩, by first | rfl | congr 1, rfl, HT⟩
    · obtain rfl : i = s.size := by have := HG.out; omega
      have d1 : ¬ (s.size : Int) < (s.size : Int) := by omega
      have ht : s.data.toList.take s.size = s.data.toList := List.take_of_length_le (Nat.le_refl _)
      rw [ht] at HC
      clear ht hi
      go_wp2_with fail
      go_ret
      exact ⟨by unfold hasB; rw [HC.out]; rfl, Below.refl _ _⟩
set_option maxHeartbeats 1000000 in
theorem ref_Name (s : ByteArray) (w : World) : Calls Try.prog 33 #[.string s] w fun e w' => e = .returned (.bool (nameB s)) ∧ Below w.heap.size w w' := by
  by_cases h0 : s.size = 0
  · obtain rfl := empty_of h0
    have HN : Hd (nameB ⟨#[]⟩ = false) := ⟨by decide⟩
    clear h0
    go_enter Try.func33, Try.ntmps33
    go_wp2_with fail
    go_ret
    exact ⟨by rw [HN.out]; rfl, Below.refl _ _⟩
  · by_cases hd : s = ⟨#[46]⟩
    · subst hd
      have HN : Hd (nameB ⟨#[46]⟩ = false) := ⟨by decide⟩
      clear h0
      go_enter Try.func33, Try.ntmps33
      go_wp2_with fail
      go_ret
      exact ⟨by rw [HN.out]; rfl, Below.refl _ _⟩
    · by_cases hdd : s = ⟨#[46, 46]⟩
      · subst hdd
        have HN : Hd (nameB ⟨#[46, 46]⟩ = false) := ⟨by decide⟩
        clear h0 hd
        go_enter Try.func33, Try.ntmps33
        go_wp2_with fail
        go_ret
        exact ⟨by rw [HN.out]; rfl, Below.refl _ _⟩
      · have e1 : ¬ s.toList = [46] := fun h => hd (str_of h)
        have e2 : ¬ s.toList = [46, 46] := fun h => hdd (str_of h)
        have d1 : (1 : Int) ≤ (s.size : Int) := by omega
        by_cases h8 : s.size ≤ 8
        · have HN := Hd.mk (name_shape (by omega) h8 hd hdd)
          rw [clean_has] at HN
          have H1 := Hd.mk (ref_has s (by omega) 47)
          have H2 := Hd.mk (ref_has s (by omega) 0)
          have d8 : (s.size : Int) ≤ 8 := by omega
          clear h0 hd hdd
          cases hh : hasB s 47 with
          | true =>
            rw [hh] at H1 HN
            clear hh
            go_enter Try.func33, Try.ntmps33
            go_wp2_with fail
            refine (H1.out _).mono ?_; rintro e w1 ⟨rfl, hb1⟩
            go_wp2_with fail
            go_ret
            exact ⟨by rw [HN.out]; rfl, hb1⟩
          | false =>
            rw [hh] at H1 HN
            clear hh
            go_enter Try.func33, Try.ntmps33
            go_wp2_with fail
            refine (H1.out _).mono ?_; rintro e w1 ⟨rfl, hb1⟩
            go_wp2_with fail
            refine (H2.out _).mono ?_; rintro e w2 ⟨rfl, hb2⟩
            go_wp2_with fail
            go_ret
            exact ⟨by rw [HN.out]; simp [e1, e2], below_step hb1 hb2⟩
        · have HN := Hd.mk (name_not (s := s) (fun h => h8 h.2.1))
          have d8 : ¬ (s.size : Int) ≤ 8 := by omega
          clear h0 hd hdd h8
          go_enter Try.func33, Try.ntmps33
          go_wp2_with fail
          go_ret
          exact ⟨by rw [HN.out]; rfl, Below.refl _ _⟩
end Go.Proofs.Ytcekecpbjmfbhaa
