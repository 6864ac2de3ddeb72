/- The law OpNames: the walk. -/
import Derived.Test.YtcekecpbjmfbhaaOpMay2
namespace Go.Proofs.Ytcekecpbjmfbhaa.opNames
open Go.RowKit Go.Proofs.YtcekecpbjmfbhaaW.PrintWords Go.Proofs.YtcekecpbjmfbhaaW.PrintLast Go.Proofs.YtcekecpbjmfbhaaW.PrintMore
set_option linter.unusedVariables false
set_option linter.unusedSimpArgs false

theorem begin_name {s b : ByteArray} {k : Nat} (h : nameB s = true) (hk : 1 ≤ k) (hk2 : k ≤ s.size) (hb : b = s.extract 0 k) : nameB b = decide (b ≠ ⟨#[46]⟩ ∧ b ≠ ⟨#[46, 46]⟩) := by
  unfold nameB at h
  simp only [Bool.and_eq_true, decide_eq_true_eq] at h
  have hsz : b.size = k := by rw [hb, ByteArray.size_extract]; omega
  have hcl : cleanB b.data.toList = true := by
    have e : b.data.toList = s.data.toList.take k := by
      rw [hb]
      have : (s.extract 0 k).data = s.data.extract 0 k := by simp
      rw [this]; simp
    rw [e]
    unfold cleanB at h ⊢
    rw [List.all_eq_true] at h ⊢
    exact fun x hx => h.2 x (List.mem_of_mem_take hx)
  unfold nameB
  rw [hcl, Bool.and_true, decide_eq_decide]
  constructor
  · intro h2; exact ⟨h2.2.2.1, h2.2.2.2⟩
  · intro h2; exact ⟨by omega, by omega, h2.1, h2.2⟩
theorem long_name {s : ByteArray} (h : 9 ≤ s.size) : nameB s = false := name_not (fun h2 => by omega)
theorem not_bad {s : ByteArray} (h : nameB s = true) {i : Nat} (hi : i < s.size) : s[i] ≠ 47 ∧ s[i] ≠ 0 := by
  unfold nameB at h
  simp only [Bool.and_eq_true, decide_eq_true_eq] at h
  unfold cleanB at h
  rw [List.all_eq_true] at h
  have := h.2 s[i] (by have : s.data.toList[i]'hi = s[i] := rfl; rw [← this]; exact List.getElem_mem _)
  simpa using this
set_option maxHeartbeats 2000000 in
set_option maxRecDepth 100000 in
theorem law_OpNames' (s : ByteArray) (c : Nat) (hc : c < 256) (w : World) : Calls Try.prog 9 #[.string s, .int .u8 (c : Int)] w fun e w' => e = .returned (.bool true) ∧ Below w.heap.size w w' := by
  have HS := Hd.mk op_shown
  have HN := Hd.mk (op_Name s)
  cases hn : nameB s with
  | false =>
    rw [hn] at HN
    clear hn
    go_enter Try.func9, Try.ntmps9
    go_wp2_with fail
    refine (HS.out _).mono ?_; rintro e w1 ⟨rfl, hb1⟩
    go_wp2_with fail
    refine (HN.out _).mono ?_; rintro e w2 ⟨rfl, hb2⟩
    go_wp2_with fail
    go_ret
    exact ⟨rfl, below_step hb1 hb2⟩
  | true =>
    rw [hn] at HN
    have hsh := hn
    unfold nameB at hsh
    simp only [Bool.and_eq_true, decide_eq_true_eq] at hsh
    obtain ⟨⟨h1, h8, n1, n2⟩, hcl⟩ := hsh
    obtain ⟨k, hk⟩ : ∃ k, k = c % s.size := ⟨_, rfl⟩
    have hkl : k < s.size := by rw [hk]; exact Nat.mod_lt c (by omega)
    have hk2 : ((c : Int) % (s.size : Int)) = (k : Int) := by rw [hk, Int.natCast_emod]
    have hk3 : Int.tmod (c : Int) (s.size : Int) = (k : Int) := by rw [Int.tmod_eq_emod_of_nonneg (by omega)]; exact hk2
    have hk5 : IntKind.i64.wrap ((c : Nat) : Int) = (c : Int) := by rw [IntKind.wrap_i64]; omega
    have hnz : (s.size : Int) ≠ 0 := by omega
    obtain ⟨b, hb⟩ : ∃ b, b = s.extract 0 (1 + k) := ⟨_, rfl⟩
    have hbn := begin_name hn (by omega) (by omega) hb
    have HB := Hd.mk (op_Name b)
    have HX1 := Hd.mk (op_Name (s ++ ⟨#[47]⟩))
    rw [name_slash] at HX1
    have HX2 := Hd.mk (op_Name (s ++ s ++ s ++ s ++ s ++ s ++ s ++ s ++ s))
    rw [long_name (by simp only [ByteArray.size_append]; omega)] at HX2
    have HBD := Hd.mk (fun i (hi : i < s.size) => not_bad hn hi)
    have e1 : ¬ s.toList = [46] := fun h => n1 (str_of h)
    have e2 : ¬ s.toList = [46, 46] := fun h => n2 (str_of h)
    have hsz9 : (s.size : Int) ≤ 8 := by omega
    have hkl2 : (k : Int) < (s.size : Int) := by omega
    have HBE : Hd (s.extract 0 (1 + k) = b) := ⟨hb.symm⟩
    have H8 := Hd.mk h8
    have HKL := Hd.mk hkl
    have q1 : s.size + 1 ≤ 9223372036854775807 := by omega
    have q2 : s.size + s.size ≤ 9223372036854775807 := by omega
    have q3 : s.size + s.size + s.size ≤ 9223372036854775807 := by omega
    have q4 : s.size + s.size + s.size + s.size ≤ 9223372036854775807 := by omega
    have q5 : s.size + s.size + s.size + s.size + s.size ≤ 9223372036854775807 := by omega
    have q6 : s.size + s.size + s.size + s.size + s.size + s.size ≤ 9223372036854775807 := by omega
    have q7 : s.size + s.size + s.size + s.size + s.size + s.size + s.size ≤ 9223372036854775807 := by omega
    have q8 : s.size + s.size + s.size + s.size + s.size + s.size + s.size + s.size ≤ 9223372036854775807 := by omega
    have q9 : s.size + s.size + s.size + s.size + s.size + s.size + s.size + s.size + s.size ≤ 9223372036854775807 := by omega
    clear hn n1 n2 hcl hk hb h1 h8 hc hkl
    go_enter Try.func9, Try.ntmps9
    go_wp2_with fail
    refine (HS.out _).mono ?_; rintro e w1 ⟨rfl, hb1⟩
    go_wp2_with fail
    refine (HN.out _).mono ?_; rintro e w2 ⟨rfl, hb2⟩
    have HB2 := Hd.mk (below_step hb1 hb2)
    clear hb1 hb2 HS HN
    go_wp2_with fail
    rw [HBE.out]
    clear hk2 hk3 hk5 hnz hkl2
    go_loopg [8] s.size (fun g v8 wx => ∃ i : Nat, Hd (i + g = s.size) ∧ v8 = .int .i64 (i : Int) ∧ wx = w2)
    case atStart => exact ⟨0, ⟨by omega⟩, rfl, rfl⟩
    case round =>
      obtain ⟨i, HG, rfl, rfl⟩ := hrel
      by_cases hi : i < s.size
      · have d1 : (i : Int) < (s.size : Int) := by omega
        have hw1 : wrap64 ((i : Int) + 1) = ((i + 1 : Nat) : Int) := by unfold wrap64; omega
        obtain ⟨b1, b2⟩ := HBD.out i hi
        have u1 := u8_beq s[i] 47
        have u2 := u8_beq s[i] 0
        rw [beq_eq_false_iff_ne.2 b1] at u1
        rw [beq_eq_false_iff_ne.2 b2] at u2
        have u3 : (((s[i]).toNat : Int) == 47) = false := u1
        have u4 : (((s[i]).toNat : Int) == 0) = false := u2
        have HI := Hd.mk hi
        clear b1 b2 u1 u2
        go_wp2_with fail
        go_roundg (s.size - (i + 1))
        case measure => have := HG.out; have := HI.out; omega
        case rel => exact ⟨i + 1, ⟨by have := HG.out; have := HI.out; omega⟩, by first | rfl | congr 1, rfl⟩
      · obtain rfl : i = s.size := by have := HG.out; omega
        have d1 : ¬ (s.size : Int) < (s.size : Int) := by omega
        clear hi
        by_cases hx1 : b = ⟨#[46]⟩
        · have f1 : b.toList = [46] := by rw [hx1, Lib.toList_data]
          rw [decide_eq_false (fun h => h.1 hx1)] at hbn
          rw [hbn] at HB
          clear hbn hx1
          go_wp2_with fail
          refine (HB.out _).mono ?_; rintro e w3 ⟨rfl, hb3⟩
          have HB3 := Hd.mk (below_step HB2.out hb3)
          clear hb3
          go_wp2_with fail
          refine (HX1.out _).mono ?_; rintro e w4 ⟨rfl, hb4⟩
          have HB4 := Hd.mk (below_step HB3.out hb4)
          clear hb4
          go_wp2_with fail
          refine (HX2.out _).mono ?_; rintro e w5 ⟨rfl, hb5⟩
          have HB5 := Hd.mk (below_step HB4.out hb5)
          clear hb5
          go_wp2_with fail
          go_ret
          exact ⟨by simp [e1, e2], HB5.out⟩
        · have f1 : ¬ b.toList = [46] := fun h => hx1 (str_of h)
          by_cases hx2 : b = ⟨#[46, 46]⟩
          · have f2 : b.toList = [46, 46] := by rw [hx2, Lib.toList_data]
            rw [decide_eq_false (fun h => h.2 hx2)] at hbn
            rw [hbn] at HB
            clear hbn hx1 hx2
            go_wp2_with fail
            refine (HB.out _).mono ?_; rintro e w3 ⟨rfl, hb3⟩
            have HB3 := Hd.mk (below_step HB2.out hb3)
            clear hb3
            go_wp2_with fail
            refine (HX1.out _).mono ?_; rintro e w4 ⟨rfl, hb4⟩
            have HB4 := Hd.mk (below_step HB3.out hb4)
            clear hb4
            go_wp2_with fail
            refine (HX2.out _).mono ?_; rintro e w5 ⟨rfl, hb5⟩
            have HB5 := Hd.mk (below_step HB4.out hb5)
            clear hb5
            go_wp2_with fail
            go_ret
            exact ⟨by simp [e1, e2], HB5.out⟩
          · have f2 : ¬ b.toList = [46, 46] := fun h => hx2 (str_of h)
            rw [decide_eq_true ⟨hx1, hx2⟩] at hbn
            rw [hbn] at HB
            clear hbn hx1 hx2
            go_wp2_with fail
            refine (HB.out _).mono ?_; rintro e w3 ⟨rfl, hb3⟩
            have HB3 := Hd.mk (below_step HB2.out hb3)
            clear hb3
            go_wp2_with fail
            refine (HX1.out _).mono ?_; rintro e w4 ⟨rfl, hb4⟩
            have HB4 := Hd.mk (below_step HB3.out hb4)
            clear hb4
            go_wp2_with fail
            refine (HX2.out _).mono ?_; rintro e w5 ⟨rfl, hb5⟩
            have HB5 := Hd.mk (below_step HB4.out hb5)
            clear hb5
            go_wp2_with fail
            go_ret
            exact ⟨by simp [e1, e2, f1, f2], HB5.out⟩
theorem law_OpNames (s : ByteArray) (hs : s.size ≤ 140737488351232) (c0 : Int) (hc0 : (Lit.int .u8 c0).wf = true) (w : World) : Calls Try.prog 9 #[.string s, .int .u8 c0] w fun e w' => e = .returned (.bool true) ∧ Below w.heap.size w w' := by
  obtain ⟨c, rfl, hc⟩ := u8_of hc0
  exact law_OpNames' s c hc w
end Go.Proofs.Ytcekecpbjmfbhaa.opNames
