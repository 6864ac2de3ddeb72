/- The law that packing is the document's, walked: it returns true, whatever comes in. -/
import Derived.Test.YtgflbllflekkeaaRefInt
import Derived.Test.YtgflbllflekkeaaPackEnds
namespace Go.Proofs.Ytgflbllflekkeaa
open Go.RowKit Go.Proofs.YtgflbllflekkeaaW.PrintWords Go.Proofs.YtgflbllflekkeaaW.PrintLast Go.Proofs.YtgflbllflekkeaaW.PrintMore Pk
set_option linter.unusedVariables false
set_option linter.unusedSimpArgs false

set_option maxHeartbeats 2000000 in
set_option maxRecDepth 100000 in
theorem law_PackTells' (n : Nat) (hn : n < 18446744073709551616) (s t : ByteArray) (hs : s.size ≤ 140737488351232) (ht : t.size ≤ 140737488351232) (most : Int) (hm0 : -9223372036854775808 ≤ most) (hm1 : most ≤ 9223372036854775807) (w : World) :
    Calls Try.prog 9 #[.int .u64 (n : Int), .string s, .string t, .int .i64 most] w fun e w' => e = .returned (.bool true) ∧ Below w.heap.size w w' := by
  have H0 := Hd.mk shown1
  have hw := wrap_i64 (n : Int)
  by_cases hg : 2000 < s.size ∨ 2000 < t.size
  · have Hn := Hd.mk hn
    clear hn hw
    by_cases hg1 : 2000 < s.size
    · clear hg
      go_enter Try.func9, Try.ntmps9
      go_wp2_with (go_at_call 12; refine (H0.out _).mono ?_; rintro e w1 ⟨rfl, hb1⟩)
      all_goals (go_ret; exact ⟨rfl, hb1⟩)
    · have hg2 : 2000 < t.size := by omega
      clear hg
      go_enter Try.func9, Try.ntmps9
      go_wp2_with (go_at_call 12; refine (H0.out _).mono ?_; rintro e w1 ⟨rfl, hb1⟩)
      all_goals (go_ret; exact ⟨rfl, hb1⟩)
  · have hg1 : s.size ≤ 2000 := by omega
    have hg2 : t.size ≤ 2000 := by omega
    clear hg
    have E1 := pack_TakeNum s (by unfold maxLen; omega)
    have E2 := ref_TakeNum s (by omega)
    have E3 := pack_TakeInt s (by unfold maxLen; omega)
    have E4 := ref_TakeInt s (by omega)
    have E5 := pack_TakeText s (by omega) most hm0 hm1
    have E6 := ref_TakeText s (by omega) most hm0 hm1
    have H7 := Hd.mk (fun w => pack_Num n ⟨hn⟩ w)
    have H8 := Hd.mk (fun w => ref_Num n ⟨hn⟩ w)
    have H9 := Hd.mk (fun w => pack_Int (wrap64 (n : Int)) hw.1 hw.2 w)
    have H10 := Hd.mk (fun w => ref_Int (wrap64 (n : Int)) hw.1 hw.2 w)
    have H11 := Hd.mk (fun w => pack_Text t (by omega) w)
    have H12 := Hd.mk (fun w => ref_Text t (by omega) w)
    obtain ⟨v1, r1, c1, e1, e1'⟩ : ∃ (v : Int) (r : ByteArray) (c : Int), tnV (tk s.data.toList 0 0) = .tuple #[.int .u64 v, .string r, .int .i64 c] ∧ -9223372036854775808 ≤ c ∧ c ≤ 9223372036854775807 := by
      cases tk s.data.toList 0 0 with
      | none => exact ⟨_, _, _, rfl, by decide, by decide⟩
      | some p => exact ⟨_, _, _, rfl, by decide, by decide⟩
    obtain ⟨v2, r2, c2, e2, e2'⟩ : ∃ (v : Int) (r : ByteArray) (c : Int), tiV (tk s.data.toList 0 0) = .tuple #[.int .i64 v, .string r, .int .i64 c] ∧ -9223372036854775808 ≤ c ∧ c ≤ 9223372036854775807 := by
      cases tk s.data.toList 0 0 with
      | none => exact ⟨_, _, _, rfl, by decide, by decide⟩
      | some p => exact ⟨_, _, _, rfl, by decide, by decide⟩
    obtain ⟨v3, r3, c3, e3, e3'⟩ : ∃ (v : ByteArray) (r : ByteArray) (c : Int), txV (tx most (tk s.data.toList 0 0)) = .tuple #[.string v, .string r, .int .i64 c] ∧ -9223372036854775808 ≤ c ∧ c ≤ 9223372036854775807 := by
      cases tx most (tk s.data.toList 0 0) with
      | none => exact ⟨_, _, _, rfl, by decide, by decide⟩
      | some p => exact ⟨_, _, _, rfl, by decide, by decide⟩
    rw [e1] at E1 E2
    rw [e2] at E3 E4
    rw [e3] at E5 E6
    have H1 := Hd.mk E1
    have H2 := Hd.mk E2
    have H3 := Hd.mk E3
    have H4 := Hd.mk E4
    have H5 := Hd.mk E5
    have H6 := Hd.mk E6
    clear E1 E2 E3 E4 E5 E6 e1 e2 e3 hn hw
    generalize strOfNums (num n) = a at *
    generalize strOfNums (num (zig (wrap64 (n : Int)))) = b at *
    generalize strOfNums (num t.size) ++ t = x at *
    go_enter Try.func9, Try.ntmps9
    go_wp2_with fail
    refine (H0.out _).mono ?_; rintro e ws1 ⟨rfl, hs1⟩
    go_wp2_with fail
    refine (H1.out _).mono ?_; rintro e ws2 ⟨rfl, hs2⟩
    go_wp2_with fail
    refine (H2.out _).mono ?_; rintro e ws3 ⟨rfl, hs3⟩
    go_wp2_with fail
    refine (H3.out _).mono ?_; rintro e ws4 ⟨rfl, hs4⟩
    go_wp2_with fail
    refine (H4.out _).mono ?_; rintro e ws5 ⟨rfl, hs5⟩
    go_wp2_with fail
    refine (H5.out _).mono ?_; rintro e ws6 ⟨rfl, hs6⟩
    go_wp2_with fail
    refine (H6.out _).mono ?_; rintro e ws7 ⟨rfl, hs7⟩
    go_wp2_with fail
    refine (H7.out _).mono ?_; rintro e ws8 ⟨rfl, hs8⟩
    go_wp2_with fail
    refine (H8.out _).mono ?_; rintro e ws9 ⟨rfl, hs9⟩
    go_wp2_with fail
    refine (H9.out _).mono ?_; rintro e ws10 ⟨rfl, hs10⟩
    go_wp2_with fail
    refine (H10.out _).mono ?_; rintro e ws11 ⟨rfl, hs11⟩
    go_wp2_with fail
    refine (H11.out _).mono ?_; rintro e ws12 ⟨rfl, hs12⟩
    go_wp2_with fail
    refine (H12.out _).mono ?_; rintro e ws13 ⟨rfl, hs13⟩
    go_wp2_with fail
    go_ret
    exact ⟨rfl, (below_step (below_step (below_step (below_step (below_step (below_step (below_step (below_step (below_step (below_step (below_step (below_step hs1 hs2) hs3) hs4) hs5) hs6) hs7) hs8) hs9) hs10) hs11) hs12) hs13)⟩
end Go.Proofs.Ytgflbllflekkeaa
namespace Go.Proofs.Ytgflbllflekkeaa.packTells
open Go.RowKit Go.Proofs.YtgflbllflekkeaaW.PrintWords Go.Proofs.YtgflbllflekkeaaW.PrintLast Go.Proofs.YtgflbllflekkeaaW.PrintMore
theorem law_PackTells (n : Int) (hn : (Lit.int .u64 n).wf = true) (s : ByteArray) (hs : s.size ≤ 140737488351232) (t : ByteArray) (ht : t.size ≤ 140737488351232) (most : Int) (hm : (Lit.int .i64 most).wf = true) (w : World) :
    Calls Try.prog 9 #[.int .u64 n, .string s, .string t, .int .i64 most] w fun e w' => e = .returned (.bool true) ∧ Below w.heap.size w w' := by
  obtain ⟨m, rfl, hm2⟩ := u64_of hn
  exact law_PackTells' m hm2 s t hs ht most (i64_of hm).1 (i64_of hm).2 w
end Go.Proofs.Ytgflbllflekkeaa.packTells
