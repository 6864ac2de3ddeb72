/- The laws of packing, walked: each returns true, whatever comes in. -/
import Derived.Test.YtgflbllflekkeaaPackUse
namespace Go.Proofs.Ytgflbllflekkeaa
open Go.RowKit Go.Proofs.YtgflbllflekkeaaW.PrintWords Go.Proofs.YtgflbllflekkeaaW.PrintLast Go.Proofs.YtgflbllflekkeaaW.PrintMore Pk
set_option linter.unusedVariables false
set_option linter.unusedSimpArgs false

theorem num300 : (strOfNums (num 300)).toList = [172, 2] := by
  have e1 : num 300 = [172, 2] := by rw [num_big (by decide), num_small (by decide)]; rfl
  rw [e1, Lib.toList_data]; rfl
theorem num1 : (strOfNums (num 1)).toList = [1] := by
  have e1 : num 1 = [1] := by rw [num_small (by decide)]; rfl
  rw [e1, Lib.toList_data]; rfl

theorem shown1 (w : World) : Calls Try.prog 12 #[] w fun e w' => e = .returned (.bool true) ∧ Below w.heap.size w w' := by
  have g1 := num300
  have g2 := num1
  have H1 := Hd.mk (pack_Num 300 ⟨by decide⟩)
  have H2 := pack_Int (-1) (by decide) (by decide)
  rw [show zig (-1) = 1 from by decide] at H2
  have H2 := Hd.mk H2
  obtain ⟨a, ha⟩ : ∃ a, a = strOfNums (num 300) := ⟨_, rfl⟩
  obtain ⟨b, hb⟩ : ∃ b, b = strOfNums (num 1) := ⟨_, rfl⟩
  rw [← ha] at g1 H1
  rw [← hb] at g2 H2
  clear ha hb
  go_enter Try.func12, Try.ntmps12
  go_wp2_with (first | (go_at_call 13; refine (H1.out _).mono ?_; rintro e w1 ⟨rfl, hb1⟩) | (go_at_call 14; refine (H2.out _).mono ?_; rintro e w2 ⟨rfl, hb2⟩))
  go_ret
  exact ⟨rfl, below_step hb1 hb2⟩

theorem wrap_i64 (n : Int) : -9223372036854775808 ≤ wrap64 n ∧ wrap64 n ≤ 9223372036854775807 := by unfold wrap64; omega

theorem law_PackBack (n : Nat) (hn : n < 18446744073709551616) (t s : ByteArray) (ht : t.size ≤ 140737488351232) (hs : s.size ≤ 140737488351232) (w : World) :
    Calls Try.prog 10 #[.int .u64 (n : Int), .string t, .string s] w fun e w' => e = .returned (.bool true) ∧ Below w.heap.size w w' := by
  have hw := wrap_i64 (n : Int)
  by_cases hg : 2000 < t.size ∨ 2000 < s.size
  · have Hn := Hd.mk hn
    clear hn hw
    by_cases hg1 : 2000 < t.size
    · clear hg
      go_enter Try.func10, Try.ntmps10
      go_wp2_with (go_at_call 12; refine (shown1 _).mono ?_; rintro e w1 ⟨rfl, hb1⟩)
      all_goals (go_ret; exact ⟨rfl, hb1⟩)
    · have hg2 : 2000 < s.size := by omega
      clear hg
      go_enter Try.func10, Try.ntmps10
      go_wp2_with (go_at_call 12; refine (shown1 _).mono ?_; rintro e w1 ⟨rfl, hb1⟩)
      all_goals (go_ret; exact ⟨rfl, hb1⟩)
  · have hg1 : t.size ≤ 2000 := by omega
    have hg2 : s.size ≤ 2000 := by omega
    clear hg ht hs
    have H1 := Hd.mk (pack_Num n ⟨hn⟩)
    have H2 := Hd.mk (take_num n hn s (by omega))
    have H3 := Hd.mk (pack_Int (wrap64 (n : Int)) hw.1 hw.2)
    have H4 := Hd.mk (take_int (wrap64 (n : Int)) hw.1 hw.2 s (by omega))
    have H5 := Hd.mk (pack_Text t (by omega))
    have H6 := Hd.mk (take_text t s (by omega) (by omega) t.size (by omega) (by omega))
    have H7 := Hd.mk (take_text_short t s (by omega) (by omega) ((t.size : Int) - 1) (by omega) (by omega))
    have z1 := num_size hn
    have z2 := num_size (zig_lt hw.1 hw.2)
    have z3 := num_size (n := t.size) (by omega)
    have z4 : (strOfNums (num t.size) ++ t).size ≤ 2010 := by rw [size_app]; omega
    generalize strOfNums (num n) = a at *
    generalize strOfNums (num (zig (wrap64 (n : Int)))) = b at *
    generalize strOfNums (num t.size) ++ t = x at *
    clear hn hw z3
    go_enter Try.func10, Try.ntmps10
    go_wp2_with (go_at_call 12; refine (shown1 _).mono ?_; rintro e w1 ⟨rfl, h1⟩)
    refine (H1.out _).mono ?_; rintro e w2 ⟨rfl, h2⟩
    go_wp2_with fail
    refine (H2.out _).mono ?_; rintro e w3 ⟨rfl, h3⟩
    go_wp2_with fail
    refine (H3.out _).mono ?_; rintro e w4 ⟨rfl, h4⟩
    go_wp2_with fail
    refine (H4.out _).mono ?_; rintro e w5 ⟨rfl, h5⟩
    go_wp2_with fail
    refine (H5.out _).mono ?_; rintro e w6 ⟨rfl, h6⟩
    go_wp2_with fail
    refine (H6.out _).mono ?_; rintro e w7 ⟨rfl, h7⟩
    go_wp2_with fail
    refine (H5.out _).mono ?_; rintro e w8 ⟨rfl, h8⟩
    go_wp2_with fail
    refine (H7.out _).mono ?_; rintro e w9 ⟨rfl, h9⟩
    go_wp2_with fail
    go_ret
    exact ⟨rfl, below_step (below_step (below_step (below_step (below_step (below_step (below_step (below_step h1 h2) h3) h4) h5) h6) h7) h8) h9⟩

theorem law_PackVery (s : ByteArray) (most : Int) (hs : s.size ≤ 140737488351232) (hm0 : -9223372036854775808 ≤ most) (hm1 : most ≤ 9223372036854775807) (w : World) :
    Calls Try.prog 11 #[.string s, .int .i64 most] w fun e w' => e = .returned (.bool true) ∧ Below w.heap.size w w' := by
  have H0 := Hd.mk shown1
  have E1 := pack_TakeNum s (by unfold maxLen; omega)
  have E2 := pack_TakeInt s (by unfold maxLen; omega)
  have E3 := pack_TakeText s (by omega) most hm0 hm1
  by_cases hg : 2000 < s.size
  · clear E1 E2 E3
    go_enter Try.func11, Try.ntmps11
    go_wp2_with fail
    refine (H0.out _).mono ?_; rintro e ws1 ⟨rfl, hs1⟩
    go_wp2_with fail
    go_ret
    exact ⟨rfl, hs1⟩
  · have hg2 : s.size ≤ 2000 := by omega
    clear hg hs
    cases hT : tk s.data.toList 0 0 with
    | none =>
      rw [hT] at E1 E2 E3
      simp only [tnV, tiV, tx, txV] at E1 E2 E3
      have H1 := Hd.mk E1
      have H2 := Hd.mk E2
      have H3 := Hd.mk E3
      clear E1 E2 E3 hT
      go_enter Try.func11, Try.ntmps11
      go_wp2_with fail
      refine (H0.out _).mono ?_; rintro e ws2 ⟨rfl, hs2⟩
      go_wp2_with fail
      refine (H1.out _).mono ?_; rintro e ws3 ⟨rfl, hs3⟩
      go_wp2_with fail
      refine (H2.out _).mono ?_; rintro e ws4 ⟨rfl, hs4⟩
      go_wp2_with fail
      refine (H3.out _).mono ?_; rintro e ws5 ⟨rfl, hs5⟩
      go_wp2_with fail
      go_ret
      exact ⟨rfl, (below_step (below_step (below_step hs2 hs3) hs4) hs5)⟩
    | some p =>
      obtain ⟨n, r⟩ := p
      have hb := tk_bytes hT
      have hn := tk_bd _ _ _ _ _ (by decide) (by decide) hT
      have hrl := tk_len _ _ _ _ _ hT
      have hlen : s.data.toList.length = s.size := rfl
      have hbd := unzig_bd hn
      rw [hT] at E1 E2 E3
      obtain ⟨q, hq⟩ : ∃ q : ByteArray, q = ⟨r.toArray⟩ := ⟨_, rfl⟩
      have hqs : q.size ≤ 2000 := by rw [hq, size_of]; omega
      have hcat : strOfNums (num n) ++ q = s := by
        rw [hq, numB_str, mk_append, ← hb]
      simp only [tnV, tiV] at E1 E2
      rw [← hq] at E1 E2
      have H1 := Hd.mk E1
      have H2 := Hd.mk E2
      have H4 := Hd.mk (pack_Num n ⟨hn⟩)
      have E5 := pack_Int (unzig n) hbd.1 hbd.2
      rw [zig_unzig] at E5
      have H5 := Hd.mk E5
      have z1 := num_size hn
      clear E1 E2 E5
      by_cases hbad : most < 0 ∨ most < n ∨ r.length < n
      · have hv : tx most (some (n, r)) = none := by show (if _ then _ else _) = _; rw [if_pos hbad]
        rw [hv] at E3
        simp only [txV] at E3
        have H3 := Hd.mk E3
        clear E3 hb hT hq hrl hbad hv hlen hbd hn
        generalize strOfNums (num n) = a at *
        go_enter Try.func11, Try.ntmps11
        go_wp2_with fail
        refine (H0.out _).mono ?_; rintro e ws6 ⟨rfl, hs6⟩
        go_wp2_with fail
        refine (H1.out _).mono ?_; rintro e ws7 ⟨rfl, hs7⟩
        go_wp2_with fail
        refine (H2.out _).mono ?_; rintro e ws8 ⟨rfl, hs8⟩
        go_wp2_with fail
        refine (H3.out _).mono ?_; rintro e ws9 ⟨rfl, hs9⟩
        go_wp2_with fail
        refine (H4.out _).mono ?_; rintro e ws10 ⟨rfl, hs10⟩
        go_wp2_with fail
        refine (H5.out _).mono ?_; rintro e ws11 ⟨rfl, hs11⟩
        go_wp2_with fail
        go_ret
        exact ⟨rfl, (below_step (below_step (below_step (below_step (below_step hs6 hs7) hs8) hs9) hs10) hs11)⟩
      · have hv : tx most (some (n, r)) = some (r.take n, r.drop n) := by show (if _ then _ else _) = _; rw [if_neg hbad]
        rw [hv] at E3
        simp only [txV] at E3
        obtain ⟨x, hx⟩ : ∃ x : ByteArray, x = ⟨(r.take n).toArray⟩ := ⟨_, rfl⟩
        obtain ⟨y, hy⟩ : ∃ y : ByteArray, y = ⟨(r.drop n).toArray⟩ := ⟨_, rfl⟩
        have hxn : x.size = n := by rw [hx, size_of, List.length_take]; omega
        have hxy : strOfNums (num x.size) ++ x ++ y = s := by
          rw [hxn, hx, hy, numB_str, mk_append, mk_append, List.append_assoc, List.take_append_drop, ← hb]
        have hys : y.size ≤ 2000 := by rw [hy, size_of, List.length_drop]; omega
        have hxm : (x.size : Int) ≤ most := by omega
        have hx2 : x.size ≤ 2000 := by omega
        rw [← hx, ← hy] at E3
        have H3 := Hd.mk E3
        have H6 := Hd.mk (pack_Text x (by omega))
        have z2 : (strOfNums (num x.size) ++ x).size ≤ 2010 := by rw [size_app]; have := num_size (n := x.size) (by omega); omega
        clear E3 hb hT hq hrl hbad hv hlen hbd hn hx hy hxn
        generalize strOfNums (num n) = a at *
        generalize strOfNums (num x.size) ++ x = b at *
        go_enter Try.func11, Try.ntmps11
        go_wp2_with fail
        refine (H0.out _).mono ?_; rintro e ws12 ⟨rfl, hs12⟩
        go_wp2_with fail
        refine (H1.out _).mono ?_; rintro e ws13 ⟨rfl, hs13⟩
        go_wp2_with fail
        refine (H2.out _).mono ?_; rintro e ws14 ⟨rfl, hs14⟩
        go_wp2_with fail
        refine (H3.out _).mono ?_; rintro e ws15 ⟨rfl, hs15⟩
        go_wp2_with fail
        refine (H4.out _).mono ?_; rintro e ws16 ⟨rfl, hs16⟩
        go_wp2_with fail
        refine (H5.out _).mono ?_; rintro e ws17 ⟨rfl, hs17⟩
        go_wp2_with fail
        refine (H6.out _).mono ?_; rintro e ws18 ⟨rfl, hs18⟩
        go_wp2_with fail
        go_ret
        exact ⟨rfl, (below_step (below_step (below_step (below_step (below_step (below_step hs12 hs13) hs14) hs15) hs16) hs17) hs18)⟩
end Go.Proofs.Ytgflbllflekkeaa
