/- pack.Text, TakeInt and TakeText: their contracts. -/
import Derived.Test.YtgflbllflekkeaaPackTake
namespace Go.Proofs.Ytgflbllflekkeaa
open Go.RowKit Go.Proofs.YtgflbllflekkeaaW.PrintWords Go.Proofs.YtgflbllflekkeaaW.PrintLast Go.Proofs.YtgflbllflekkeaaW.PrintMore Pk
set_option linter.unusedVariables false
set_option linter.unusedSimpArgs false

theorem pack_Text (t : ByteArray) (ht : t.size ≤ 140737488355328) (w : World) :
    Calls Try.prog 30 #[.string t] w fun e w' => e = .returned (.string (strOfNums (num t.size) ++ t)) ∧ Below w.heap.size w w' := by
  have hl := (num_len10 (n := t.size) (by omega)).2
  have hz : (strOfNums (num t.size)).size ≤ 10 := by rw [strOfNums_size]; exact hl
  have hs : (strOfNums (num t.size)).size + t.size ≤ 9223372036854775807 := by omega
  have hlt : Hd (t.size < 18446744073709551616) := ⟨by omega⟩
  go_enter Try.func30, Try.ntmps30
  go_wp2_with (go_at_call 13; refine (pack_Num _ hlt _).mono ?_; rintro e w1 ⟨rfl, hb⟩)
  go_ret
  exact ⟨rfl, hb⟩

theorem unzig_walk {n : Nat} (h : n < 18446744073709551616) : bits BinOp.xor IntKind.i64 (wrap64 ((n : Int) / 2)) (wrap64 (-wrap64 (bits BinOp.and IntKind.u64 (n : Int) 1))) = unzig n := by
  rw [and_one64 (x := n) (by omega) (by omega)]
  have e1 : wrap64 ((n : Int) / 2) = (n : Int) / 2 := by unfold wrap64; omega
  have e2 : wrap64 (-wrap64 ((n : Int) % 2)) = -((n : Int) % 2) := by
    have : wrap64 ((n : Int) % 2) = (n : Int) % 2 := by unfold wrap64; omega
    rw [this]; unfold wrap64; omega
  rw [e1, e2, unzig_bits h]

theorem pack_TakeInt (s : ByteArray) (hs : s.size ≤ maxLen) (w : World) :
    Calls Try.prog 24 #[.string s] w fun e w' => e = .returned (tiV (tk s.data.toList 0 0)) ∧ Below w.heap.size w w' := by
  have H := pack_TakeNum s hs
  cases hT : tk s.data.toList 0 0 with
  | none =>
    rw [hT] at H
    simp only [tnV] at H
    have H' := Hd.mk H
    clear H hT
    go_enter Try.func24, Try.ntmps24
    have e0 := xor_i64_zero (x := 0) (by decide) (by decide)
    have e1 := and_one64 (x := 0) (by decide) (by decide)
    go_wp2_with (go_at_call 22; refine (H'.out _).mono ?_; rintro e w1 ⟨rfl, hb⟩)
    go_ret3
    exact ⟨rfl, hb⟩
  | some p =>
    obtain ⟨n, r⟩ := p
    have hbd := Hd.mk (tk_bd _ _ _ _ _ (by decide) (by decide) hT)
    rw [hT] at H
    simp only [tnV] at H
    have H' := Hd.mk H
    clear H hT
    have hu := Hd.mk (unzig_walk hbd.out)
    go_enter Try.func24, Try.ntmps24
    go_wp2_with (go_at_call 22; refine (H'.out _).mono ?_; rintro e w1 ⟨rfl, hb⟩)
    go_ret3
    refine ⟨congrArg Ending.returned ?_, hb⟩
    show Value.tuple #[.int .i64 (bits BinOp.xor IntKind.i64 (wrap64 ((n : Int) / 2)) (wrap64 (-wrap64 (bits BinOp.and IntKind.u64 (n : Int) 1)))), .string ⟨r.toArray⟩, .int .i64 0] = _
    rw [hu.out]; rfl

theorem pack_TakeText (s : ByteArray) (hs : s.size ≤ 140737488355328) (most : Int) (h0 : -9223372036854775808 ≤ most) (h1 : most ≤ 9223372036854775807) (w : World) :
    Calls Try.prog 26 #[.string s, .int .i64 most] w fun e w' => e = .returned (txV (tx most (tk s.data.toList 0 0))) ∧ Below w.heap.size w w' := by
  have H := pack_TakeNum s (by unfold maxLen; omega)
  cases hT : tk s.data.toList 0 0 with
  | none =>
    rw [hT] at H
    simp only [tnV] at H
    have H' := Hd.mk H
    clear H hT
    go_enter Try.func26, Try.ntmps26
    go_wp2_with (go_at_call 22; refine (H'.out _).mono ?_; rintro e w1 ⟨rfl, hb⟩)
    go_ret3
    exact ⟨rfl, hb⟩
  | some p =>
    obtain ⟨n, r⟩ := p
    have hbd := Hd.mk (tk_bd _ _ _ _ _ (by decide) (by decide) hT)
    have hrl := tk_len _ _ _ _ _ hT
    have hrs : (⟨r.toArray⟩ : ByteArray).size ≤ 140737488355328 := by
      rw [size_of]; have : s.data.toList.length = s.size := rfl; omega
    rw [hT] at H
    simp only [tnV] at H
    have H' := Hd.mk H
    have hn : Hd ((⟨r.toArray⟩ : ByteArray).size = r.length) := ⟨size_of r⟩
    obtain ⟨q, hq⟩ : ∃ q : ByteArray, q = ⟨r.toArray⟩ := ⟨_, rfl⟩
    rw [← hq] at hn hrs H'
    have HQ := Hd.mk hq
    clear H hT hrl hq
    by_cases hbad : most < 0 ∨ most < n ∨ r.length < n
    · have hv : Hd (tx most (some (n, r)) = none) := ⟨by show (if _ then _ else _) = _; rw [if_pos hbad]⟩
      rw [← hn.out] at hbad
      go_enter Try.func26, Try.ntmps26
      go_wp2_with (go_at_call 22; refine (H'.out _).mono ?_; rintro e w1 ⟨rfl, hb⟩)
      all_goals first | (exfalso; omega) | (go_ret3; exact ⟨by rw [hv.out]; rfl, hb⟩)
    · have hv : Hd (tx most (some (n, r)) = some (r.take n, r.drop n)) := ⟨by show (if _ then _ else _) = _; rw [if_neg hbad]⟩
      rw [← hn.out] at hbad
      have e1 : Hd (q.extract n q.size = ⟨(r.drop n).toArray⟩) := ⟨by rw [drop_bytes, HQ.out]⟩
      have e2 : Hd (q.extract 0 n = ⟨(r.take n).toArray⟩) := ⟨by rw [take_bytes, HQ.out]⟩
      have g1 : (n : Int) ≤ (q.size : Int) := by omega
      have g2 : 0 ≤ most := by omega
      have g3 : (n : Int) ≤ most := by omega
      have g4 : ¬ q.size < n := by omega
      clear hbad
      go_enter Try.func26, Try.ntmps26
      go_wp2_with (go_at_call 22; refine (H'.out _).mono ?_; rintro e w1 ⟨rfl, hb⟩)
      go_quiet (fail)
      go_wp2
      go_ret3
      refine ⟨congrArg Ending.returned ?_, by repeat (first | (with_reducible first | exact hb | apply below_alloc | apply pw_below_drewN | apply below_drew1) | exact hb)⟩
      show Value.tuple #[.string (q.extract 0 n), .string (q.extract n q.size), .int .i64 0] = _
      rw [hv.out, e1.out, e2.out]; rfl
end Go.Proofs.Ytgflbllflekkeaa
