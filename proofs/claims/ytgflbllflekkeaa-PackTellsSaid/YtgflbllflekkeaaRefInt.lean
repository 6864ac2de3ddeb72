/- The document's TakeInt, TakeText, Int and Text (layer 1): their contracts. -/
import Derived.Test.YtgflbllflekkeaaRefTake2
import Derived.Test.YtgflbllflekkeaaPackUse
namespace Go.Proofs.Ytgflbllflekkeaa
open Go.RowKit Go.Proofs.YtgflbllflekkeaaW.PrintWords Go.Proofs.YtgflbllflekkeaaW.PrintLast Go.Proofs.YtgflbllflekkeaaW.PrintMore Pk
set_option linter.unusedVariables false
set_option linter.unusedSimpArgs false

theorem ref_TakeInt (s : ByteArray) (hs : s.size ≤ 140737488355328) (w : World) :
    Calls Try.prog 25 #[.string s] w fun e w' => e = .returned (tiV (tk s.data.toList 0 0)) ∧ Below w.heap.size w w' := by
  have H := ref_TakeNum s hs
  cases hT : tk s.data.toList 0 0 with
  | none =>
    rw [hT] at H
    simp only [tnV] at H
    have H' := Hd.mk H
    clear H hT
    go_enter Try.func25, Try.ntmps25
    go_wp2_with fail
    refine (H'.out _).mono ?_; rintro e ws1 ⟨rfl, hs1⟩
    go_wp2_with fail
    go_ret3
    exact ⟨rfl, hs1⟩
  | some p =>
    obtain ⟨n, r⟩ := p
    have hbd := tk_bd _ _ _ _ _ (by decide) (by decide) hT
    rw [hT] at H
    simp only [tnV] at H
    have H' := Hd.mk H
    clear H hT
    have hw : wrap64 ((n : Int) / 2) = (n : Int) / 2 := by unfold wrap64; omega
    have hw2 : wrap64 (-((n : Int) / 2)) = -((n : Int) / 2) := by unfold wrap64; omega
    have hw3 : wrap64 (-((n : Int) / 2) - 1) = -((n : Int) / 2) - 1 := by unfold wrap64; omega
    by_cases hp : n % 2 = 0
    · have hpb : ((n : Int) % 2 == 1) = false := by simp; omega
      have hu : Hd (unzig n = (n : Int) / 2) := ⟨by unfold unzig; rw [if_pos hp]; omega⟩
      clear hp hw hw2 hw3
      have hn2 : (n : Int) ≤ 18446744073709551615 := by omega
      clear hbd
      go_enter Try.func25, Try.ntmps25
      go_wp2_with fail
      refine (H'.out _).mono ?_; rintro e ws2 ⟨rfl, hs2⟩
      go_wp2_with fail
      go_ret3
      exact ⟨by show _ = Ending.returned (Value.tuple #[.int .i64 (unzig n), .string ⟨r.toArray⟩, .int .i64 0]); rw [hu.out]; rfl, hs2⟩
    · have hpb : ((n : Int) % 2 == 1) = true := by simp; omega
      have hu : Hd (unzig n = -((n : Int) / 2) - 1) := ⟨by unfold unzig; rw [if_neg hp]; omega⟩
      clear hp hw hw2 hw3
      have hn2 : (n : Int) ≤ 18446744073709551615 := by omega
      clear hbd
      go_enter Try.func25, Try.ntmps25
      go_wp2_with fail
      refine (H'.out _).mono ?_; rintro e ws3 ⟨rfl, hs3⟩
      go_wp2_with fail
      go_ret3
      exact ⟨by show _ = Ending.returned (Value.tuple #[.int .i64 (unzig n), .string ⟨r.toArray⟩, .int .i64 0]); rw [hu.out]; rfl, hs3⟩

theorem ref_TakeText (s : ByteArray) (hs : s.size ≤ 140737488355328) (most : Int) (h0 : -9223372036854775808 ≤ most) (h1 : most ≤ 9223372036854775807) (w : World) :
    Calls Try.prog 27 #[.string s, .int .i64 most] w fun e w' => e = .returned (txV (tx most (tk s.data.toList 0 0))) ∧ Below w.heap.size w w' := by
  have H := ref_TakeNum s hs
  cases hT : tk s.data.toList 0 0 with
  | none =>
    rw [hT] at H
    simp only [tnV] at H
    have H' := Hd.mk H
    clear H hT
    go_enter Try.func27, Try.ntmps27
    go_wp2_with fail
    refine (H'.out _).mono ?_; rintro e ws4 ⟨rfl, hs4⟩
    go_wp2_with fail
    go_ret3
    exact ⟨rfl, hs4⟩
  | some p =>
    obtain ⟨n, r⟩ := p
    have hbd := Hd.mk (tk_bd _ _ _ _ _ (by decide) (by decide) hT)
    have hrl := tk_len _ _ _ _ _ hT
    have hrs : (⟨r.toArray⟩ : ByteArray).size ≤ 140737488355328 := by
      rw [size_of]; have : s.data.toList.length = s.size := rfl; omega
    rw [hT] at H
    simp only [tnV] at H
    have H' := Hd.mk H
    have hn : Hd ((⟨r.toArray⟩ : ByteArray).size = r.length) := ⟨size_of r⟩
    obtain ⟨q, hq⟩ : ∃ q : ByteArray, q = ⟨r.toArray⟩ := ⟨_, rfl⟩
    rw [← hq] at hn hrs H'
    have HQ := Hd.mk hq
    clear H hT hrl hq
    by_cases hbad : most < 0 ∨ most < n ∨ r.length < n
    · have hv : Hd (tx most (some (n, r)) = none) := ⟨by show (if _ then _ else _) = _; rw [if_pos hbad]⟩
      rw [← hn.out] at hbad
      go_enter Try.func27, Try.ntmps27
      go_wp2_with (go_at_call 23; refine (H'.out _).mono ?_; rintro e w1 ⟨rfl, hb⟩)
      all_goals first | (exfalso; omega) | (go_ret3; exact ⟨by rw [hv.out]; rfl, hb⟩)
    · have hv : Hd (tx most (some (n, r)) = some (r.take n, r.drop n)) := ⟨by show (if _ then _ else _) = _; rw [if_neg hbad]⟩
      rw [← hn.out] at hbad
      have e1 : Hd (q.extract n q.size = ⟨(r.drop n).toArray⟩) := ⟨by rw [drop_bytes, HQ.out]⟩
      have e2 : Hd (q.extract 0 n = ⟨(r.take n).toArray⟩) := ⟨by rw [take_bytes, HQ.out]⟩
      have g1 : (n : Int) ≤ (q.size : Int) := by omega
      have g2 : 0 ≤ most := by omega
      have g3 : (n : Int) ≤ most := by omega
      have g4 : ¬ q.size < n := by omega
      clear hbad
      go_enter Try.func27, Try.ntmps27
      go_wp2_with (go_at_call 23; refine (H'.out _).mono ?_; rintro e w1 ⟨rfl, hb⟩)
      go_quiet (fail)
      go_wp2
      go_ret3
      refine ⟨congrArg Ending.returned ?_, by repeat (first | (with_reducible first | exact hb | apply below_alloc | apply pw_below_drewN | apply below_drew1) | exact hb)⟩
      show Value.tuple #[.string (q.extract 0 n), .string (q.extract n q.size), .int .i64 0] = _
      rw [hv.out, e1.out, e2.out]; rfl

theorem ref_Text (t : ByteArray) (ht : t.size ≤ 140737488355328) (w : World) :
    Calls Try.prog 31 #[.string t] w fun e w' => e = .returned (.string (strOfNums (num t.size) ++ t)) ∧ Below w.heap.size w w' := by
  have hl := (num_len10 (n := t.size) (by omega)).2
  have hz : (strOfNums (num t.size)).size ≤ 10 := by rw [strOfNums_size]; exact hl
  have hs : (strOfNums (num t.size)).size + t.size ≤ 9223372036854775807 := by omega
  have hlt : Hd (t.size < 18446744073709551616) := ⟨by omega⟩
  go_enter Try.func31, Try.ntmps31
  go_wp2_with (go_at_call 28; refine (ref_Num _ hlt _).mono ?_; rintro e w1 ⟨rfl, hb⟩)
  go_ret
  exact ⟨rfl, hb⟩

theorem ref_Int (n : Int) (h0 : -9223372036854775808 ≤ n) (h1 : n ≤ 9223372036854775807) (w : World) :
    Calls Try.prog 29 #[.int .i64 n] w fun e w' => e = .returned (.string (strOfNums (num (zig n)))) ∧ Below w.heap.size w w' := by
  have hl := zig_lt h0 h1
  have H := Hd.mk (fun w => ref_Num (zig n) ⟨hl⟩ w)
  by_cases hn : 0 ≤ n
  · have hz : Hd (((zig n : Nat) : Int) = 2 * n) := ⟨by unfold zig; rw [if_pos hn]; omega⟩
    clear hl
    go_enter Try.func29, Try.ntmps29
    go_wp2_with fail
    refine calls_of_args (congrArg (fun z => #[Value.int .u64 z]) (by have := hz.out; omega)) ((H.out _).mono ?_); rintro e w1 ⟨rfl, h1⟩
    go_wp2_with fail
    go_ret
    exact ⟨rfl, h1⟩
  · have hz : Hd (((zig n : Nat) : Int) = -2 * n - 1) := ⟨by unfold zig; rw [if_neg hn]; omega⟩
    clear hl
    go_enter Try.func29, Try.ntmps29
    go_wp2_with fail
    refine calls_of_args (congrArg (fun z => #[Value.int .u64 z]) (by have := hz.out; omega)) ((H.out _).mono ?_); rintro e w1 ⟨rfl, h1⟩
    go_wp2_with fail
    go_ret
    exact ⟨rfl, h1⟩
end Go.Proofs.Ytgflbllflekkeaa
