/- Texts that belong together, in one. -/
import Derived.Test.YtcgkkjfbdappoaaGreatBase
import Derived.Test.YtcgkkjfbdappoaaGreatPackAll
/- thimbleref01.Num tells the bytes of a number: its contract (the walk as print.sh wrote it, the numbers in it filled in by name). -/
namespace Go.Proofs.YtcgkkjfbdappoaaGreat
open Go.RowKit Go.Proofs.YtcgkkjfbdappoaaGreatW.PrintWords Go.Proofs.YtcgkkjfbdappoaaGreatW.PrintLast Go.Proofs.YtcgkkjfbdappoaaGreatW.PrintMore Pk
attribute [local go_sem] max2_int min2_int max_two min_two max_three min_three max_four min_four
set_option linter.unusedVariables false
set_option linter.unusedSimpArgs false

def errW : Option Int → Value
  | none => .nilIface
  | some c => .iface 0 (.int .i64 c)
theorem errW_none : errW none = .nilIface := rfl
theorem errW_some (c : Int) : errW (some c) = .iface 0 (.int .i64 c) := rfl

def thimbleref01_Num.f : Nat → Int → Option (ByteArray)
  | 0, _ => none
  | k + 1, a0 => if a0 < 128 then (some (strOfNums (([(a0) % 256] : List Int)))) else ((some (([(IntKind.u64.wrap (128 + (Int.tmod a0 128))) % 256] : List Int) : List Int)).bind fun y113 => ((thimbleref01_Num.f k (IntKind.u64.wrap (Int.tdiv a0 128))).bind fun t116 => (if (strOfNums y113).size + t116.size ≤ 9223372036854775807 then (some ((strOfNums y113) ++ t116)) else (none))))
theorem thimbleref01_Num.mono_l : ∀ k, (∀ y0, LeO (thimbleref01_Num.f k y0) (thimbleref01_Num.f (k + 1) y0))
  | 0 => fun _ r h => by simp [thimbleref01_Num.f] at h
  | k + 1 => by
    have ih0 := thimbleref01_Num.mono_l k
    · intro y0
      unfold thimbleref01_Num.f
      repeat' first
      | (with_reducible exact ih0 _)
      | (with_reducible exact LeO.refl _)
      | (with_reducible exact LeO.none _)
      | (with_reducible refine LeO.ite ?_ ?_)
      | (with_reducible refine LeO.bind ?_ (fun _ => ?_))
      | exact ih0 _
      | exact LeO.none _
      | refine LeO.ite ?_ ?_
      | refine LeO.bind ?_ (fun _ => ?_)
theorem thimbleref01_Num.mono : ∀ a0 k, LeO (thimbleref01_Num.f k a0) (thimbleref01_Num.f (k + 1) a0) := by
  intro a0 k
  have ih0 := thimbleref01_Num.mono_l k
  exact ih0 a0
def thimbleref01_Num.T3 : Bool × List (List Nat × List Nat) := (true, [([], []), ([0], [0]), ([1], [1]), ([2], [2]), ([3], [3]), ([4], [4]), ([], []), ([6], [6]), ([7], [7]), ([5, 8], [5, 8]), ([9, 8, 0, 1, 2, 3, 4, 5, 6, 7, 8, 9], [9])])
def thimbleref01_Num.B3 : List Nat := [0, 1, 3, 7, 15, 31, 0, 64, 192, 511, 1023]
theorem thimbleref01_Num.tab3 : rtab .any (opsOf Tryz.f88 3) = thimbleref01_Num.T3 := by kernel_rfl
theorem thimbleref01_Num.bits3 : waitsOk thimbleref01_Num.T3.2 thimbleref01_Num.B3 = true := by kernel_rfl
set_option maxHeartbeats 8000000 in
set_option maxRecDepth 100000 in
theorem thimbleref01_Num.calls (k : Nat) : ∀ (a0 : Int) (r : ByteArray) (w : World) (h : thimbleref01_Num.f k a0 = some r),
    Calls Tryz.prog 88 #[.int .u64 a0] w fun e w' => e = .returned (.string r) ∧ Below w.heap.size w w' := by
  induction k using Nat.strongRecOn with
  | _ k ih =>
  intro a0 r w h
  cases k with
  | zero => exact absurd h (by simp [thimbleref01_Num.f])
  | succ k =>
  simp only [thimbleref01_Num.f] at h
  have HB := Aside0.mk (Below.refl w.heap.size w)
  have H : (if a0 < 128 then (some (strOfNums (([(a0) % 256] : List Int)))) else ((some (([(IntKind.u64.wrap (128 + (Int.tmod a0 128))) % 256] : List Int) : List Int)).bind fun y113 => ((thimbleref01_Num.f k (IntKind.u64.wrap (Int.tdiv a0 128))).bind fun t116 => (if (strOfNums y113).size + t116.size ≤ 9223372036854775807 then (some ((strOfNums y113) ++ t116)) else (none))))) = some r := h
  clear h
  by_cases c2 : a0 < 128
  · rw [if_pos c2] at H
    have c2b0 : decide (a0 < 128) = true := decide_eq_true c2
    clear c2
    obtain ⟨y110, hy110⟩ : ∃ y_ : List Int, y_ = (([(a0) % 256] : List Int)) := ⟨_, rfl⟩
    replace H : (some (strOfNums y110)) = some r := by first | (rw [hy110]; with_reducible exact H) | (have H2_ := (Option.bind_some _ _).symm.trans H; rw [hy110]; with_reducible exact H2_) | (have H2_ := (Option.bind_some _ _).symm.trans H; with_reducible exact H2_) | with_reducible exact H | (rw [hy110]; exact H) | exact H
    have Ny110 := Aside0.mk hy110
    clear hy110
    obtain rfl := Option.some.inj H
    go_enter Tryz.func88, Tryz.ntmps88
    go_wp2_with (first | ((with_reducible refine gate_dst (N := 7) rfl ?_); refine Kd.R_lit (Kd.int .u8) _ 5 ?hg (N := 7) ?hd (xs := ([(a0) % 256] : List Int)) (inner := [.int .u8 ((a0) % 256)]) (ok := fun _ => True) (okp := fun _ => True) ?hr ?hp (fun _ hk => hk) trivial (Below.refl _ _) (Nat.le_refl _) (by simp) ?_; (case hd => rfl); (case hg => rfl); (case hr => first | (go_simp; done) | (go_simp; rfl)); (case hp => exact (Reps.one (show Kd.M (Kd.int .u8) _ _ _ ((a0) % 256) [.int .u8 ((a0) % 256)] from rfl) (Reps.none _ _))); intro v111 w3 ho4 hb hg_ hnew_; clear hg_ hnew_; (first | rw [← Ny110.out] at ho4 | (simp only [Int.reduceToNat] at ho4; rw [← Ny110.out] at ho4)); have n0_ := Aside0.mk (Kd.R_lower ho4 (below_size (by repeat (first | (with_reducible first | exact HB.out | apply below_alloc | apply pw_below_drewN | apply below_drew1) | exact HB.out)))); have n1_ := Aside0.mk (below_step (by repeat (first | (with_reducible first | exact HB.out | apply below_alloc | apply pw_below_drewN | apply below_drew1) | exact HB.out)) hb); clear HB; have HO112 := n0_; have HB := n1_; clear n0_ n1_; clear hb ho4; have hcv5 := own_string (P := Tryz.prog) Tryz.underlying24 Tryz.underlying5 Tryz.underlying9 (Kd.own_of_R HO112.out)))
    go_ret
    exact ⟨by first | rfl | (simp [errW_none, errW_some] <;> rfl) | (simp [*, errW_none, errW_some] <;> rfl), by repeat (first | (with_reducible first | exact HB.out | apply below_alloc | apply pw_below_drewN | apply below_drew1) | exact HB.out)⟩
  · rw [if_neg c2] at H
    have c2b0 : decide (a0 < 128) = false := decide_eq_false c2
    clear c2
    obtain ⟨y113, hy113⟩ : ∃ y_ : List Int, y_ = (([(IntKind.u64.wrap (128 + (Int.tmod a0 128))) % 256] : List Int)) := ⟨_, rfl⟩
    replace H : ((thimbleref01_Num.f k (IntKind.u64.wrap (Int.tdiv a0 128))).bind fun t116 => (if (strOfNums y113).size + t116.size ≤ 9223372036854775807 then (some ((strOfNums y113) ++ t116)) else (none))) = some r := by first | (rw [hy113]; with_reducible exact H) | (have H2_ := (Option.bind_some _ _).symm.trans H; rw [hy113]; with_reducible exact H2_) | (have H2_ := (Option.bind_some _ _).symm.trans H; with_reducible exact H2_) | with_reducible exact H | (rw [hy113]; exact H) | exact H
    have Ny113 := Aside0.mk hy113
    clear hy113
    replace H := Option.bind_eq_some_iff.mp H
    obtain ⟨t116, A60, H⟩ := H
    replace H : (if (strOfNums y113).size + t116.size ≤ 9223372036854775807 then (some ((strOfNums y113) ++ t116)) else (none)) = some r := H
    have A6 := Aside0.mk A60
    clear A60
    by_cases c7 : (strOfNums y113).size + t116.size ≤ 9223372036854775807
    · rw [if_pos c7] at H
      have c7b0 := eq_true c7
      have c7b1 : decide ((strOfNums y113).size + t116.size ≤ 9223372036854775807) = true := decide_eq_true c7
      try have c7b2 : (9223372036854775807 < (strOfNums y113).size + t116.size) = False := eq_false (Nat.not_lt.2 c7)
      obtain rfl := Option.some.inj H
      go_enter Tryz.func88, Tryz.ntmps88
      try go_wp2
      have n0_ := Aside0.mk (below_drew1 HB.out)
      clear HB
      have HB := n0_
      clear n0_
      refine start_ (n := 11) (S := fun w' => True) (ds := []) #[false, false, false, false, false, false, false, false, false, false, false] (by kernel_rfl) rfl rfl trivial (fun hHeld => ?_); refine with_tabW thimbleref01_Num.tab3 thimbleref01_Num.bits3 (fun HT_ HW_ => ?_)
      generalize w.drew = w8 at HB hHeld ⊢
      refine pure_ (i := 0) (N := some 9) (v := ?_) (a' := ?_) #[true, false, false, false, false, false, false, false, false, false, false] rfl rfl (any_of HT_.out (by kernel_rfl)) (fun _ _ _ h => h) (Or.inl ⟨by rfl, ?_⟩) ?_ ?_
      rotate_left
      · intro w'
        go_simp
        with_reducible rfl
      rotate_left
      · simp only [Act.put, List.setIfInBounds_toArray, List.set_cons_zero, List.set_cons_succ, i64_w, i32_w]
        rfl
      refine pure_ (i := 1) (N := some 10) (v := ?_) (a' := ?_) #[true, true, false, false, false, false, false, false, false, false, false] rfl rfl (any_of HT_.out (by kernel_rfl)) (fun _ _ _ h => h) (Or.inl ⟨by rfl, ?_⟩) ?_ ?_
      rotate_left
      · intro w'
        go_simp
        with_reducible rfl
      rotate_left
      · simp only [Act.put, List.setIfInBounds_toArray, List.set_cons_zero, List.set_cons_succ, i64_w, i32_w]
        rfl
      refine pure_ (i := 2) (N := some 11) (v := ?_) (a' := ?_) #[true, true, true, false, false, false, false, false, false, false, false] rfl rfl (any_of HT_.out (by kernel_rfl)) (fun _ _ _ h => h) (Or.inl ⟨by rfl, ?_⟩) ?_ ?_
      rotate_left
      · intro w'
        go_simp
        with_reducible rfl
      rotate_left
      · simp only [Act.put, List.setIfInBounds_toArray, List.set_cons_zero, List.set_cons_succ, i64_w, i32_w]
        rfl
      refine pure_ (i := 3) (N := some 12) (v := ?_) (a' := ?_) #[true, true, true, true, false, false, false, false, false, false, false] rfl rfl (any_of HT_.out (by kernel_rfl)) (fun _ _ _ h => h) (Or.inl ⟨by rfl, ?_⟩) ?_ ?_
      rotate_left
      · intro w'
        go_simp
        with_reducible rfl
      rotate_left
      · simp only [Act.put, List.setIfInBounds_toArray, List.set_cons_zero, List.set_cons_succ, i64_w, i32_w]
        rfl
      refine pure_ (i := 6) (N := some 15) (v := ?_) (a' := ?_) #[true, true, true, true, false, false, true, false, false, false, false] rfl rfl (any_of HT_.out (by kernel_rfl)) (fun _ _ _ h => h) (Or.inl ⟨by rfl, ?_⟩) ?_ ?_
      rotate_left
      · intro w'
        go_simp
        with_reducible rfl
      rotate_left
      · simp only [Act.put, List.setIfInBounds_toArray, List.set_cons_zero, List.set_cons_succ, i64_w, i32_w]
        rfl
      refine pure_ (i := 7) (N := some 16) (v := ?_) (a' := ?_) #[true, true, true, true, false, false, true, true, false, false, false] rfl rfl (any_of HT_.out (by kernel_rfl)) (fun _ _ _ h => h) (Or.inl ⟨by rfl, ?_⟩) ?_ ?_
      rotate_left
      · intro w'
        go_simp
        with_reducible rfl
      rotate_left
      · simp only [Act.put, List.setIfInBounds_toArray, List.set_cons_zero, List.set_cons_succ, i64_w, i32_w]
        rfl
      refine join_ (σ := Value) 2 #[true, true, true, true, true, true, true, true, true, false, false] (fun s_ => [(13, s_), (14, .string (strOfNums y113)), (17, .string t116)]) (fun s_ w' => (Kd.R (Kd.int .u8) 5 w' w.heap.size (fun _ => True) s_ y113) ∧ (Below w.heap.size w w')) ?_ ?_
      rotate_left
      · intro hCont
        refine two_ (i := 4) (j := 8) (Ni := some 13) (Nj := some 17) #[true, true, true, true, true, false, true, true, false, false, false] #[true, true, true, true, false, false, true, true, true, false, false] rfl rfl rfl rfl (two_of HT_.out (by kernel_rfl)) (by decide) (by decide) (fun K hK => ?_) (fun K hK => ?_)
        · skip
          refine Kd.R_lit_step (Kd.int .u8) _ 5 ?hg (N := 13) ?hd (xs := ([(IntKind.u64.wrap (128 + (Int.tmod a0 128))) % 256] : List Int)) (inner := [.int .u8 ((IntKind.u64.wrap (128 + (Int.tmod a0 128))) % 256)]) (ok := fun _ => True) (okp := fun _ => True) ?hr ?hp (fun _ hk => hk) trivial (Below.refl _ _) (Nat.le_refl _) (by simp) ?_; (case hd => rfl); (case hg => rfl); (case hr => first | (go_simp; done) | (go_simp; rfl)); (case hp => exact (Reps.one (show Kd.M (Kd.int .u8) _ _ _ ((IntKind.u64.wrap (128 + (Int.tmod a0 128))) % 256) [.int .u8 ((IntKind.u64.wrap (128 + (Int.tmod a0 128))) % 256)] from rfl) (Reps.none _ _)))
          intro v114 w9 ho10 hb hg_ hnew_
          clear hg_ hnew_
          (first | rw [← Ny113.out] at ho10 | (simp only [Int.reduceToNat] at ho10; rw [← Ny113.out] at ho10))
          have n0_ := Aside0.mk (Kd.R_lower ho10 (below_size (by repeat (first | (with_reducible first | exact HB.out | apply below_alloc | apply pw_below_drewN | apply below_drew1) | exact HB.out))))
          have n1_ := Aside0.mk (below_step (by repeat (first | (with_reducible first | exact HB.out | apply below_alloc | apply pw_below_drewN | apply below_drew1) | exact HB.out)) hb)
          clear HB
          have HO115 := n0_
          have HB := n1_
          clear n0_ n1_
          clear hb ho10
          refine hK.out _ _ trivial (fun hHeld => ?_)
          clear hK K
          refine norm_ (a' := ?_) ?_ ?_
          rotate_left
          · show Act.put _ (some 13) _ = _
            simp only [Act.put, List.setIfInBounds_toArray, List.set_cons_zero, List.set_cons_succ, i64_w, i32_w]
            rfl
          refine two_ (i := 5) (j := 8) (Ni := some 14) (Nj := some 17) #[true, true, true, true, true, true, true, true, false, false, false] #[true, true, true, true, true, false, true, true, true, false, false] rfl rfl rfl rfl (two_of HT_.out (by kernel_rfl)) (by decide) (by decide) (fun K hK => ?_) (fun K hK => ?_)
          · skip
            have hcv11 := own_string (P := Tryz.prog) Tryz.underlying24 Tryz.underlying5 Tryz.underlying9 (Kd.own_of_R HO115.out)
            refine value_ (w1 := ?_) (v := ?_) (by rfl) rfl ?_ ?_
            rotate_left 2
            · go_simp
              constructor
              · rfl
              · rfl
            clear hcv11
            refine hK.out _ _ trivial (fun hHeld => ?_)
            clear hK K
            refine norm_ (a' := ?_) ?_ ?_
            rotate_left
            · show Act.put _ (some 14) _ = _
              simp only [Act.put, List.setIfInBounds_toArray, List.set_cons_zero, List.set_cons_succ, i64_w, i32_w]
              rfl
            refine one_ (i := 8) (N := some 17) #[true, true, true, true, true, true, true, true, true, false, false] rfl rfl (one_of HT_.out (by kernel_rfl)) (by decide) (fun K hK => ?_)
            refine goes_ Tryz.func88 (by kernel_rfl) rfl #[.int .u64 (IntKind.u64.wrap (Int.tdiv a0 128))] (by rfl) rfl rfl (by (try simp only [List.map_toArray, List.map_cons, List.map_nil]); first | done | rfl | (simp only [List.length_drop, List.length_take]; rfl)) ?_
            with_reducible refine (ih k (by omega) (IntKind.u64.wrap (Int.tdiv a0 128)) t116 _ A6.out).mono ?_
            rintro e w12 ⟨rfl, hb⟩
            refine ⟨_, rfl, ?_⟩
            have n0_ := Aside0.mk (Kd.R_below (by (with_reducible repeat (first | apply Kd.R_alloc | apply Kd.R_drewN | apply Kd.R_drew)); exact HO115.out) hb)
            have n1_ := Aside0.mk (below_step (by repeat (first | (with_reducible first | exact HB.out | apply below_alloc | apply pw_below_drewN | apply below_drew1) | exact HB.out)) hb)
            clear HO115
            clear HB
            have HO115 := n0_
            have HB := n1_
            clear n0_ n1_
            (try clear hb)
            (try clear hb2)
            (try clear hk)
            (try clear hi)
            refine hK.out _ _ trivial (fun hHeld => ?_)
            clear hK K
            refine norm_ (a' := ?_) ?_ ?_
            rotate_left
            · show Act.put _ (some 17) _ = _
              simp only [Act.put, List.setIfInBounds_toArray, List.set_cons_zero, List.set_cons_succ, i64_w, i32_w]
              rfl
            exact norm_ (by simp only [putAll, Act.put, List.setIfInBounds_toArray, List.set_cons_zero, List.set_cons_succ]) (hCont (v114) _ ⟨(by (with_reducible repeat (first | apply Kd.R_alloc | apply Kd.R_drewN | apply Kd.R_drew)); exact HO115.out), (by repeat (first | (with_reducible first | exact HB.out | apply below_alloc | apply pw_below_drewN | apply below_drew1) | exact HB.out))⟩)
          · skip
            refine goes_ Tryz.func88 (by kernel_rfl) rfl #[.int .u64 (IntKind.u64.wrap (Int.tdiv a0 128))] (by rfl) rfl rfl (by (try simp only [List.map_toArray, List.map_cons, List.map_nil]); first | done | rfl | (simp only [List.length_drop, List.length_take]; rfl)) ?_
            with_reducible refine (ih k (by omega) (IntKind.u64.wrap (Int.tdiv a0 128)) t116 _ A6.out).mono ?_
            rintro e w11 ⟨rfl, hb⟩
            refine ⟨_, rfl, ?_⟩
            have n0_ := Aside0.mk (Kd.R_below (by (with_reducible repeat (first | apply Kd.R_alloc | apply Kd.R_drewN | apply Kd.R_drew)); exact HO115.out) hb)
            have n1_ := Aside0.mk (below_step (by repeat (first | (with_reducible first | exact HB.out | apply below_alloc | apply pw_below_drewN | apply below_drew1) | exact HB.out)) hb)
            clear HO115
            clear HB
            have HO115 := n0_
            have HB := n1_
            clear n0_ n1_
            (try clear hb)
            (try clear hb2)
            (try clear hk)
            (try clear hi)
            refine hK.out _ _ trivial (fun hHeld => ?_)
            clear hK K
            refine norm_ (a' := ?_) ?_ ?_
            rotate_left
            · show Act.put _ (some 17) _ = _
              simp only [Act.put, List.setIfInBounds_toArray, List.set_cons_zero, List.set_cons_succ, i64_w, i32_w]
              rfl
            refine one_ (i := 5) (N := some 14) #[true, true, true, true, true, true, true, true, true, false, false] rfl rfl (one_of HT_.out (by kernel_rfl)) (by decide) (fun K hK => ?_)
            have hcv12 := own_string (P := Tryz.prog) Tryz.underlying24 Tryz.underlying5 Tryz.underlying9 (Kd.own_of_R HO115.out)
            refine value_ (w1 := ?_) (v := ?_) (by rfl) rfl ?_ ?_
            rotate_left 2
            · go_simp
              constructor
              · rfl
              · rfl
            clear hcv12
            refine hK.out _ _ trivial (fun hHeld => ?_)
            clear hK K
            refine norm_ (a' := ?_) ?_ ?_
            rotate_left
            · show Act.put _ (some 14) _ = _
              simp only [Act.put, List.setIfInBounds_toArray, List.set_cons_zero, List.set_cons_succ, i64_w, i32_w]
              rfl
            exact norm_ (by simp only [putAll, Act.put, List.setIfInBounds_toArray, List.set_cons_zero, List.set_cons_succ]) (hCont (v114) _ ⟨(by (with_reducible repeat (first | apply Kd.R_alloc | apply Kd.R_drewN | apply Kd.R_drew)); exact HO115.out), (by repeat (first | (with_reducible first | exact HB.out | apply below_alloc | apply pw_below_drewN | apply below_drew1) | exact HB.out))⟩)
        · skip
          refine goes_ Tryz.func88 (by kernel_rfl) rfl #[.int .u64 (IntKind.u64.wrap (Int.tdiv a0 128))] (by rfl) rfl rfl (by (try simp only [List.map_toArray, List.map_cons, List.map_nil]); first | done | rfl | (simp only [List.length_drop, List.length_take]; rfl)) ?_
          with_reducible refine (ih k (by omega) (IntKind.u64.wrap (Int.tdiv a0 128)) t116 _ A6.out).mono ?_
          rintro e w9 ⟨rfl, hb⟩
          refine ⟨_, rfl, ?_⟩
          have n0_ := Aside0.mk (below_step (by repeat (first | (with_reducible first | exact HB.out | apply below_alloc | apply pw_below_drewN | apply below_drew1) | exact HB.out)) hb)
          clear HB
          have HB := n0_
          clear n0_
          (try clear hb)
          (try clear hb2)
          (try clear hk)
          (try clear hi)
          refine hK.out _ _ trivial (fun hHeld => ?_)
          clear hK K
          refine norm_ (a' := ?_) ?_ ?_
          rotate_left
          · show Act.put _ (some 17) _ = _
            simp only [Act.put, List.setIfInBounds_toArray, List.set_cons_zero, List.set_cons_succ, i64_w, i32_w]
            rfl
          refine one_ (i := 4) (N := some 13) #[true, true, true, true, true, false, true, true, true, false, false] rfl rfl (one_of HT_.out (by kernel_rfl)) (by decide) (fun K hK => ?_)
          refine Kd.R_lit_step (Kd.int .u8) _ 5 ?hg (N := 13) ?hd (xs := ([(IntKind.u64.wrap (128 + (Int.tmod a0 128))) % 256] : List Int)) (inner := [.int .u8 ((IntKind.u64.wrap (128 + (Int.tmod a0 128))) % 256)]) (ok := fun _ => True) (okp := fun _ => True) ?hr ?hp (fun _ hk => hk) trivial (Below.refl _ _) (Nat.le_refl _) (by simp) ?_; (case hd => rfl); (case hg => rfl); (case hr => first | (go_simp; done) | (go_simp; rfl)); (case hp => exact (Reps.one (show Kd.M (Kd.int .u8) _ _ _ ((IntKind.u64.wrap (128 + (Int.tmod a0 128))) % 256) [.int .u8 ((IntKind.u64.wrap (128 + (Int.tmod a0 128))) % 256)] from rfl) (Reps.none _ _)))
          intro v114 w10 ho11 hb hg_ hnew_
          clear hg_ hnew_
          (first | rw [← Ny113.out] at ho11 | (simp only [Int.reduceToNat] at ho11; rw [← Ny113.out] at ho11))
          have n0_ := Aside0.mk (Kd.R_lower ho11 (below_size (by repeat (first | (with_reducible first | exact HB.out | apply below_alloc | apply pw_below_drewN | apply below_drew1) | exact HB.out))))
          have n1_ := Aside0.mk (below_step (by repeat (first | (with_reducible first | exact HB.out | apply below_alloc | apply pw_below_drewN | apply below_drew1) | exact HB.out)) hb)
          clear HB
          have HO115 := n0_
          have HB := n1_
          clear n0_ n1_
          clear hb ho11
          refine hK.out _ _ trivial (fun hHeld => ?_)
          clear hK K
          refine norm_ (a' := ?_) ?_ ?_
          rotate_left
          · show Act.put _ (some 13) _ = _
            simp only [Act.put, List.setIfInBounds_toArray, List.set_cons_zero, List.set_cons_succ, i64_w, i32_w]
            rfl
          refine one_ (i := 5) (N := some 14) #[true, true, true, true, true, true, true, true, true, false, false] rfl rfl (one_of HT_.out (by kernel_rfl)) (by decide) (fun K hK => ?_)
          have hcv12 := own_string (P := Tryz.prog) Tryz.underlying24 Tryz.underlying5 Tryz.underlying9 (Kd.own_of_R HO115.out)
          refine value_ (w1 := ?_) (v := ?_) (by rfl) rfl ?_ ?_
          rotate_left 2
          · go_simp
            constructor
            · rfl
            · rfl
          clear hcv12
          refine hK.out _ _ trivial (fun hHeld => ?_)
          clear hK K
          refine norm_ (a' := ?_) ?_ ?_
          rotate_left
          · show Act.put _ (some 14) _ = _
            simp only [Act.put, List.setIfInBounds_toArray, List.set_cons_zero, List.set_cons_succ, i64_w, i32_w]
            rfl
          exact norm_ (by simp only [putAll, Act.put, List.setIfInBounds_toArray, List.set_cons_zero, List.set_cons_succ]) (hCont (v114) _ ⟨(by (with_reducible repeat (first | apply Kd.R_alloc | apply Kd.R_drewN | apply Kd.R_drew)); exact HO115.out), (by repeat (first | (with_reducible first | exact HB.out | apply below_alloc | apply pw_below_drewN | apply below_drew1) | exact HB.out))⟩)
      rintro v114 w13 ⟨h0_, h1_⟩
      have n0_ : Aside0 (Kd.R (Kd.int .u8) 5 w13 w.heap.size (fun _ => True) v114 y113) := ⟨h0_⟩
      have n1_ : Aside0 (Below w.heap.size w w13) := ⟨h1_⟩
      clear HB
      clear h0_ h1_
      have HO115 := n0_
      have HB := n1_
      clear n0_ n1_
      have hHeld := trivial
      refine norm_ (a' := ?_) ?_ ?_
      rotate_left
      · simp only [putAll, Act.put, List.setIfInBounds_toArray, List.set_cons_zero, List.set_cons_succ]
        rfl
      refine pure_ (i := 9) (N := some 18) (v := ?_) (a' := ?_) #[true, true, true, true, true, true, true, true, true, true, false] rfl rfl (any_of HT_.out (by kernel_rfl)) (fun _ _ _ h => h) (Or.inl ⟨by rfl, ?_⟩) ?_ ?_
      rotate_left
      · intro w'
        go_simp
        with_reducible rfl
      rotate_left
      · simp only [Act.put, List.setIfInBounds_toArray, List.set_cons_zero, List.set_cons_succ, i64_w, i32_w]
        rfl
      refine pure_ (i := 10) (N := some 2) (v := ?_) (a' := ?_) #[true, true, true, true, true, true, true, true, true, true, true] rfl rfl (any_of HT_.out (by kernel_rfl)) (fun _ _ _ h => h) (Or.inl ⟨by rfl, ?_⟩) ?_ ?_
      rotate_left
      · intro w'
        go_simp
        with_reducible rfl
      rotate_left
      · simp only [Act.put, List.setIfInBounds_toArray, List.set_cons_zero, List.set_cons_succ, i64_w, i32_w]
        rfl
      refine done_ (done_of HT_.out (by kernel_rfl)) ?_
      try go_wp2
      go_ret
      exact ⟨by first | rfl | (simp [errW_none, errW_some] <;> rfl) | (simp [*, errW_none, errW_some] <;> rfl), by repeat (first | (with_reducible first | exact HB.out | apply below_alloc | apply pw_below_drewN | apply below_drew1) | exact HB.out)⟩
    · rw [if_neg c7] at H
      exact absurd H (by simp)


theorem refNum_f (k : Nat) : ∀ n : Nat, n < 18446744073709551616 → (num n).length ≤ k → thimbleref01_Num.f k n = some (strOfNums (num n)) := by
  induction k with
  | zero => intro n _ h; rw [num] at h; split at h <;> simp at h
  | succ k ih =>
    intro n hn hk
    simp only [thimbleref01_Num.f]
    by_cases h : n < 128
    · rw [if_pos (by omega), num_small h, show ((n : Int) % 256) = n from by omega]
    · rw [num_big h] at hk ⊢
      simp only [List.length_cons] at hk
      rw [if_neg (by omega)]
      have e1 : IntKind.u64.wrap (Int.tdiv (n : Int) 128) = ((n / 128 : Nat) : Int) := by
        rw [Int.tdiv_eq_ediv_of_nonneg (by omega), wrap_u64]; omega
      have e2 : IntKind.u64.wrap (128 + (Int.tmod (n : Int) 128)) % 256 = ((n % 128 + 128 : Nat) : Int) := by
        rw [Int.tmod_eq_emod_of_nonneg (by omega), wrap_u64]; omega
      have hl := (num_len10 (n := n / 128) (by omega)).2
      rw [e1, e2]
      simp only [Option.bind_some]
      rw [ih (n / 128) (by omega) (by omega)]
      simp only [Option.bind_some]
      rw [if_pos (by simp only [strOfNums_size, List.length_cons, List.length_nil]; omega)]
      refine congrArg some (ByteArray.ext ?_)
      simp [strOfNums]

theorem ref_Num (n : Nat) (hn : Hd (n < 18446744073709551616)) (w : World) :
    Calls Tryz.prog 88 #[.int .u64 (n : Int)] w fun e w' => e = .returned (.string (strOfNums (num n))) ∧ Below w.heap.size w w' :=
  thimbleref01_Num.calls 10 n _ w (refNum_f 10 n hn.out (num_len10 hn.out).2)
end Go.Proofs.YtcgkkjfbdappoaaGreat

/- Plain law: what the document's TakeNum tells (a begin up to the first byte below 128, held against what was packed) is what pack's tells. -/
namespace Go.Proofs.YtcgkkjfbdappoaaGreat.Pk

/-- How many bytes the begin has: up to the first one below 128, ten at most; 0: there is none. -/
def bg : List UInt8 → Nat → Nat
  | [], _ => 0
  | c :: t, i => if 10 ≤ i then 0 else if c.toNat < 128 then i + 1 else bg t (i + 1)

/-- The number that bytes are, as numbers of 64 bits. -/
def hv : List UInt8 → Nat
  | [] => 0
  | c :: t => (128 * hv t + c.toNat % 128) % 18446744073709551616

theorem bg_num (m : Nat) : ∀ (i : Nat) (r : List UInt8), i + (numB m).length ≤ 10 → bg (numB m ++ r) i = i + (numB m).length := by
  induction m using Nat.strongRecOn with
  | _ m ih =>
    intro i r hi
    by_cases h : m < 128
    · have hc : (UInt8.ofNat m).toNat = m := by simp; omega
      rw [numB_small h] at hi ⊢
      simp only [List.length_cons, List.length_nil] at hi ⊢
      show bg (UInt8.ofNat m :: r) i = _
      rw [bg, if_neg (by omega), hc, if_pos h]
    · have hc : (UInt8.ofNat (m % 128 + 128)).toNat = m % 128 + 128 := by simp; omega
      rw [numB_big h] at hi ⊢
      simp only [List.length_cons] at hi ⊢
      show bg (UInt8.ofNat (m % 128 + 128) :: (numB (m / 128) ++ r)) i = _
      rw [bg, if_neg (by omega), hc, if_neg (by omega), ih (m / 128) (by omega) (i + 1) r (by omega)]
      omega

theorem hv_num (m : Nat) : m < 18446744073709551616 → hv (numB m) = m := by
  induction m using Nat.strongRecOn with
  | _ m ih =>
    intro hm
    by_cases h : m < 128
    · have hc : (UInt8.ofNat m).toNat = m := by simp; omega
      rw [numB_small h]
      simp only [hv, hc]; omega
    · have hc : (UInt8.ofNat (m % 128 + 128)).toNat = m % 128 + 128 := by simp; omega
      rw [numB_big h]
      simp only [hv, hc]
      rw [ih (m / 128) (by omega) (by omega)]; omega

theorem bg_le : ∀ (l : List UInt8) (i : Nat), bg l i ≤ i + l.length
  | [], i => by simp [bg]
  | c :: t, i => by
    unfold bg
    split
    · omega
    · split
      · simp
      · have := bg_le t (i + 1)
        simp only [List.length_cons]; omega

theorem hv_lt (l : List UInt8) : hv l < 18446744073709551616 := by
  cases l with
  | nil => simp [hv]
  | cons c t => simp only [hv]; omega

/-- Where something is taken, the begin is its bytes, and its number it. -/
theorem ref_some {l : List UInt8} {n : Nat} {r : List UInt8} (h : tk l 0 0 = some (n, r)) :
    bg l 0 = (numB n).length ∧ l.take (bg l 0) = numB n ∧ hv (numB n) = n ∧ l.drop (bg l 0) = r ∧ numB n ≠ [] := by
  have hb := tk_bytes h
  have hn := tk_bd _ _ _ _ _ (by decide) (by decide) h
  have hl := num_len10 hn
  rw [← numB_len] at hl
  have e : bg l 0 = (numB n).length := by rw [hb, bg_num n 0 r (by omega)]; omega
  refine ⟨e, ?_, hv_num n hn, ?_, ?_⟩
  · rw [e, hb, List.take_left]
  · rw [e, hb, List.drop_left]
  · intro h0; rw [h0] at hl; simp at hl

/-- Where nothing is taken, the begin is empty, or no number's bytes. -/
theorem ref_none {l : List UInt8} (h : tk l 0 0 = none) : numB (hv (l.take (bg l 0))) ≠ l.take (bg l 0) := by
  intro e
  have h2 : l = numB (hv (l.take (bg l 0))) ++ l.drop (bg l 0) := by rw [e, List.take_append_drop]
  rw [h2, tk_back (hv_lt _)] at h
  exact absurd h (by simp)

end Go.Proofs.YtcgkkjfbdappoaaGreat.Pk

/- The document's begin, TakeNum, TakeInt, TakeText, Int and Text (layer 1): their contracts. -/
namespace Go.Proofs.YtcgkkjfbdappoaaGreat
open Go.RowKit Go.Proofs.YtcgkkjfbdappoaaGreatW.PrintWords Go.Proofs.YtcgkkjfbdappoaaGreatW.PrintLast Go.Proofs.YtcgkkjfbdappoaaGreatW.PrintMore Pk
set_option linter.unusedVariables false
set_option linter.unusedSimpArgs false

set_option maxRecDepth 100000 in
theorem ref_begin (s : ByteArray) (hs : s.size ≤ 140737488355328) (w : World) :
    Calls Tryz.prog 98 #[.string s] w fun e w' => e = .returned (.string (s.extract 0 (bg s.data.toList 0))) ∧ Below w.heap.size w w' := by
  have he : Hd (s.extract 0 0 = ⟨#[]⟩) := ⟨by apply ByteArray.ext; simp⟩
  go_enter Tryz.func98, Tryz.ntmps98
  go_wp2
  go_loopg [3] (s.size) (fun kq v3 w' => ∃ (k : Nat), k ≤ s.size ∧ k ≤ 10 ∧ v3 = .int .i64 (k : Int) ∧ Hd (kq + k = s.size) ∧ Hd (bg (s.data.toList.drop k) k = bg s.data.toList 0) ∧ Hd (Below w.heap.size w w'))
  case atStart => exact ⟨0, by omega, by omega, rfl, ⟨by omega⟩, ⟨rfl⟩, ⟨Below.refl _ _⟩⟩
  case round =>
    obtain ⟨k, hk, hk10, rfl, HK, HT, HB⟩ := hrel
    by_cases hlt : k < s.size
    · obtain ⟨c, t, hct⟩ : ∃ (c : UInt8) (t : List UInt8), s.data.toList.drop k = c :: t := by
        have : k < s.data.toList.length := by simpa using hlt
        exact ⟨_, _, List.drop_eq_getElem_cons this⟩
      have hcs : s[k] = c := by
        have h1 : k < s.data.toList.length := by simpa using hlt
        rw [List.drop_eq_getElem_cons h1] at hct
        exact (List.cons.inj hct).1
      have HC := Hd.mk hct
      have hd := Hd.mk (drop_next hct)
      clear hct
      have hc256 : c.toNat < 256 := c.toNat_lt
      by_cases h10 : k = 10
      · have h10b : decide ((k : Int) < 10) = false := by simp; omega
        have HV : Hd (bg s.data.toList 0 = 0) := ⟨by rw [← HT.out, HC.out, bg, if_pos (by omega)]⟩
        clear h10
        go_wp2_with fail
        all_goals go_ret
        all_goals exact ⟨by rw [HV.out, he.out]; rfl, HB.out⟩
      · have h10b : k < 10 := by omega
        by_cases hc : c.toNat < 128
        · have HV : Hd (bg s.data.toList 0 = k + 1) := ⟨by rw [← HT.out, HC.out, bg, if_neg (by omega), if_pos hc]⟩
          go_wp2_with fail
          go_ret
          exact ⟨by rw [HV.out]; rfl, HB.out⟩
        · go_wp2_with fail
          go_roundg (gk - 1)
          case measure => have := HK.out; omega
          case rel => exact ⟨k + 1, by omega, by omega, by first | rfl | (congr 1), ⟨by have := HK.out; omega⟩, ⟨by rw [hd.out, ← HT.out, HC.out, bg, if_neg (by omega), if_neg hc]⟩, HB⟩
    · have HV : Hd (bg s.data.toList 0 = 0) := ⟨by rw [← HT.out, List.drop_eq_nil_of_le (by simp; omega)]; rfl⟩
      go_wp2_with fail
      go_ret
      exact ⟨by rw [HV.out, he.out]; rfl, HB.out⟩
end Go.Proofs.YtcgkkjfbdappoaaGreat

/- The document's TakeNum, TakeInt, TakeText, Int and Text (layer 1): their contracts. -/
namespace Go.Proofs.YtcgkkjfbdappoaaGreat
open Go.RowKit Go.Proofs.YtcgkkjfbdappoaaGreatW.PrintWords Go.Proofs.YtcgkkjfbdappoaaGreatW.PrintLast Go.Proofs.YtcgkkjfbdappoaaGreatW.PrintMore Pk
set_option linter.unusedVariables false
set_option linter.unusedSimpArgs false

set_option maxHeartbeats 1000000 in
set_option maxRecDepth 100000 in
theorem ref_TakeNum (s : ByteArray) (hs : s.size ≤ 140737488355328) (w : World) :
    Calls Tryz.prog 74 #[.string s] w fun e w' => e = .returned (tnV (tk s.data.toList 0 0)) ∧ Below w.heap.size w w' := by
  have H0 := Hd.mk (ref_begin s hs)
  have hle := bg_le s.data.toList 0
  have hsl : s.data.toList.length = s.size := rfl
  obtain ⟨m, hm⟩ : ∃ m, m = bg s.data.toList 0 := ⟨_, rfl⟩
  rw [← hm] at H0 hle
  have hms : m ≤ s.size := by omega
  obtain ⟨b, hb⟩ : ∃ b, b = s.extract 0 m := ⟨_, rfl⟩
  rw [← hb] at H0
  have hbl : b.data.toList = s.data.toList.take m := by rw [hb, take_bytes]
  have hbs : b.size = m := by
    have : b.data.toList.length = b.size := rfl
    rw [← this, hbl, List.length_take]; omega
  have Hbs := Hd.mk hbs
  have hbz : b.size ≤ 140737488355328 := by omega
  have HN := Hd.mk (fun w => ref_Num (hv b.data.toList) ⟨hv_lt _⟩ w)
  -- what the last test tells
  have HE : Hd ((b.toList == []) = decide (m = 0)) := ⟨by
    rw [Lib.toList_data, hbl, hm]
    by_cases h0 : bg s.data.toList 0 = 0
    · rw [h0]; rfl
    · rw [decide_eq_false h0]
      cases hq : s.data.toList.take (bg s.data.toList 0) with
      | nil =>
        have h1 := congrArg List.length hq
        rw [List.length_take] at h1
        simp only [List.length_nil] at h1
        omega
      | cons a t => rfl⟩
  have HS : Hd (∀ n r, tk s.data.toList 0 0 = some (n, r) → m ≠ 0 ∧ strOfNums (num n) = b ∧ hv b.data.toList = n ∧ s.extract m s.size = ⟨r.toArray⟩) := ⟨by
    intro n r h
    obtain ⟨e1, e2, e3, e4, e5⟩ := ref_some h
    rw [← hm] at e1 e2 e4
    refine ⟨?_, ?_, ?_, ?_⟩
    · intro h0; rw [h0] at e1; exact e5 (List.eq_nil_of_length_eq_zero e1.symm)
    · rw [numB_str]
      refine (bytes_eq (a := b) (l := numB n) ?_).symm
      rw [hbl, e2]
    · rw [hbl, e2, e3]
    · rw [drop_bytes, e4]⟩
  have HX : Hd (tk s.data.toList 0 0 = none → strOfNums (num (hv b.data.toList)) ≠ b) := ⟨by
    intro h e
    refine ref_none h ?_
    rw [← hm, ← hbl]
    have := congrArg (fun x : ByteArray => x.data.toList) e
    rw [numB_str] at this
    exact this⟩
  clear hbl hb hm hle hsl hbs
  go_enter Tryz.func74, Tryz.ntmps74
  go_wp2_with fail
  refine (H0.out _).mono ?_; rintro e ws1 ⟨rfl, hs1⟩
  go_wp2_with fail
  have HB := Hd.mk hs1
  go_loopg [6, 7] (b.size) (fun kq v6 v7 w' => ∃ (j : Nat), j ≤ b.size ∧ v6 = .int .u64 ((hv (b.data.toList.drop j) : Nat) : Int) ∧ v7 = .int .i64 ((j : Int) - 1) ∧ Hd (kq = j) ∧ Hd (Below w.heap.size w w'))
  case atStart => exact ⟨b.size, by omega, by rw [List.drop_eq_nil_of_le (by exact Nat.le_refl _)]; rfl, rfl, ⟨rfl⟩, HB⟩
  case round =>
    clear HB hs1
    obtain ⟨j, hj, rfl, rfl, HK, HB⟩ := hrel
    by_cases h0 : j = 0
    · obtain rfl := h0
      cases hT : tk s.data.toList 0 0 with
      | none =>
        have hx := HX.out hT
        have HT := Hd.mk hT
        clear hT HS HX
        by_cases hm0 : m = 0
        · have he : b.toList = [] := by have := HE.out; rw [decide_eq_true hm0] at this; exact beq_iff_eq.1 this
          clear hm0
          go_wp2_with fail
          go_ret3
          exact ⟨by rw [HT.out]; rfl, HB.out⟩
        · have he : ¬ b.toList = [] := by have := HE.out; rw [decide_eq_false hm0] at this; exact beq_eq_false_iff_ne.1 this
          have he2 : (b.toList == []) = false := by have := HE.out; rw [decide_eq_false hm0] at this; exact this
          obtain ⟨A, hA⟩ : ∃ A, A = strOfNums (num (hv b.data.toList)) := ⟨_, rfl⟩
          rw [← hA] at hx HN
          have hx2 : ¬ A.toList = b.toList := fun e => hx (by
            rw [Lib.toList_data, Lib.toList_data] at e
            exact ByteArray.ext (Array.toList_inj.1 e))
          have hx3 : (A.toList != b.toList) = true := by simpa using hx2
          have hx4 : (A.toList == b.toList) = false := by simpa using hx2
          clear hm0 hx hA
          go_wp2_with fail
          refine (HN.out _).mono ?_; rintro e w5 ⟨rfl, h5⟩
          go_wp2_with fail
          go_ret3
          exact ⟨by rw [HT.out]; rfl, below_step HB.out h5⟩
      | some p =>
        obtain ⟨n, r⟩ := p
        obtain ⟨g1, g2, g3, g4⟩ := HS.out n r hT
        have HT := Hd.mk hT
        have he : ¬ b.toList = [] := by have := HE.out; rw [decide_eq_false g1] at this; exact beq_eq_false_iff_ne.1 this
        have he2 : (b.toList == []) = false := by have := HE.out; rw [decide_eq_false g1] at this; exact this
        have HN2 := HN.out
        rw [g3, g2] at HN2
        have HN3 := Hd.mk HN2
        have G3 : hv (b.data.toList.drop 0) = n := g3
        have G4 := Hd.mk g4
        have hbm : (b.size : Int) ≤ (s.size : Int) := by have := Hbs.out; omega
        have G5 : Hd (s.extract b.size s.size = ⟨r.toArray⟩) := ⟨by rw [Hbs.out]; exact g4⟩
        rw [G3]
        clear hT HS HX HN HN2 g1 g2 g3 g4 G3
        go_wp2_with fail
        refine (HN3.out _).mono ?_; rintro e w5 ⟨rfl, h5⟩
        go_wp2_with fail
        go_quiet (fail)
        go_wp2
        go_ret3
        refine ⟨congrArg Ending.returned ?_, by repeat (first | (with_reducible first | exact (below_step HB.out h5) | apply below_alloc | apply pw_below_drewN | apply below_drew1) | exact (below_step HB.out h5))⟩
        show Value.tuple #[.int .u64 (n : Int), .string (s.extract b.size s.size), .int .i64 0] = _
        rw [G5.out, HT.out]; rfl
    · have hj1 : j - 1 < b.size := by omega
      obtain ⟨i, rfl⟩ : ∃ i, j = i + 1 := ⟨j - 1, by omega⟩
      have hi : i < b.size := by omega
      have hd : Hd (hv (b.data.toList.drop i) = (128 * hv (b.data.toList.drop (i + 1)) + (b[i]'hi).toNat % 128) % 18446744073709551616) := ⟨by
        have h1 : i < b.data.toList.length := hi
        rw [List.drop_eq_getElem_cons h1]; rfl⟩
      have hc : (b[i]'hi).toNat < 256 := (b[i]'hi).toNat_lt
      go_wp2_with fail
      go_roundg i
      case measure => have := HK.out; omega
      case rel => exact ⟨i, by omega, by rw [hd.out]; congr 1; simp only [wrap_u64]; omega, by congr 1 <;> omega, ⟨rfl⟩, HB⟩
end Go.Proofs.YtcgkkjfbdappoaaGreat

/- The document's TakeInt, TakeText, Int and Text (layer 1): their contracts. -/
namespace Go.Proofs.YtcgkkjfbdappoaaGreat
open Go.RowKit Go.Proofs.YtcgkkjfbdappoaaGreatW.PrintWords Go.Proofs.YtcgkkjfbdappoaaGreatW.PrintLast Go.Proofs.YtcgkkjfbdappoaaGreatW.PrintMore Pk
set_option linter.unusedVariables false
set_option linter.unusedSimpArgs false

theorem ref_TakeInt (s : ByteArray) (hs : s.size ≤ 140737488355328) (w : World) :
    Calls Tryz.prog 44 #[.string s] w fun e w' => e = .returned (tiV (tk s.data.toList 0 0)) ∧ Below w.heap.size w w' := by
  have H := ref_TakeNum s hs
  cases hT : tk s.data.toList 0 0 with
  | none =>
    rw [hT] at H
    simp only [tnV] at H
    have H' := Hd.mk H
    clear H hT
    go_enter Tryz.func44, Tryz.ntmps44
    go_wp2_with fail
    refine (H'.out _).mono ?_; rintro e ws2 ⟨rfl, hs2⟩
    go_wp2_with fail
    go_ret3
    exact ⟨rfl, hs2⟩
  | some p =>
    obtain ⟨n, r⟩ := p
    have hbd := tk_bd _ _ _ _ _ (by decide) (by decide) hT
    rw [hT] at H
    simp only [tnV] at H
    have H' := Hd.mk H
    clear H hT
    have hw : wrap64 ((n : Int) / 2) = (n : Int) / 2 := by unfold wrap64; omega
    have hw2 : wrap64 (-((n : Int) / 2)) = -((n : Int) / 2) := by unfold wrap64; omega
    have hw3 : wrap64 (-((n : Int) / 2) - 1) = -((n : Int) / 2) - 1 := by unfold wrap64; omega
    by_cases hp : n % 2 = 0
    · have hpb : ((n : Int) % 2 == 1) = false := by simp; omega
      have hu : Hd (unzig n = (n : Int) / 2) := ⟨by unfold unzig; rw [if_pos hp]; omega⟩
      clear hp hw hw2 hw3
      have hn2 : (n : Int) ≤ 18446744073709551615 := by omega
      clear hbd
      go_enter Tryz.func44, Tryz.ntmps44
      go_wp2_with fail
      refine (H'.out _).mono ?_; rintro e ws3 ⟨rfl, hs3⟩
      go_wp2_with fail
      go_ret3
      exact ⟨by show _ = Ending.returned (Value.tuple #[.int .i64 (unzig n), .string ⟨r.toArray⟩, .int .i64 0]); rw [hu.out]; rfl, hs3⟩
    · have hpb : ((n : Int) % 2 == 1) = true := by simp; omega
      have hu : Hd (unzig n = -((n : Int) / 2) - 1) := ⟨by unfold unzig; rw [if_neg hp]; omega⟩
      clear hp hw hw2 hw3
      have hn2 : (n : Int) ≤ 18446744073709551615 := by omega
      clear hbd
      go_enter Tryz.func44, Tryz.ntmps44
      go_wp2_with fail
      refine (H'.out _).mono ?_; rintro e ws4 ⟨rfl, hs4⟩
      go_wp2_with fail
      go_ret3
      exact ⟨by show _ = Ending.returned (Value.tuple #[.int .i64 (unzig n), .string ⟨r.toArray⟩, .int .i64 0]); rw [hu.out]; rfl, hs4⟩

theorem ref_TakeText (s : ByteArray) (hs : s.size ≤ 140737488355328) (most : Int) (h0 : -9223372036854775808 ≤ most) (h1 : most ≤ 9223372036854775807) (w : World) :
    Calls Tryz.prog 76 #[.string s, .int .i64 most] w fun e w' => e = .returned (txV (tx most (tk s.data.toList 0 0))) ∧ Below w.heap.size w w' := by
  have H := ref_TakeNum s hs
  cases hT : tk s.data.toList 0 0 with
  | none =>
    rw [hT] at H
    simp only [tnV] at H
    have H' := Hd.mk H
    clear H hT
    go_enter Tryz.func76, Tryz.ntmps76
    go_wp2_with fail
    refine (H'.out _).mono ?_; rintro e ws5 ⟨rfl, hs5⟩
    go_wp2_with fail
    go_ret3
    exact ⟨rfl, hs5⟩
  | some p =>
    obtain ⟨n, r⟩ := p
    have hbd := Hd.mk (tk_bd _ _ _ _ _ (by decide) (by decide) hT)
    have hrl := tk_len _ _ _ _ _ hT
    have hrs : (⟨r.toArray⟩ : ByteArray).size ≤ 140737488355328 := by
      rw [size_of]; have : s.data.toList.length = s.size := rfl; omega
    rw [hT] at H
    simp only [tnV] at H
    have H' := Hd.mk H
    have hn : Hd ((⟨r.toArray⟩ : ByteArray).size = r.length) := ⟨size_of r⟩
    obtain ⟨q, hq⟩ : ∃ q : ByteArray, q = ⟨r.toArray⟩ := ⟨_, rfl⟩
    rw [← hq] at hn hrs H'
    have HQ := Hd.mk hq
    clear H hT hrl hq
    by_cases hbad : most < 0 ∨ most < n ∨ r.length < n
    · have hv : Hd (tx most (some (n, r)) = none) := ⟨by show (if _ then _ else _) = _; rw [if_pos hbad]⟩
      rw [← hn.out] at hbad
      go_enter Tryz.func76, Tryz.ntmps76
      go_wp2_with (go_at_call 74; refine (H'.out _).mono ?_; rintro e w1 ⟨rfl, hb⟩)
      all_goals first | (exfalso; omega) | (go_ret3; exact ⟨by rw [hv.out]; rfl, hb⟩)
    · have hv : Hd (tx most (some (n, r)) = some (r.take n, r.drop n)) := ⟨by show (if _ then _ else _) = _; rw [if_neg hbad]⟩
      rw [← hn.out] at hbad
      have e1 : Hd (q.extract n q.size = ⟨(r.drop n).toArray⟩) := ⟨by rw [drop_bytes, HQ.out]⟩
      have e2 : Hd (q.extract 0 n = ⟨(r.take n).toArray⟩) := ⟨by rw [take_bytes, HQ.out]⟩
      have g1 : (n : Int) ≤ (q.size : Int) := by omega
      have g2 : 0 ≤ most := by omega
      have g3 : (n : Int) ≤ most := by omega
      have g4 : ¬ q.size < n := by omega
      clear hbad
      go_enter Tryz.func76, Tryz.ntmps76
      go_wp2_with (go_at_call 74; refine (H'.out _).mono ?_; rintro e w1 ⟨rfl, hb⟩)
      go_quiet (fail)
      go_wp2
      go_ret3
      refine ⟨congrArg Ending.returned ?_, by repeat (first | (with_reducible first | exact hb | apply below_alloc | apply pw_below_drewN | apply below_drew1) | exact hb)⟩
      show Value.tuple #[.string (q.extract 0 n), .string (q.extract n q.size), .int .i64 0] = _
      rw [hv.out, e1.out, e2.out]; rfl
theorem ref_Text (t : ByteArray) (ht : t.size ≤ 140737488355328) (w : World) :
    Calls Tryz.prog 90 #[.string t] w fun e w' => e = .returned (.string (strOfNums (num t.size) ++ t)) ∧ Below w.heap.size w w' := by
  have hl := (num_len10 (n := t.size) (by omega)).2
  have hz : (strOfNums (num t.size)).size ≤ 10 := by rw [strOfNums_size]; exact hl
  have hs : (strOfNums (num t.size)).size + t.size ≤ 9223372036854775807 := by omega
  have hlt : Hd (t.size < 18446744073709551616) := ⟨by omega⟩
  go_enter Tryz.func90, Tryz.ntmps90
  go_wp2_with (go_at_call 88; refine (ref_Num _ hlt _).mono ?_; rintro e w1 ⟨rfl, hb⟩)
  go_ret
  exact ⟨rfl, hb⟩
theorem ref_Int (n : Int) (h0 : -9223372036854775808 ≤ n) (h1 : n ≤ 9223372036854775807) (w : World) :
    Calls Tryz.prog 53 #[.int .i64 n] w fun e w' => e = .returned (.string (strOfNums (num (zig n)))) ∧ Below w.heap.size w w' := by
  have hl := zig_lt h0 h1
  have H := Hd.mk (fun w => ref_Num (zig n) ⟨hl⟩ w)
  by_cases hn : 0 ≤ n
  · have hz : Hd (((zig n : Nat) : Int) = 2 * n) := ⟨by unfold zig; rw [if_pos hn]; omega⟩
    clear hl
    go_enter Tryz.func53, Tryz.ntmps53
    go_wp2_with fail
    refine calls_of_args (congrArg (fun z => #[Value.int .u64 z]) (by have := hz.out; omega)) ((H.out _).mono ?_); rintro e w1 ⟨rfl, h1⟩
    go_wp2_with fail
    go_ret
    exact ⟨rfl, h1⟩
  · have hz : Hd (((zig n : Nat) : Int) = -2 * n - 1) := ⟨by unfold zig; rw [if_neg hn]; omega⟩
    clear hl
    go_enter Tryz.func53, Tryz.ntmps53
    go_wp2_with fail
    refine calls_of_args (congrArg (fun z => #[Value.int .u64 z]) (by have := hz.out; omega)) ((H.out _).mono ?_); rintro e w1 ⟨rfl, h1⟩
    go_wp2_with fail
    go_ret
    exact ⟨rfl, h1⟩
end Go.Proofs.YtcgkkjfbdappoaaGreat
