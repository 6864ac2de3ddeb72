/- Of two stamps just one is first, if they are unlike; of three that go on the first is ahead of the last: the law returns true, whatever comes in. -/
import Derived.Test.YtfcopeecgbgljaaStampPureStampOrder
import Derived.Test.YtfcopeecgbgljaaStampOpen
namespace Go.Proofs.Ytfcopeecgbgljaa.stampOrder
open Go.RowKit Go.Proofs.Ytfcopeecgbgljaa.PStampOrder Go.Proofs.YtfcopeecgbgljaaW.PrintWords Go.Proofs.YtfcopeecgbgljaaW.PrintLast Go.Proofs.YtfcopeecgbgljaaW.PrintMore St PureStampOrder
set_option linter.unusedVariables false
set_option linter.unusedSimpArgs false

theorem comp_calls (a b c d : Int) (w : World) : Calls Try.prog 22 #[.agg #[.int .i64 a, .int .i64 b], .agg #[.int .i64 c, .int .i64 d]] w fun e w' => e = .returned (.int .i64 (cmpS a b c d)) ∧ Below w.heap.size w w' :=
  stamp_Compare.calls 3 a b c d _ w (comp_f 0 a b c d)
theorem shown_calls (w : World) : Calls Try.prog 21 #[] w fun e w' => e = .returned (.bool true) ∧ Below w.heap.size w w' := thimblelaw03_shown.calls 3 true w (shown_f 0)

attribute [local go_sem high] eqStamp

/-- Compare of two stamps returns x. -/
def C (a b c d : Int) (w : World) (x : Int) : Prop := Calls Try.prog 22 #[.agg #[.int .i64 a, .int .i64 b], .agg #[.int .i64 c, .int .i64 d]] w fun e w' => e = .returned (.int .i64 x) ∧ Below w.heap.size w w'

set_option maxHeartbeats 1000000 in
set_option maxRecDepth 100000 in
theorem walkP (a b c d f g x y z : Int) (H0 : Hd (∀ w, Calls Try.prog 21 #[] w fun e w' => e = .returned (.bool true) ∧ Below w.heap.size w w'))
    (H1 : Hd (∀ w, C a b c d w x)) (H2 : Hd (∀ w, C c d f g w y)) (H3 : Hd (∀ w, C c d a b w (-x))) (H4 : Hd (∀ w, C a b f g w z))
    (hzf : (a == c && b == d) = false) (b1 : -1 ≤ x ∧ x ≤ 1) (hx : 0 < x) (w : World) :
    Calls Try.prog 6 #[.agg #[.int .i64 a, .int .i64 b], .agg #[.int .i64 c, .int .i64 d], .agg #[.int .i64 f, .int .i64 g]] w fun e w' => e = .returned (.bool true) ∧ Below w.heap.size w w' := by
  unfold C at H1 H2 H3 H4
  have hx0 : (x == 0) = false := beq_eq_false_iff_ne.2 (by omega)
  go_enter Try.func6, Try.ntmps6
  go_wp2_with fail
  refine (H0.out _).mono ?_; rintro e ws1 ⟨rfl, hs1⟩
  have ks1 := hs1
  clear hs1
  obtain ⟨cs1, fs1⟩ := bcell ks1
  go_wp2_with fail
  refine (H1.out _).mono ?_; rintro e ws2 ⟨rfl, hs2⟩
  have ks2 := below_step ks1 hs2
  clear hs2 ks1 cs1 fs1
  obtain ⟨cs2, fs2⟩ := bcell ks2
  go_wp2_with fail
  refine (H2.out _).mono ?_; rintro e ws3 ⟨rfl, hs3⟩
  have ks3 := below_step ks2 hs3
  clear hs3 ks2 cs2 fs2
  obtain ⟨cs3, fs3⟩ := bcell ks3
  go_wp2_with fail
  refine (H3.out _).mono ?_; rintro e ws4 ⟨rfl, hs4⟩
  have ks4 := below_step ks3 hs4
  clear hs4 ks3 cs3 fs3
  obtain ⟨cs4, fs4⟩ := bcell ks4
  go_wp2_with fail
  go_ret
  exact ⟨rfl, ((((Below.refl _ _).alloc (by simp <;> omega) _).alloc (by simp <;> omega) _).alloc (by simp <;> omega) _).trans (ks4.mono (by simp <;> omega))⟩

set_option maxHeartbeats 1000000 in
set_option maxRecDepth 100000 in
theorem walkZ1 (a b c d f g x y z : Int) (H0 : Hd (∀ w, Calls Try.prog 21 #[] w fun e w' => e = .returned (.bool true) ∧ Below w.heap.size w w'))
    (H1 : Hd (∀ w, C a b c d w x)) (H2 : Hd (∀ w, C c d f g w y)) (H3 : Hd (∀ w, C c d a b w (-x))) (H4 : Hd (∀ w, C a b f g w z))
    (hzf : (a == c && b == d) = true) (hx0 : x = 0) (hy : 0 < y) (w : World) :
    Calls Try.prog 6 #[.agg #[.int .i64 a, .int .i64 b], .agg #[.int .i64 c, .int .i64 d], .agg #[.int .i64 f, .int .i64 g]] w fun e w' => e = .returned (.bool true) ∧ Below w.heap.size w w' := by
  unfold C at H1 H2 H3 H4
  subst hx0
  go_enter Try.func6, Try.ntmps6
  go_wp2_with fail
  refine (H0.out _).mono ?_; rintro e ws5 ⟨rfl, hs5⟩
  have ks5 := hs5
  clear hs5
  obtain ⟨cs5, fs5⟩ := bcell ks5
  go_wp2_with fail
  refine (H1.out _).mono ?_; rintro e ws6 ⟨rfl, hs6⟩
  have ks6 := below_step ks5 hs6
  clear hs6 ks5 cs5 fs5
  obtain ⟨cs6, fs6⟩ := bcell ks6
  go_wp2_with fail
  refine (H2.out _).mono ?_; rintro e ws7 ⟨rfl, hs7⟩
  have ks7 := below_step ks6 hs7
  clear hs7 ks6 cs6 fs6
  obtain ⟨cs7, fs7⟩ := bcell ks7
  go_wp2_with fail
  refine (H3.out _).mono ?_; rintro e ws8 ⟨rfl, hs8⟩
  have ks8 := below_step ks7 hs8
  clear hs8 ks7 cs7 fs7
  obtain ⟨cs8, fs8⟩ := bcell ks8
  go_wp2_with fail
  go_ret
  exact ⟨rfl, ((((Below.refl _ _).alloc (by simp <;> omega) _).alloc (by simp <;> omega) _).alloc (by simp <;> omega) _).trans (ks8.mono (by simp <;> omega))⟩

set_option maxHeartbeats 1000000 in
set_option maxRecDepth 100000 in
theorem walkZ2 (a b c d f g x y z : Int) (H0 : Hd (∀ w, Calls Try.prog 21 #[] w fun e w' => e = .returned (.bool true) ∧ Below w.heap.size w w'))
    (H1 : Hd (∀ w, C a b c d w x)) (H2 : Hd (∀ w, C c d f g w y)) (H3 : Hd (∀ w, C c d a b w (-x))) (H4 : Hd (∀ w, C a b f g w z))
    (hzf : (a == c && b == d) = true) (hx0 : x = 0) (hy : y ≤ 0) (hz : z ≤ 0) (w : World) :
    Calls Try.prog 6 #[.agg #[.int .i64 a, .int .i64 b], .agg #[.int .i64 c, .int .i64 d], .agg #[.int .i64 f, .int .i64 g]] w fun e w' => e = .returned (.bool true) ∧ Below w.heap.size w w' := by
  unfold C at H1 H2 H3 H4
  subst hx0
  go_enter Try.func6, Try.ntmps6
  go_wp2_with fail
  refine (H0.out _).mono ?_; rintro e ws9 ⟨rfl, hs9⟩
  have ks9 := hs9
  clear hs9
  obtain ⟨cs9, fs9⟩ := bcell ks9
  go_wp2_with fail
  refine (H1.out _).mono ?_; rintro e ws10 ⟨rfl, hs10⟩
  have ks10 := below_step ks9 hs10
  clear hs10 ks9 cs9 fs9
  obtain ⟨cs10, fs10⟩ := bcell ks10
  go_wp2_with fail
  refine (H2.out _).mono ?_; rintro e ws11 ⟨rfl, hs11⟩
  have ks11 := below_step ks10 hs11
  clear hs11 ks10 cs10 fs10
  obtain ⟨cs11, fs11⟩ := bcell ks11
  go_wp2_with fail
  refine (H3.out _).mono ?_; rintro e ws12 ⟨rfl, hs12⟩
  have ks12 := below_step ks11 hs12
  clear hs12 ks11 cs11 fs11
  obtain ⟨cs12, fs12⟩ := bcell ks12
  go_wp2_with fail
  refine (H4.out _).mono ?_; rintro e ws13 ⟨rfl, hs13⟩
  have ks13 := below_step ks12 hs13
  clear hs13 ks12 cs12 fs12
  obtain ⟨cs13, fs13⟩ := bcell ks13
  go_wp2_with fail
  go_ret
  exact ⟨rfl, ((((Below.refl _ _).alloc (by simp <;> omega) _).alloc (by simp <;> omega) _).alloc (by simp <;> omega) _).trans (ks13.mono (by simp <;> omega))⟩

set_option maxHeartbeats 1000000 in
set_option maxRecDepth 100000 in
theorem walkN1 (a b c d f g x y z : Int) (H0 : Hd (∀ w, Calls Try.prog 21 #[] w fun e w' => e = .returned (.bool true) ∧ Below w.heap.size w w'))
    (H1 : Hd (∀ w, C a b c d w x)) (H2 : Hd (∀ w, C c d f g w y)) (H3 : Hd (∀ w, C c d a b w (-x))) (H4 : Hd (∀ w, C a b f g w z))
    (hzf : (a == c && b == d) = false) (b1 : -1 ≤ x ∧ x ≤ 1) (hx : x < 0) (hy : 0 < y) (w : World) :
    Calls Try.prog 6 #[.agg #[.int .i64 a, .int .i64 b], .agg #[.int .i64 c, .int .i64 d], .agg #[.int .i64 f, .int .i64 g]] w fun e w' => e = .returned (.bool true) ∧ Below w.heap.size w w' := by
  unfold C at H1 H2 H3 H4
  have hx0 : (x == 0) = false := beq_eq_false_iff_ne.2 (by omega)
  go_enter Try.func6, Try.ntmps6
  go_wp2_with fail
  refine (H0.out _).mono ?_; rintro e ws14 ⟨rfl, hs14⟩
  have ks14 := hs14
  clear hs14
  obtain ⟨cs14, fs14⟩ := bcell ks14
  go_wp2_with fail
  refine (H1.out _).mono ?_; rintro e ws15 ⟨rfl, hs15⟩
  have ks15 := below_step ks14 hs15
  clear hs15 ks14 cs14 fs14
  obtain ⟨cs15, fs15⟩ := bcell ks15
  go_wp2_with fail
  refine (H2.out _).mono ?_; rintro e ws16 ⟨rfl, hs16⟩
  have ks16 := below_step ks15 hs16
  clear hs16 ks15 cs15 fs15
  obtain ⟨cs16, fs16⟩ := bcell ks16
  go_wp2_with fail
  refine (H3.out _).mono ?_; rintro e ws17 ⟨rfl, hs17⟩
  have ks17 := below_step ks16 hs17
  clear hs17 ks16 cs16 fs16
  obtain ⟨cs17, fs17⟩ := bcell ks17
  go_wp2_with fail
  go_ret
  exact ⟨rfl, ((((Below.refl _ _).alloc (by simp <;> omega) _).alloc (by simp <;> omega) _).alloc (by simp <;> omega) _).trans (ks17.mono (by simp <;> omega))⟩

set_option maxHeartbeats 1000000 in
set_option maxRecDepth 100000 in
theorem walkN2 (a b c d f g x y z : Int) (H0 : Hd (∀ w, Calls Try.prog 21 #[] w fun e w' => e = .returned (.bool true) ∧ Below w.heap.size w w'))
    (H1 : Hd (∀ w, C a b c d w x)) (H2 : Hd (∀ w, C c d f g w y)) (H3 : Hd (∀ w, C c d a b w (-x))) (H4 : Hd (∀ w, C a b f g w z))
    (hzf : (a == c && b == d) = false) (b1 : -1 ≤ x ∧ x ≤ 1) (hx : x < 0) (hy : y = 0) (hz : z ≤ 0) (w : World) :
    Calls Try.prog 6 #[.agg #[.int .i64 a, .int .i64 b], .agg #[.int .i64 c, .int .i64 d], .agg #[.int .i64 f, .int .i64 g]] w fun e w' => e = .returned (.bool true) ∧ Below w.heap.size w w' := by
  unfold C at H1 H2 H3 H4
  have hx0 : (x == 0) = false := beq_eq_false_iff_ne.2 (by omega)
  subst hy
  go_enter Try.func6, Try.ntmps6
  go_wp2_with fail
  refine (H0.out _).mono ?_; rintro e ws18 ⟨rfl, hs18⟩
  have ks18 := hs18
  clear hs18
  obtain ⟨cs18, fs18⟩ := bcell ks18
  go_wp2_with fail
  refine (H1.out _).mono ?_; rintro e ws19 ⟨rfl, hs19⟩
  have ks19 := below_step ks18 hs19
  clear hs19 ks18 cs18 fs18
  obtain ⟨cs19, fs19⟩ := bcell ks19
  go_wp2_with fail
  refine (H2.out _).mono ?_; rintro e ws20 ⟨rfl, hs20⟩
  have ks20 := below_step ks19 hs20
  clear hs20 ks19 cs19 fs19
  obtain ⟨cs20, fs20⟩ := bcell ks20
  go_wp2_with fail
  refine (H3.out _).mono ?_; rintro e ws21 ⟨rfl, hs21⟩
  have ks21 := below_step ks20 hs21
  clear hs21 ks20 cs20 fs20
  obtain ⟨cs21, fs21⟩ := bcell ks21
  go_wp2_with fail
  refine (H4.out _).mono ?_; rintro e ws22 ⟨rfl, hs22⟩
  have ks22 := below_step ks21 hs22
  clear hs22 ks21 cs21 fs21
  obtain ⟨cs22, fs22⟩ := bcell ks22
  go_wp2_with fail
  go_ret
  exact ⟨rfl, ((((Below.refl _ _).alloc (by simp <;> omega) _).alloc (by simp <;> omega) _).alloc (by simp <;> omega) _).trans (ks22.mono (by simp <;> omega))⟩

set_option maxHeartbeats 1000000 in
set_option maxRecDepth 100000 in
theorem walkN3 (a b c d f g x y z : Int) (H0 : Hd (∀ w, Calls Try.prog 21 #[] w fun e w' => e = .returned (.bool true) ∧ Below w.heap.size w w'))
    (H1 : Hd (∀ w, C a b c d w x)) (H2 : Hd (∀ w, C c d f g w y)) (H3 : Hd (∀ w, C c d a b w (-x))) (H4 : Hd (∀ w, C a b f g w z))
    (hzf : (a == c && b == d) = false) (b1 : -1 ≤ x ∧ x ≤ 1) (hx : x < 0) (hy : y < 0) (hz : z < 0) (w : World) :
    Calls Try.prog 6 #[.agg #[.int .i64 a, .int .i64 b], .agg #[.int .i64 c, .int .i64 d], .agg #[.int .i64 f, .int .i64 g]] w fun e w' => e = .returned (.bool true) ∧ Below w.heap.size w w' := by
  unfold C at H1 H2 H3 H4
  have hx0 : (x == 0) = false := beq_eq_false_iff_ne.2 (by omega)
  have hz2 : decide (z ≤ 0) = true := by simp; omega
  go_enter Try.func6, Try.ntmps6
  go_wp2_with fail
  refine (H0.out _).mono ?_; rintro e ws23 ⟨rfl, hs23⟩
  have ks23 := hs23
  clear hs23
  obtain ⟨cs23, fs23⟩ := bcell ks23
  go_wp2_with fail
  refine (H1.out _).mono ?_; rintro e ws24 ⟨rfl, hs24⟩
  have ks24 := below_step ks23 hs24
  clear hs24 ks23 cs23 fs23
  obtain ⟨cs24, fs24⟩ := bcell ks24
  go_wp2_with fail
  refine (H2.out _).mono ?_; rintro e ws25 ⟨rfl, hs25⟩
  have ks25 := below_step ks24 hs25
  clear hs25 ks24 cs24 fs24
  obtain ⟨cs25, fs25⟩ := bcell ks25
  go_wp2_with fail
  refine (H3.out _).mono ?_; rintro e ws26 ⟨rfl, hs26⟩
  have ks26 := below_step ks25 hs26
  clear hs26 ks25 cs25 fs25
  obtain ⟨cs26, fs26⟩ := bcell ks26
  go_wp2_with fail
  refine (H4.out _).mono ?_; rintro e ws27 ⟨rfl, hs27⟩
  have ks27 := below_step ks26 hs27
  clear hs27 ks26 cs26 fs26
  obtain ⟨cs27, fs27⟩ := bcell ks27
  go_wp2_with fail
  refine (H4.out _).mono ?_; rintro e ws28 ⟨rfl, hs28⟩
  have ks28 := below_step ks27 hs28
  clear hs28 ks27 cs27 fs27
  obtain ⟨cs28, fs28⟩ := bcell ks28
  go_wp2_with fail
  go_ret
  exact ⟨rfl, ((((Below.refl _ _).alloc (by simp <;> omega) _).alloc (by simp <;> omega) _).alloc (by simp <;> omega) _).trans (ks28.mono (by simp <;> omega))⟩

theorem walk (a b c d f g : Int) (w : World) :
    Calls Try.prog 6 #[.agg #[.int .i64 a, .int .i64 b], .agg #[.int .i64 c, .int .i64 d], .agg #[.int .i64 f, .int .i64 g]] w fun e w' => e = .returned (.bool true) ∧ Below w.heap.size w w' := by
  have H0 := Hd.mk shown_calls
  have H1 : Hd (∀ w, C a b c d w (cmpS a b c d)) := ⟨comp_calls a b c d⟩
  have H2 : Hd (∀ w, C c d f g w (cmpS c d f g)) := ⟨comp_calls c d f g⟩
  have H3 : Hd (∀ w, C c d a b w (-cmpS a b c d)) := ⟨by rw [← cmpS_neg]; exact comp_calls c d a b⟩
  have H4 : Hd (∀ w, C a b f g w (cmpS a b f g)) := ⟨comp_calls a b f g⟩
  have t1 : cmpS a b c d ≤ 0 → cmpS c d f g ≤ 0 → cmpS a b f g ≤ 0 := fun h k => cmpS_trans h k
  have t2 : cmpS a b c d < 0 → cmpS c d f g < 0 → cmpS a b f g < 0 := fun h k => cmpS_trans' h k
  have b1 := cmpS_bd a b c d
  have zf : cmpS a b c d ≠ 0 → (a == c && b == d) = false := fun h => by
    have : ¬ (a = c ∧ b = d) := fun e => h ((cmpS_zero a b c d).2 e)
    rw [Bool.eq_false_iff]; simpa using this
  have zt : cmpS a b c d = 0 → (a == c && b == d) = true := fun h => by
    have := (cmpS_zero a b c d).1 h
    simp [this.1, this.2]
  by_cases hx : 0 < cmpS a b c d
  · exact walkP a b c d f g _ _ _ H0 H1 H2 H3 H4 (zf (by omega)) b1 hx w
  · by_cases hx0 : cmpS a b c d = 0
    · by_cases hy : 0 < cmpS c d f g
      · exact walkZ1 a b c d f g _ _ _ H0 H1 H2 H3 H4 (zt hx0) hx0 hy w
      · exact walkZ2 a b c d f g _ _ _ H0 H1 H2 H3 H4 (zt hx0) hx0 (by omega) (t1 (by omega) (by omega)) w
    · by_cases hy : 0 < cmpS c d f g
      · exact walkN1 a b c d f g _ _ _ H0 H1 H2 H3 H4 (zf hx0) b1 (by omega) hy w
      · by_cases hy0 : cmpS c d f g = 0
        · exact walkN2 a b c d f g _ _ _ H0 H1 H2 H3 H4 (zf hx0) b1 (by omega) hy0 (t1 (by omega) (by omega)) w
        · exact walkN3 a b c d f g _ _ _ H0 H1 H2 H3 H4 (zf hx0) b1 (by omega) (by omega) (t2 (by omega) (by omega)) w

theorem law_StampOrder {v1 v2 v3 : Value} {a b c d f g : Int} (h1 : IsStamp v1 a b) (h2 : IsStamp v2 c d) (h3 : IsStamp v3 f g) (w : World) :
    Calls Try.prog 6 #[v1, v2, v3] w fun e w' => e = .returned (.bool true) ∧ Below w.heap.size w w' := by
  rw [h1.1, h2.1, h3.1]
  exact walk a b c d f g w
end Go.Proofs.Ytfcopeecgbgljaa.stampOrder
