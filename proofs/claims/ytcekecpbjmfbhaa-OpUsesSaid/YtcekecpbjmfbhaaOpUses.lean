/- The law OpUses: the walk. -/
import Derived.Test.YtcekecpbjmfbhaaOpUsesW
import Derived.Test.YtcekecpbjmfbhaaOpOpen
namespace Go.Proofs.Ytcekecpbjmfbhaa.opUses
open Go.RowKit Go.Proofs.YtcekecpbjmfbhaaW.PrintWords Go.Proofs.YtcekecpbjmfbhaaW.PrintLast Go.Proofs.YtcekecpbjmfbhaaW.PrintMore
set_option linter.unusedVariables false
set_option linter.unusedSimpArgs false
attribute [local go_sem high] eqStamp

/-- What an operation that may be has: by its kind. -/
theorem may_kind {t r k a0 a1 i0 i1 t0 t1 : Int} {nm nw : ByteArray} {off : Int} {dt : ByteArray} (h : mayO t r k a0 a1 i0 i1 t0 t1 nm nw off dt = true) :
    (1 ≤ k ∧ k ≤ 3 ∧ nm.size ≠ 0 ∧ usesO k a0 a1 i0 i1 t0 t1 = [(a0, a1)]) ∨ (4 ≤ k ∧ k ≤ 6 ∧ nm.size ≠ 0 ∧ usesO k a0 a1 i0 i1 t0 t1 = [(a0, a1), (i0, i1)]) ∨ (k = 7 ∧ nm.size ≠ 0 ∧ usesO k a0 a1 i0 i1 t0 t1 = [(a0, a1), (i0, i1), (t0, t1)]) ∨ (8 ≤ k ∧ k ≤ 10 ∧ nm = ⟨#[]⟩ ∧ usesO k a0 a1 i0 i1 t0 t1 = [(i0, i1)]) := by
  have e : nameB nm = true → nm.size ≠ 0 := fun h => by unfold nameB at h; simp at h; omega
  have z : isE nm = true → nm = ⟨#[]⟩ := fun h => empty_of (of_decide_eq_true h)
  rcases k_cases k with rfl | rfl | rfl | rfl | rfl | rfl | rfl | rfl | rfl | rfl | h0
  · exact .inl ⟨by decide, by decide, e (by simp [mayO, fieldsN, rowsOk, rowOk] at h; simp_all), rfl⟩
  · exact .inl ⟨by decide, by decide, e (by simp [mayO, fieldsN, rowsOk, rowOk] at h; simp_all), rfl⟩
  · exact .inl ⟨by decide, by decide, e (by simp [mayO, fieldsN, rowsOk, rowOk] at h; simp_all), rfl⟩
  · exact .inr (.inl ⟨by decide, by decide, e (by simp [mayO, fieldsN, rowsOk, rowOk] at h; simp_all), rfl⟩)
  · exact .inr (.inl ⟨by decide, by decide, e (by simp [mayO, fieldsN, rowsOk, rowOk] at h; simp_all), rfl⟩)
  · exact .inr (.inl ⟨by decide, by decide, e (by simp [mayO, fieldsN, rowsOk, rowOk] at h; simp_all), rfl⟩)
  · exact .inr (.inr (.inl ⟨rfl, e (by simp [mayO, fieldsN, rowsOk, rowOk] at h; simp_all), rfl⟩))
  · exact .inr (.inr (.inr ⟨by decide, by decide, z (by simp [mayO, fieldsN, rowsOk, rowOk] at h; simp_all), rfl⟩))
  · exact .inr (.inr (.inr ⟨by decide, by decide, z (by simp [mayO, fieldsN, rowsOk, rowOk] at h; simp_all), rfl⟩))
  · exact .inr (.inr (.inr ⟨by decide, by decide, z (by simp [mayO, fieldsN, rowsOk, rowOk] at h; simp_all), rfl⟩))
  · rw [mayO_zero h0] at h; cases h
set_option maxHeartbeats 1600000 in
set_option maxRecDepth 100000 in
theorem uses_walk (t r k a0 a1 i0 i1 t0 t1 : Int) (nm nw : ByteArray) (off : Int) (dt : ByteArray) (hd : dt.size ≤ 140737488355328) (w : World) :
    Calls Try.prog 10 #[.agg #[.int .i64 t, .int .i64 r, .int .i64 k, .int .i64 a0, .int .i64 a1, .int .i64 i0, .int .i64 i1, .int .i64 t0, .int .i64 t1, .string nm, .string nw, .int .i64 off, .string dt]] w fun e w' => e = .returned (.bool true) ∧ Below w.heap.size w w' := by
  have HS := Hd.mk op_shown
  have HM := Hd.mk (op_May t r k a0 a1 i0 i1 t0 t1 nm nw off dt hd)
  have HU := Hd.mk (op_Uses t r k a0 a1 i0 i1 t0 t1 off nm nw dt)
  have HK := Hd.mk (op_Makes t r k a0 a1 i0 i1 t0 t1 off nm nw dt)
  have K0 := Hd.mk (Holds.start1 w (.cells #[.int .i64 t, .int .i64 r, .int .i64 k, .int .i64 a0, .int .i64 a1, .int .i64 i0, .int .i64 i1, .int .i64 t0, .int .i64 t1, .string nm, .string nw, .int .i64 off, .string dt] 50 (0, 0)))
  clear hd
  cases hm : mayO t r k a0 a1 i0 i1 t0 t1 nm nw off dt with
  | false =>
    rw [hm] at HM
    clear hm HU HK
    go_enter Try.func10, Try.ntmps10
    go_wp2_with fail
    refine world_gen_calls _ K0.out (fun W hK => ?_)
    have K0 := Hd.mk hK
    clear hK
    refine (HS.out _).mono ?_; rintro e w1 ⟨rfl, hb1⟩
    have K1 := Hd.mk (K0.out.call hb1)
    clear hb1 K0
    have g0 := cell_of_row w1 _ 0 _ _ _ (K1.out.get 0 rfl)
    have g1 := cell_of_row w1 _ 1 _ _ _ (K1.out.get 0 rfl)
    have g2 := cell_of_row w1 _ 2 _ _ _ (K1.out.get 0 rfl)
    have g3 := cell_of_row w1 _ 3 _ _ _ (K1.out.get 0 rfl)
    have g4 := cell_of_row w1 _ 4 _ _ _ (K1.out.get 0 rfl)
    have g5 := cell_of_row w1 _ 5 _ _ _ (K1.out.get 0 rfl)
    have g6 := cell_of_row w1 _ 6 _ _ _ (K1.out.get 0 rfl)
    have g7 := cell_of_row w1 _ 7 _ _ _ (K1.out.get 0 rfl)
    have g8 := cell_of_row w1 _ 8 _ _ _ (K1.out.get 0 rfl)
    have g9 := cell_of_row w1 _ 9 _ _ _ (K1.out.get 0 rfl)
    have g10 := cell_of_row w1 _ 10 _ _ _ (K1.out.get 0 rfl)
    have g11 := cell_of_row w1 _ 11 _ _ _ (K1.out.get 0 rfl)
    have g12 := cell_of_row w1 _ 12 _ _ _ (K1.out.get 0 rfl)
    go_wp2_with fail
    refine (HM.out _).mono ?_; rintro e w2 ⟨rfl, hb2⟩
    have K2 := Hd.mk (K1.out.call hb2)
    clear hb2 K1
    clear g0 g1 g2 g3 g4 g5 g6 g7 g8 g9 g10 g11 g12
    go_wp2_with fail
    go_ret
    exact ⟨rfl, K2.out.2⟩
  | true =>
    rw [hm] at HM
    have HMK := Hd.mk (may_kind hm)
    clear hm
    generalize usesO k a0 a1 i0 i1 t0 t1 = L at *
    obtain ⟨mk, hmk⟩ : ∃ m, m = makesN k := ⟨_, rfl⟩
    rw [← hmk] at HK
    have HMN := Hd.mk hmk
    clear hmk
    go_enter Try.func10, Try.ntmps10
    go_wp2_with fail
    refine world_gen_calls _ K0.out (fun W hK => ?_)
    have K0 := Hd.mk hK
    clear hK
    refine (HS.out _).mono ?_; rintro e w1 ⟨rfl, hb1⟩
    have K1 := Hd.mk (K0.out.call hb1)
    clear hb1 K0
    have g0 := cell_of_row w1 _ 0 _ _ _ (K1.out.get 0 rfl)
    have g1 := cell_of_row w1 _ 1 _ _ _ (K1.out.get 0 rfl)
    have g2 := cell_of_row w1 _ 2 _ _ _ (K1.out.get 0 rfl)
    have g3 := cell_of_row w1 _ 3 _ _ _ (K1.out.get 0 rfl)
    have g4 := cell_of_row w1 _ 4 _ _ _ (K1.out.get 0 rfl)
    have g5 := cell_of_row w1 _ 5 _ _ _ (K1.out.get 0 rfl)
    have g6 := cell_of_row w1 _ 6 _ _ _ (K1.out.get 0 rfl)
    have g7 := cell_of_row w1 _ 7 _ _ _ (K1.out.get 0 rfl)
    have g8 := cell_of_row w1 _ 8 _ _ _ (K1.out.get 0 rfl)
    have g9 := cell_of_row w1 _ 9 _ _ _ (K1.out.get 0 rfl)
    have g10 := cell_of_row w1 _ 10 _ _ _ (K1.out.get 0 rfl)
    have g11 := cell_of_row w1 _ 11 _ _ _ (K1.out.get 0 rfl)
    have g12 := cell_of_row w1 _ 12 _ _ _ (K1.out.get 0 rfl)
    go_wp2_with fail
    refine (HM.out _).mono ?_; rintro e w2 ⟨rfl, hb2⟩
    have K2 := Hd.mk (K1.out.call hb2)
    clear hb2 K1
    clear g0 g1 g2 g3 g4 g5 g6 g7 g8 g9 g10 g11 g12
    have g0 := cell_of_row w2 _ 0 _ _ _ (K2.out.get 0 rfl)
    have g1 := cell_of_row w2 _ 1 _ _ _ (K2.out.get 0 rfl)
    have g2 := cell_of_row w2 _ 2 _ _ _ (K2.out.get 0 rfl)
    have g3 := cell_of_row w2 _ 3 _ _ _ (K2.out.get 0 rfl)
    have g4 := cell_of_row w2 _ 4 _ _ _ (K2.out.get 0 rfl)
    have g5 := cell_of_row w2 _ 5 _ _ _ (K2.out.get 0 rfl)
    have g6 := cell_of_row w2 _ 6 _ _ _ (K2.out.get 0 rfl)
    have g7 := cell_of_row w2 _ 7 _ _ _ (K2.out.get 0 rfl)
    have g8 := cell_of_row w2 _ 8 _ _ _ (K2.out.get 0 rfl)
    have g9 := cell_of_row w2 _ 9 _ _ _ (K2.out.get 0 rfl)
    have g10 := cell_of_row w2 _ 10 _ _ _ (K2.out.get 0 rfl)
    have g11 := cell_of_row w2 _ 11 _ _ _ (K2.out.get 0 rfl)
    have g12 := cell_of_row w2 _ 12 _ _ _ (K2.out.get 0 rfl)
    go_wp2_with fail
    refine (HU.out _).mono ?_; rintro e w3 ⟨v, rfl, ho, hb3⟩
    have K3 := Hd.mk (K2.out.call hb3)
    have HO3 := Hd.mk ho
    clear hb3 K2 ho
    clear g0 g1 g2 g3 g4 g5 g6 g7 g8 g9 g10 g11 g12
    have g0 := cell_of_row w3 _ 0 _ _ _ (K3.out.get 0 rfl)
    have g1 := cell_of_row w3 _ 1 _ _ _ (K3.out.get 0 rfl)
    have g2 := cell_of_row w3 _ 2 _ _ _ (K3.out.get 0 rfl)
    have g3 := cell_of_row w3 _ 3 _ _ _ (K3.out.get 0 rfl)
    have g4 := cell_of_row w3 _ 4 _ _ _ (K3.out.get 0 rfl)
    have g5 := cell_of_row w3 _ 5 _ _ _ (K3.out.get 0 rfl)
    have g6 := cell_of_row w3 _ 6 _ _ _ (K3.out.get 0 rfl)
    have g7 := cell_of_row w3 _ 7 _ _ _ (K3.out.get 0 rfl)
    have g8 := cell_of_row w3 _ 8 _ _ _ (K3.out.get 0 rfl)
    have g9 := cell_of_row w3 _ 9 _ _ _ (K3.out.get 0 rfl)
    have g10 := cell_of_row w3 _ 10 _ _ _ (K3.out.get 0 rfl)
    have g11 := cell_of_row w3 _ 11 _ _ _ (K3.out.get 0 rfl)
    have g12 := cell_of_row w3 _ 12 _ _ _ (K3.out.get 0 rfl)
    go_wp2_with fail
    refine (HK.out _).mono ?_; rintro e w4 ⟨rfl, hb4⟩
    have K4 := Hd.mk (K3.out.call hb4)
    have HO4 := Hd.mk (HO3.out.below hb4)
    clear hb4 K3 HO3 HK HU HM HS
    clear g0 g1 g2 g3 g4 g5 g6 g7 g8 g9 g10 g11 g12
    have g0 := cell_of_row w4 _ 2 _ _ _ (K4.out.get 0 rfl)
    have g1 := cell_of_row w4 _ 3 _ _ _ (K4.out.get 0 rfl)
    have g2 := cell_of_row w4 _ 4 _ _ _ (K4.out.get 0 rfl)
    have g3 := cell_of_row w4 _ 9 _ _ _ (K4.out.get 0 rfl)
    rcases HMK.out with ⟨k1, k3, hn, hl⟩ | ⟨k1, k3, hn, hl⟩ | ⟨k7, hn, hl⟩ | ⟨k1, k3, hn, hl⟩
    · subst hl
      obtain ⟨gl, cap, rfl, -, hc⟩ := HO4.out.lit (by simp)
      have e0 : (mk != 0) = true := by
        have := HMN.out; unfold makesN at this
        obtain rfl | rfl | rfl : k = 1 ∨ k = 2 ∨ k = 3 := by omega
        all_goals (rw [this]; rfl)
      have c0 : w4.cell? ⟨gl, 0, none⟩ = some (.int .i64 a0) := hc 0 (a0, a1) rfl 0 _ rfl
      have c1 : w4.cell? ⟨gl, 1, none⟩ = some (.int .i64 a1) := hc 0 (a0, a1) rfl 1 _ rfl
      have f1 := nonempty_of hn
      have f2 : (!nm.toList.isEmpty) = true := by rw [f1]; rfl
      have f3 : (k == 7) = false := by rw [beq_eq_false_iff_ne]; omega
      have f4 : k ≤ 7 := by omega
      have f5 : k ≤ 3 := by omega
      clear hc HMN HMK HO4 k1 k3 hn
      go_upto_region 6 with (fail)
      go_quiet (fail)
      go_wp2_with fail
      go_ret
      exact ⟨by first | rfl | (simp [*]; done), pw_below_drewN K4.out.2 _⟩
    · subst hl
      obtain ⟨gl, cap, rfl, -, hc⟩ := HO4.out.lit (by simp)
      have e0 : mk = 0 := by
        have := HMN.out; unfold makesN at this
        rw [if_neg (by omega), if_neg (by omega), if_neg (by omega)] at this
        exact this
      subst e0
      have f1 := nonempty_of hn
      have f2 : (!nm.toList.isEmpty) = true := by rw [f1]; rfl
      have f3 : (k == 7) = false := by rw [beq_eq_false_iff_ne]; omega
      have f4 : k ≤ 7 := by omega
      have f5 : decide (k ≤ 3) = false := by rw [decide_eq_false]; omega
      clear hc HMN HMK HO4 k1 k3 hn
      go_upto_region 6 with (fail)
      go_quiet (fail)
      go_wp2_with fail
      go_ret
      exact ⟨by first | rfl | (simp [*]; done), pw_below_drewN K4.out.2 _⟩
    · subst hl
      obtain ⟨gl, cap, rfl, -, hc⟩ := HO4.out.lit (by simp)
      have e0 : mk = 0 := by
        have := HMN.out; unfold makesN at this
        rw [if_neg (by omega), if_neg (by omega), if_neg (by omega)] at this
        exact this
      subst e0
      have f1 := nonempty_of hn
      have f2 : (!nm.toList.isEmpty) = true := by rw [f1]; rfl
      have f3 : (k == 7) = true := by rw [beq_iff_eq]; exact k7
      have f4 : k ≤ 7 := by omega
      have f5 : decide (k ≤ 3) = false := by rw [decide_eq_false]; omega
      clear hc HMN HMK HO4 k7 hn
      go_upto_region 6 with (fail)
      go_quiet (fail)
      go_wp2_with fail
      go_ret
      exact ⟨by first | rfl | (simp [*]; done), pw_below_drewN K4.out.2 _⟩
    · subst hl
      obtain ⟨gl, cap, rfl, -, hc⟩ := HO4.out.lit (by simp)
      have e0 : mk = 0 := by
        have := HMN.out; unfold makesN at this
        rw [if_neg (by omega), if_neg (by omega), if_neg (by omega)] at this
        exact this
      subst e0
      subst hn
      have f3 : (k == 7) = false := by rw [beq_eq_false_iff_ne]; omega
      have f4 : decide (k ≤ 7) = false := by rw [decide_eq_false]; omega
      have f5 : decide (k ≤ 3) = false := by rw [decide_eq_false]; omega
      clear hc HMN HMK HO4 k1 k3
      go_upto_region 6 with (fail)
      go_quiet (fail)
      go_wp2_with fail
      go_ret
      exact ⟨by first | rfl | (simp [*]; done), pw_below_drewN K4.out.2 _⟩
theorem law_OpUses {v : Value} {t r k a0 a1 i0 i1 t0 t1 : Int} {nm nw : ByteArray} {off : Int} {dt : ByteArray} (hv : IsOp v t r k a0 a1 i0 i1 t0 t1 nm nw off dt) (w : World) :
    Calls Try.prog 10 #[v] w fun e w' => e = .returned (.bool true) ∧ Below w.heap.size w w' := by
  have hdt := hv.2.2.2
  obtain ⟨rfl, -⟩ := hv
  exact uses_walk _ _ _ _ _ _ _ _ _ _ _ _ _ hdt w
end Go.Proofs.Ytcekecpbjmfbhaa.opUses
