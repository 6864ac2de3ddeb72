/- The document's Uses of an operation. -/
import Derived.Test.YtcekecpbjmfbhaaOpRef0
namespace Go.Proofs.Ytcekecpbjmfbhaa
open Go.RowKit Go.Proofs.YtcekecpbjmfbhaaW.PrintWords Go.Proofs.YtcekecpbjmfbhaaW.PrintLast Go.Proofs.YtcekecpbjmfbhaaW.PrintMore Pk
set_option linter.unusedVariables false
set_option linter.unusedSimpArgs false

set_option maxHeartbeats 4000000 in
set_option maxRecDepth 100000 in
theorem ref_Uses (t r k a0 a1 i0 i1 t0 t1 off : Int) (nm nw dt : ByteArray) (w : World) :
    Calls Try.prog 37 #[.agg #[.int .i64 t, .int .i64 r, .int .i64 k, .int .i64 a0, .int .i64 a1, .int .i64 i0, .int .i64 i1, .int .i64 t0, .int .i64 t1, .string nm, .string nw, .int .i64 off, .string dt]] w fun e w' => ∃ v, e = .returned v ∧ stE.Own w.heap.size w' v (usesO k a0 a1 i0 i1 t0 t1) ∧ Below w.heap.size w w' := by
  have K0 := Hd.mk (Holds.start1 w (.cells #[.int .i64 t, .int .i64 r, .int .i64 k, .int .i64 a0, .int .i64 a1, .int .i64 i0, .int .i64 i1, .int .i64 t0, .int .i64 t1, .string nm, .string nw, .int .i64 off, .string dt] 50 (0, 0)))
  have HU : Hd (∀ l, l = usesO k a0 a1 i0 i1 t0 t1 → ∀ (w' : World) v, stE.Own w.heap.size w' v l → stE.Own w.heap.size w' v (usesO k a0 a1 i0 i1 t0 t1)) := ⟨fun l h w' v h2 => h ▸ h2⟩
  have hk : (1 ≤ k ∧ k ≤ 3) ∨ (4 ≤ k ∧ k ≤ 6) ∨ (k = 7) ∨ (8 ≤ k ∧ k ≤ 10) ∨ (10 < k) ∨ (k < 1) := by omega
  rcases hk with h | h | h | h | h | h
  · have hl : [(a0, a1)] = usesO k a0 a1 i0 i1 t0 t1 := by
      have h3 : k = 1 ∨ k = 2 ∨ k = 3 := by omega
      rcases h3 with rfl | rfl | rfl <;> simp [usesO, usesAt, fieldsN]
    have HU2 := Hd.mk (HU.out _ hl)
    have ea : decide (1 ≤ k) = true := decide_eq_true (by omega)
    have eb : decide (k ≤ 7) = true := decide_eq_true (by omega)
    have ec : decide (4 ≤ k) = false := decide_eq_false (by omega)
    have ee : (k == 7) = false := by rw [beq_eq_false_iff_ne, ne_eq]; omega
    clear hl h
    go_enter Try.func37, Try.ntmps37
    go_upto_region 1 with (fail)
    refine world_gen _ K0.out (fun W2 hK => ?_)
    have K2 := Hd.mk hK
    clear hK
    have hlt := K2.out.lt 0 rfl
    have HO : Hd (stE.Own W2.heap.size W2 (.slice none 0 0) []) := ⟨Elt.Own.nil _ _⟩
    have HB : Hd (Below W2.heap.size W2 W2) := ⟨Below.refl _ _⟩
    have g0 := cell_of_row W2 _ 0 _ _ _ (K2.out.get 0 rfl)
    have g1 := cell_of_row W2 _ 1 _ _ _ (K2.out.get 0 rfl)
    have g2 := cell_of_row W2 _ 2 _ _ _ (K2.out.get 0 rfl)
    have g3 := cell_of_row W2 _ 3 _ _ _ (K2.out.get 0 rfl)
    have g4 := cell_of_row W2 _ 4 _ _ _ (K2.out.get 0 rfl)
    have g5 := cell_of_row W2 _ 5 _ _ _ (K2.out.get 0 rfl)
    have g6 := cell_of_row W2 _ 6 _ _ _ (K2.out.get 0 rfl)
    have g7 := cell_of_row W2 _ 7 _ _ _ (K2.out.get 0 rfl)
    have g8 := cell_of_row W2 _ 8 _ _ _ (K2.out.get 0 rfl)
    have g9 := cell_of_row W2 _ 9 _ _ _ (K2.out.get 0 rfl)
    have g10 := cell_of_row W2 _ 10 _ _ _ (K2.out.get 0 rfl)
    have g11 := cell_of_row W2 _ 11 _ _ _ (K2.out.get 0 rfl)
    have g12 := cell_of_row W2 _ 12 _ _ _ (K2.out.get 0 rfl)
    go_wp2_with (first | ((with_reducible refine gate_dst (N := 16) rfl ?_); refine stE.wpList_push rfl _ _ rfl rfl rfl rfl rfl _ _ _ rfl HO.out (a0, a1) rfl rfl rfl (by simp) W2 rfl HB.out ?_; intro v2 w2 hown2 hbl2; replace HO := Hd.mk hown2; replace HB := Hd.mk hbl2; have K3 := K2.out.call hbl2; have q2 := cell_of_row w2 _ 2 _ _ _ (K3.get 0 rfl); have q5 := cell_of_row w2 _ 5 _ _ _ (K3.get 0 rfl); have q6 := cell_of_row w2 _ 6 _ _ _ (K3.get 0 rfl); have q7 := cell_of_row w2 _ 7 _ _ _ (K3.get 0 rfl); have q8 := cell_of_row w2 _ 8 _ _ _ (K3.get 0 rfl); clear hown2 hbl2 K3))
    go_ret
    exact ⟨_, rfl, HU2.out _ _ (own_base HO.out K2.out.2.size), K2.out.2.trans (HB.out.mono K2.out.2.size)⟩
  · have hl : [(a0, a1), (i0, i1)] = usesO k a0 a1 i0 i1 t0 t1 := by
      have h3 : k = 4 ∨ k = 5 ∨ k = 6 := by omega
      rcases h3 with rfl | rfl | rfl <;> simp [usesO, usesAt, fieldsN]
    have HU2 := Hd.mk (HU.out _ hl)
    have ea : decide (1 ≤ k) = true := decide_eq_true (by omega)
    have eb : decide (k ≤ 7) = true := decide_eq_true (by omega)
    have ec : decide (4 ≤ k) = true := decide_eq_true (by omega)
    have ed : decide (k ≤ 10) = true := decide_eq_true (by omega)
    have ee : (k == 7) = false := by rw [beq_eq_false_iff_ne, ne_eq]; omega
    clear hl h
    go_enter Try.func37, Try.ntmps37
    go_upto_region 1 with (fail)
    refine world_gen _ K0.out (fun W2 hK => ?_)
    have K2 := Hd.mk hK
    clear hK
    have hlt := K2.out.lt 0 rfl
    have HO : Hd (stE.Own W2.heap.size W2 (.slice none 0 0) []) := ⟨Elt.Own.nil _ _⟩
    have HB : Hd (Below W2.heap.size W2 W2) := ⟨Below.refl _ _⟩
    have g0 := cell_of_row W2 _ 0 _ _ _ (K2.out.get 0 rfl)
    have g1 := cell_of_row W2 _ 1 _ _ _ (K2.out.get 0 rfl)
    have g2 := cell_of_row W2 _ 2 _ _ _ (K2.out.get 0 rfl)
    have g3 := cell_of_row W2 _ 3 _ _ _ (K2.out.get 0 rfl)
    have g4 := cell_of_row W2 _ 4 _ _ _ (K2.out.get 0 rfl)
    have g5 := cell_of_row W2 _ 5 _ _ _ (K2.out.get 0 rfl)
    have g6 := cell_of_row W2 _ 6 _ _ _ (K2.out.get 0 rfl)
    have g7 := cell_of_row W2 _ 7 _ _ _ (K2.out.get 0 rfl)
    have g8 := cell_of_row W2 _ 8 _ _ _ (K2.out.get 0 rfl)
    have g9 := cell_of_row W2 _ 9 _ _ _ (K2.out.get 0 rfl)
    have g10 := cell_of_row W2 _ 10 _ _ _ (K2.out.get 0 rfl)
    have g11 := cell_of_row W2 _ 11 _ _ _ (K2.out.get 0 rfl)
    have g12 := cell_of_row W2 _ 12 _ _ _ (K2.out.get 0 rfl)
    go_wp2_with (first | ((with_reducible refine gate_dst (N := 16) rfl ?_); refine stE.wpList_push rfl _ _ rfl rfl rfl rfl rfl _ _ _ rfl HO.out (a0, a1) rfl rfl rfl (by simp) W2 rfl HB.out ?_; intro v2 w2 hown2 hbl2; replace HO := Hd.mk hown2; replace HB := Hd.mk hbl2; have K3 := K2.out.call hbl2; have q2 := cell_of_row w2 _ 2 _ _ _ (K3.get 0 rfl); have q5 := cell_of_row w2 _ 5 _ _ _ (K3.get 0 rfl); have q6 := cell_of_row w2 _ 6 _ _ _ (K3.get 0 rfl); have q7 := cell_of_row w2 _ 7 _ _ _ (K3.get 0 rfl); have q8 := cell_of_row w2 _ 8 _ _ _ (K3.get 0 rfl); clear hown2 hbl2 K3) | ((with_reducible refine gate_dst (N := 29) rfl ?_); refine stE.wpList_push rfl _ _ rfl rfl rfl rfl rfl _ _ _ rfl HO.out (i0, i1) rfl rfl rfl (by simp) W2 rfl HB.out ?_; intro v2 w2 hown2 hbl2; replace HO := Hd.mk hown2; replace HB := Hd.mk hbl2; have K3 := K2.out.call hbl2; have q2 := cell_of_row w2 _ 2 _ _ _ (K3.get 0 rfl); have q5 := cell_of_row w2 _ 5 _ _ _ (K3.get 0 rfl); have q6 := cell_of_row w2 _ 6 _ _ _ (K3.get 0 rfl); have q7 := cell_of_row w2 _ 7 _ _ _ (K3.get 0 rfl); have q8 := cell_of_row w2 _ 8 _ _ _ (K3.get 0 rfl); clear hown2 hbl2 K3))
    go_ret
    exact ⟨_, rfl, HU2.out _ _ (own_base HO.out K2.out.2.size), K2.out.2.trans (HB.out.mono K2.out.2.size)⟩
  · have hl : [(a0, a1), (i0, i1), (t0, t1)] = usesO k a0 a1 i0 i1 t0 t1 := by
      subst h; simp [usesO, usesAt, fieldsN]
    have HU2 := Hd.mk (HU.out _ hl)
    have ea : decide (1 ≤ k) = true := decide_eq_true (by omega)
    have eb : decide (k ≤ 7) = true := decide_eq_true (by omega)
    have ec : decide (4 ≤ k) = true := decide_eq_true (by omega)
    have ed : decide (k ≤ 10) = true := decide_eq_true (by omega)
    have ee : (k == 7) = true := by rw [beq_iff_eq]; omega
    clear hl h
    go_enter Try.func37, Try.ntmps37
    go_upto_region 1 with (fail)
    refine world_gen _ K0.out (fun W2 hK => ?_)
    have K2 := Hd.mk hK
    clear hK
    have hlt := K2.out.lt 0 rfl
    have HO : Hd (stE.Own W2.heap.size W2 (.slice none 0 0) []) := ⟨Elt.Own.nil _ _⟩
    have HB : Hd (Below W2.heap.size W2 W2) := ⟨Below.refl _ _⟩
    have g0 := cell_of_row W2 _ 0 _ _ _ (K2.out.get 0 rfl)
    have g1 := cell_of_row W2 _ 1 _ _ _ (K2.out.get 0 rfl)
    have g2 := cell_of_row W2 _ 2 _ _ _ (K2.out.get 0 rfl)
    have g3 := cell_of_row W2 _ 3 _ _ _ (K2.out.get 0 rfl)
    have g4 := cell_of_row W2 _ 4 _ _ _ (K2.out.get 0 rfl)
    have g5 := cell_of_row W2 _ 5 _ _ _ (K2.out.get 0 rfl)
    have g6 := cell_of_row W2 _ 6 _ _ _ (K2.out.get 0 rfl)
    have g7 := cell_of_row W2 _ 7 _ _ _ (K2.out.get 0 rfl)
    have g8 := cell_of_row W2 _ 8 _ _ _ (K2.out.get 0 rfl)
    have g9 := cell_of_row W2 _ 9 _ _ _ (K2.out.get 0 rfl)
    have g10 := cell_of_row W2 _ 10 _ _ _ (K2.out.get 0 rfl)
    have g11 := cell_of_row W2 _ 11 _ _ _ (K2.out.get 0 rfl)
    have g12 := cell_of_row W2 _ 12 _ _ _ (K2.out.get 0 rfl)
    go_wp2_with (first | ((with_reducible refine gate_dst (N := 16) rfl ?_); refine stE.wpList_push rfl _ _ rfl rfl rfl rfl rfl _ _ _ rfl HO.out (a0, a1) rfl rfl rfl (by simp) W2 rfl HB.out ?_; intro v2 w2 hown2 hbl2; replace HO := Hd.mk hown2; replace HB := Hd.mk hbl2; have K3 := K2.out.call hbl2; have q2 := cell_of_row w2 _ 2 _ _ _ (K3.get 0 rfl); have q5 := cell_of_row w2 _ 5 _ _ _ (K3.get 0 rfl); have q6 := cell_of_row w2 _ 6 _ _ _ (K3.get 0 rfl); have q7 := cell_of_row w2 _ 7 _ _ _ (K3.get 0 rfl); have q8 := cell_of_row w2 _ 8 _ _ _ (K3.get 0 rfl); clear hown2 hbl2 K3) | ((with_reducible refine gate_dst (N := 29) rfl ?_); refine stE.wpList_push rfl _ _ rfl rfl rfl rfl rfl _ _ _ rfl HO.out (i0, i1) rfl rfl rfl (by simp) W2 rfl HB.out ?_; intro v2 w2 hown2 hbl2; replace HO := Hd.mk hown2; replace HB := Hd.mk hbl2; have K3 := K2.out.call hbl2; have q2 := cell_of_row w2 _ 2 _ _ _ (K3.get 0 rfl); have q5 := cell_of_row w2 _ 5 _ _ _ (K3.get 0 rfl); have q6 := cell_of_row w2 _ 6 _ _ _ (K3.get 0 rfl); have q7 := cell_of_row w2 _ 7 _ _ _ (K3.get 0 rfl); have q8 := cell_of_row w2 _ 8 _ _ _ (K3.get 0 rfl); clear hown2 hbl2 K3) | ((with_reducible refine gate_dst (N := 37) rfl ?_); refine stE.wpList_push rfl _ _ rfl rfl rfl rfl rfl _ _ _ rfl HO.out (t0, t1) rfl rfl rfl (by simp) W2 rfl HB.out ?_; intro v2 w2 hown2 hbl2; replace HO := Hd.mk hown2; replace HB := Hd.mk hbl2; have K3 := K2.out.call hbl2; have q2 := cell_of_row w2 _ 2 _ _ _ (K3.get 0 rfl); have q5 := cell_of_row w2 _ 5 _ _ _ (K3.get 0 rfl); have q6 := cell_of_row w2 _ 6 _ _ _ (K3.get 0 rfl); have q7 := cell_of_row w2 _ 7 _ _ _ (K3.get 0 rfl); have q8 := cell_of_row w2 _ 8 _ _ _ (K3.get 0 rfl); clear hown2 hbl2 K3))
    go_ret
    exact ⟨_, rfl, HU2.out _ _ (own_base HO.out K2.out.2.size), K2.out.2.trans (HB.out.mono K2.out.2.size)⟩
  · have hl : [(i0, i1)] = usesO k a0 a1 i0 i1 t0 t1 := by
      have h3 : k = 8 ∨ k = 9 ∨ k = 10 := by omega
      rcases h3 with rfl | rfl | rfl <;> simp [usesO, usesAt, fieldsN]
    have HU2 := Hd.mk (HU.out _ hl)
    have ea : decide (1 ≤ k) = true := decide_eq_true (by omega)
    have eb : decide (k ≤ 7) = false := decide_eq_false (by omega)
    have ec : decide (4 ≤ k) = true := decide_eq_true (by omega)
    have ed : decide (k ≤ 10) = true := decide_eq_true (by omega)
    have ee : (k == 7) = false := by rw [beq_eq_false_iff_ne, ne_eq]; omega
    clear hl h
    go_enter Try.func37, Try.ntmps37
    go_upto_region 1 with (fail)
    refine world_gen _ K0.out (fun W2 hK => ?_)
    have K2 := Hd.mk hK
    clear hK
    have hlt := K2.out.lt 0 rfl
    have HO : Hd (stE.Own W2.heap.size W2 (.slice none 0 0) []) := ⟨Elt.Own.nil _ _⟩
    have HB : Hd (Below W2.heap.size W2 W2) := ⟨Below.refl _ _⟩
    have g0 := cell_of_row W2 _ 0 _ _ _ (K2.out.get 0 rfl)
    have g1 := cell_of_row W2 _ 1 _ _ _ (K2.out.get 0 rfl)
    have g2 := cell_of_row W2 _ 2 _ _ _ (K2.out.get 0 rfl)
    have g3 := cell_of_row W2 _ 3 _ _ _ (K2.out.get 0 rfl)
    have g4 := cell_of_row W2 _ 4 _ _ _ (K2.out.get 0 rfl)
    have g5 := cell_of_row W2 _ 5 _ _ _ (K2.out.get 0 rfl)
    have g6 := cell_of_row W2 _ 6 _ _ _ (K2.out.get 0 rfl)
    have g7 := cell_of_row W2 _ 7 _ _ _ (K2.out.get 0 rfl)
    have g8 := cell_of_row W2 _ 8 _ _ _ (K2.out.get 0 rfl)
    have g9 := cell_of_row W2 _ 9 _ _ _ (K2.out.get 0 rfl)
    have g10 := cell_of_row W2 _ 10 _ _ _ (K2.out.get 0 rfl)
    have g11 := cell_of_row W2 _ 11 _ _ _ (K2.out.get 0 rfl)
    have g12 := cell_of_row W2 _ 12 _ _ _ (K2.out.get 0 rfl)
    go_wp2_with (first | ((with_reducible refine gate_dst (N := 29) rfl ?_); refine stE.wpList_push rfl _ _ rfl rfl rfl rfl rfl _ _ _ rfl HO.out (i0, i1) rfl rfl rfl (by simp) W2 rfl HB.out ?_; intro v2 w2 hown2 hbl2; replace HO := Hd.mk hown2; replace HB := Hd.mk hbl2; have K3 := K2.out.call hbl2; have q2 := cell_of_row w2 _ 2 _ _ _ (K3.get 0 rfl); have q5 := cell_of_row w2 _ 5 _ _ _ (K3.get 0 rfl); have q6 := cell_of_row w2 _ 6 _ _ _ (K3.get 0 rfl); have q7 := cell_of_row w2 _ 7 _ _ _ (K3.get 0 rfl); have q8 := cell_of_row w2 _ 8 _ _ _ (K3.get 0 rfl); clear hown2 hbl2 K3))
    go_ret
    exact ⟨_, rfl, HU2.out _ _ (own_base HO.out K2.out.2.size), K2.out.2.trans (HB.out.mono K2.out.2.size)⟩
  · have hl : [] = usesO k a0 a1 i0 i1 t0 t1 := by
      have hf : fieldsN k = 0 := by unfold fieldsN; repeat rw [if_neg (by omega)]
      simp [usesO, usesAt, hf]
    have HU2 := Hd.mk (HU.out _ hl)
    have ea : decide (1 ≤ k) = true := decide_eq_true (by omega)
    have eb : decide (k ≤ 7) = false := decide_eq_false (by omega)
    have ec : decide (4 ≤ k) = true := decide_eq_true (by omega)
    have ed : decide (k ≤ 10) = false := decide_eq_false (by omega)
    have ee : (k == 7) = false := by rw [beq_eq_false_iff_ne, ne_eq]; omega
    clear hl h
    go_enter Try.func37, Try.ntmps37
    go_upto_region 1 with (fail)
    refine world_gen _ K0.out (fun W2 hK => ?_)
    have K2 := Hd.mk hK
    clear hK
    have hlt := K2.out.lt 0 rfl
    have HO : Hd (stE.Own W2.heap.size W2 (.slice none 0 0) []) := ⟨Elt.Own.nil _ _⟩
    have HB : Hd (Below W2.heap.size W2 W2) := ⟨Below.refl _ _⟩
    have g0 := cell_of_row W2 _ 0 _ _ _ (K2.out.get 0 rfl)
    have g1 := cell_of_row W2 _ 1 _ _ _ (K2.out.get 0 rfl)
    have g2 := cell_of_row W2 _ 2 _ _ _ (K2.out.get 0 rfl)
    have g3 := cell_of_row W2 _ 3 _ _ _ (K2.out.get 0 rfl)
    have g4 := cell_of_row W2 _ 4 _ _ _ (K2.out.get 0 rfl)
    have g5 := cell_of_row W2 _ 5 _ _ _ (K2.out.get 0 rfl)
    have g6 := cell_of_row W2 _ 6 _ _ _ (K2.out.get 0 rfl)
    have g7 := cell_of_row W2 _ 7 _ _ _ (K2.out.get 0 rfl)
    have g8 := cell_of_row W2 _ 8 _ _ _ (K2.out.get 0 rfl)
    have g9 := cell_of_row W2 _ 9 _ _ _ (K2.out.get 0 rfl)
    have g10 := cell_of_row W2 _ 10 _ _ _ (K2.out.get 0 rfl)
    have g11 := cell_of_row W2 _ 11 _ _ _ (K2.out.get 0 rfl)
    have g12 := cell_of_row W2 _ 12 _ _ _ (K2.out.get 0 rfl)
    go_wp2_with fail
    go_ret
    exact ⟨_, rfl, HU2.out _ _ (own_base HO.out K2.out.2.size), K2.out.2.trans (HB.out.mono K2.out.2.size)⟩
  · have hl : [] = usesO k a0 a1 i0 i1 t0 t1 := by
      have hf : fieldsN k = 0 := by unfold fieldsN; repeat rw [if_neg (by omega)]
      simp [usesO, usesAt, hf]
    have HU2 := Hd.mk (HU.out _ hl)
    have ea : decide (1 ≤ k) = false := decide_eq_false (by omega)
    have ec : decide (4 ≤ k) = false := decide_eq_false (by omega)
    have ee : (k == 7) = false := by rw [beq_eq_false_iff_ne, ne_eq]; omega
    clear hl h
    go_enter Try.func37, Try.ntmps37
    go_upto_region 1 with (fail)
    refine world_gen _ K0.out (fun W2 hK => ?_)
    have K2 := Hd.mk hK
    clear hK
    have hlt := K2.out.lt 0 rfl
    have HO : Hd (stE.Own W2.heap.size W2 (.slice none 0 0) []) := ⟨Elt.Own.nil _ _⟩
    have HB : Hd (Below W2.heap.size W2 W2) := ⟨Below.refl _ _⟩
    have g0 := cell_of_row W2 _ 0 _ _ _ (K2.out.get 0 rfl)
    have g1 := cell_of_row W2 _ 1 _ _ _ (K2.out.get 0 rfl)
    have g2 := cell_of_row W2 _ 2 _ _ _ (K2.out.get 0 rfl)
    have g3 := cell_of_row W2 _ 3 _ _ _ (K2.out.get 0 rfl)
    have g4 := cell_of_row W2 _ 4 _ _ _ (K2.out.get 0 rfl)
    have g5 := cell_of_row W2 _ 5 _ _ _ (K2.out.get 0 rfl)
    have g6 := cell_of_row W2 _ 6 _ _ _ (K2.out.get 0 rfl)
    have g7 := cell_of_row W2 _ 7 _ _ _ (K2.out.get 0 rfl)
    have g8 := cell_of_row W2 _ 8 _ _ _ (K2.out.get 0 rfl)
    have g9 := cell_of_row W2 _ 9 _ _ _ (K2.out.get 0 rfl)
    have g10 := cell_of_row W2 _ 10 _ _ _ (K2.out.get 0 rfl)
    have g11 := cell_of_row W2 _ 11 _ _ _ (K2.out.get 0 rfl)
    have g12 := cell_of_row W2 _ 12 _ _ _ (K2.out.get 0 rfl)
    go_wp2_with fail
    go_ret
    exact ⟨_, rfl, HU2.out _ _ (own_base HO.out K2.out.2.size), K2.out.2.trans (HB.out.mono K2.out.2.size)⟩
end Go.Proofs.Ytcekecpbjmfbhaa
