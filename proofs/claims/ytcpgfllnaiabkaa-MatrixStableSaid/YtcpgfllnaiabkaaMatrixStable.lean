/- The law MatrixStable: whatever four replicas do, 200 steps at most, nothing is issued that isn't above what is stable, and each has seen all that is not above it: it returns true. -/
import Derived.Test.YtcpgfllnaiabkaaStabS
import Derived.Test.YtcpgfllnaiabkaaOpenAll
namespace Go.Proofs.Ytcpgfllnaiabkaa.matrixStable
open Go.RowKit Go.Proofs.YtcpgfllnaiabkaaW.PrintWords Go.Proofs.YtcpgfllnaiabkaaW.PrintLast Go.Proofs.YtcpgfllnaiabkaaW.PrintMore
attribute [local go_sem] max2_int min2_int max_two min_two
set_option linter.unusedVariables false
set_option linter.unusedSimpArgs false

/-- Steps of replicas: what, whose, with whom. -/
def AreSteps (W : World) (v : Value) (A : Option Addr) (len cap : Nat) (l : List (Nat × Nat × Nat)) : Prop :=
  v = .slice A len cap ∧ len ≤ cap ∧ cap ≤ maxLen ∧ l.length = len ∧
  ∀ j x, l[j]? = some x → ∃ a, A = some a ∧ W.cell? (a.add (j * 3)) = some (.int .u8 (x.1 : Int)) ∧ W.cell? (a.add (j * 3 + 1)) = some (.int .u8 (x.2.1 : Int)) ∧ W.cell? (a.add (j * 3 + 2)) = some (.int .u8 (x.2.2 : Int)) ∧ x.1 < 256
theorem S_at {S : List Int} {a k : Nat} (hS : S.length = 32) (ha : a < 4) (hk : k < 8) {W : World} {b : Nat} (h : W.heap[b]? = some (.cells (vec S) 28 (0, 0))) : W.cell? ⟨b, a * 8 + k, none⟩ = some (.int .i64 (sN S a k)) := by
  rw [cell_of_row W b _ _ _ _ h, Nat.mul_comm a 8]
  refine vec_at ?_
  unfold sN
  rw [List.getD_eq_getElem?_getD, List.getElem?_eq_getElem (by omega)]; rfl
theorem T_at {T : List Int} {a : Nat} (hT : T.length = 4) (ha : a < 4) {W : World} {b : Nat} (h : W.heap[b]? = some (.cells (vec T) 29 (0, 0))) : W.cell? ⟨b, a, none⟩ = some (.int .i64 (T.getD a 0)) := by
  rw [cell_of_row W b _ _ _ _ h]
  refine vec_at ?_
  rw [List.getD_eq_getElem?_getD, List.getElem?_eq_getElem (by omega)]; rfl
theorem V_at {vs : List Value} {a : Nat} {v : Value} (hv : vs[a]? = some v) {W : World} {b : Nat} (h : W.heap[b]? = some (.cells vs.toArray 31 (0, 0))) : W.cell? ⟨b, a, none⟩ = some v := by
  rw [cell_of_row W b _ _ _ _ h]
  simpa using hv
theorem size_eight : (Try.prog.info? 27).map (·.size) = some 8 := by kernel_rfl
theorem getD_some {I : List (List Int)} {b : Nat} {l : List Int} (h : I[b]? = some l) : I.getD b [] = l := by rw [List.getD_eq_getElem?_getD, h]; rfl
theorem drop_row {S : List Int} (r : Nat) : (S.drop (r * 8)).take 8 = sRow S r := by unfold sRow; rw [Nat.mul_comm]
theorem build1 {o : Oper} {ρ : Operand → Value} {w : World} (x0 : Operand) (ho : o.op = .buildSlice 30 1 #[(0, x0)]) (x : Int) (h0 : ρ x0 = .int .i64 x) :
    (execOp ρ o).run Try.prog w = .ok (.value (.slice (some ⟨w.heap.size, 0, none⟩) 1 1)) (w.alloc (.cells #[.int .i64 x] 2 (0, 0))) := by
  unfold execOp
  simp only [ho, List.map_toArray, List.map_cons, List.map_nil, h0]
  go_simp
theorem run_buildrow {o : Oper} {ρ : Operand → Value} {w : World} (x0 x1 : Operand) (ho : o.op = .build 38 #[(0, x0), (1, x1)]) {u : List Int} {t : Int} (h0 : ρ x0 = .agg (vec u)) (h1 : ρ x1 = .int .i64 t) (hu : u.length = 8) :
    (execOp ρ o).run Try.prog w = .ok (.value (.agg (vec (u ++ [t])))) w := by
  unfold execOp
  simp only [ho, List.map_toArray, List.map_cons, List.map_nil, h0, h1, Sem.run_bind, Sem.run_pure, build_row hu t w, Result.andThen_ok]
theorem run_load_s {op : Oper} {ρ : Operand → Value} {w : World} (x : Operand) (ho : op.op = .load 27 x) (b r : Nat) (hx : ρ x = .pointer (some ⟨b, r * 8, none⟩)) {S : List Int} (hS : S.length = 32) (hr : r < 4) (hg : w.heap[b]? = some (.cells (vec S) 28 (0, 0))) :
    (execOp ρ op).run Try.prog w = .ok (.value (.agg (vec (sRow S r)))) w := by
  have e := run_load_vec 27 x ho b (r * 8) 8 hx S 28 (0, 0) hg _ Try.underlying27 rfl size_eight (by omega)
  rwa [drop_row] at e
theorem known_dec {y : Int} {k : Nat} (h : (k : Int) + 1 ≤ y) : decide (y < ((k + 1 : Nat) : Int)) = false := decide_eq_false (by omega)
theorem stb_start {w w1 w2 : World} (hb : Below w.heap.size w w1) (h : NewHolds w1 w1.heap.size (.cells (vec (4 :: zero72)) 71 (0, 0)) [] w2) :
    Stb w w1.heap.size w2.heap.size (w2.heap.size + 1) (w2.heap.size + 1 + 1) zero72 (List.replicate 32 0) (List.replicate 4 0) [[], [], [], []] [.slice none 0 0, .slice none 0 0, .slice none 0 0, .slice none 0 0]
      (((w2.alloc (.cells (vec (List.replicate 32 0)) 28 (0, 0))).alloc (.cells (vec (List.replicate 4 0)) 29 (0, 0))).alloc (.cells #[.slice none 0 0, .slice none 0 0, .slice none 0 0, .slice none 0 0] 31 (0, 0))) := by
  have hm : w2.heap[w1.heap.size]? = some (.cells (vec (4 :: zero72)) 71 (0, 0)) := h.1.get 0 rfl
  have hlt := lt_of hm
  have hbel : Below w.heap.size w w2 := below_step hb h.1.2
  have s1 : (w2.alloc (.cells (vec (List.replicate 32 0)) 28 (0, 0))).heap.size = w2.heap.size + 1 := by simp
  have s2 : ((w2.alloc (.cells (vec (List.replicate 32 0)) 28 (0, 0))).alloc (.cells (vec (List.replicate 4 0)) 29 (0, 0))).heap.size = w2.heap.size + 1 + 1 := by simp
  have e1 := heap_alloc_new w2 (.cells (vec (List.replicate 32 0)) 28 (0, 0))
  have e2 := heap_alloc_new (w2.alloc (.cells (vec (List.replicate 32 0)) 28 (0, 0))) (.cells (vec (List.replicate 4 0)) 29 (0, 0))
  have e3 := heap_alloc_new ((w2.alloc (.cells (vec (List.replicate 32 0)) 28 (0, 0))).alloc (.cells (vec (List.replicate 4 0)) 29 (0, 0))) (.cells #[.slice none 0 0, .slice none 0 0, .slice none 0 0, .slice none 0 0] 31 (0, 0))
  rw [s1] at e2
  rw [s2] at e3
  have nil4 : ∀ (b : Nat) v, [.slice none 0 0, .slice none 0 0, .slice none 0 0, (.slice none 0 0 : Value)][b]? = some v → v = .slice none 0 0 := fun b v h => by
    match b, h with
    | 0, h => simpa using h.symm
    | 1, h => simpa using h.symm
    | 2, h => simpa using h.symm
    | 3, h => simpa using h.symm
    | b + 4, h => simp at h
  have nil5 : ∀ (b : Nat) v, ([[], [], [], []] : List (List Int))[b]? = some v → v = [] := fun b v h => by
    match b, h with
    | 0, h => simpa using h.symm
    | 1, h => simpa using h.symm
    | 2, h => simpa using h.symm
    | 3, h => simpa using h.symm
    | b + 4, h => simp at h
  refine ⟨?_, ?_, ?_, ?_, e3, ?_, ?_, rfl, rfl, hb.size, hlt, by omega, by omega⟩
  · exact ((hbel.alloc hbel.size _).alloc (by rw [s1]; have := hbel.size; omega) _).alloc (by rw [s2]; have := hbel.size; omega) _
  · exact (heap_alloc_old _ _ (by rw [s2]; omega)).trans ((heap_alloc_old _ _ (by rw [s1]; omega)).trans ((heap_alloc_old _ _ hlt).trans hm))
  · exact (heap_alloc_old _ _ (by rw [s2]; omega)).trans ((heap_alloc_old _ _ (by rw [s1]; omega)).trans e1)
  · exact (heap_alloc_old _ _ (by rw [s2]; omega)).trans e2
  · intro b v l hv hl
    rw [nil4 b v hv, nil5 b l hl]
    exact Elt.Own.nil _ _
  · intro a b u v k _ hu hv hk
    rw [nil4 a u hu] at hk
    simp [Value.ownBlock] at hk
set_option maxHeartbeats 16000000 in
set_option maxRecDepth 100000 in
theorem law' {A : Option Addr} {len cap : Nat} {l : List (Nat × Nat × Nat)} {w : World} (hv : AreSteps w (.slice A len cap) A len cap l) :
    Calls Try.prog 3 #[.slice A len cap] w fun e w' => e = .returned (.bool true) ∧ Below w.heap.size w w' := by
  have HS := Hd.mk mat_shown
  have HN := Hd.mk (mat_New 4 (by decide) (by decide))
  obtain ⟨-, hlc, hcm, hll, hc⟩ := hv
  have HV := Hd.mk (⟨hlc, hcm, hll, hc⟩ : _ ∧ _ ∧ _ ∧ _)
  clear hlc hcm hll hc
  go_enter Try.func3, Try.ntmps3
  go_wp2_with fail
  refine (HS.out _).mono ?_; rintro e w1 ⟨rfl, hb1⟩
  have B1 := Hd.mk hb1
  clear hb1 HS
  go_wp2_with fail
  refine (HN.out _).mono ?_; rintro e w2 ⟨rfl, h2⟩
  have H2 := Hd.mk h2
  clear h2 HN
  go_upto_region 8 with (fail)
  refine world_gen (fun W_ => Stb w w1.heap.size w2.heap.size (w2.heap.size + 1) (w2.heap.size + 1 + 1) zero72 (List.replicate 32 0) (List.replicate 4 0) [[], [], [], []] [.slice none 0 0, .slice none 0 0, .slice none 0 0, .slice none 0 0] W_) (stb_start B1.out H2.out) (fun W hK => ?_)
  have KS := Hd.mk hK
  clear hK H2 B1
  generalize w2.heap.size + 1 + 1 = bi at *
  generalize w2.heap.size + 1 = bt at *
  generalize w2.heap.size = bs at *
  generalize w1.heap.size = bm at *
  go_wp2_with fail
  go_loopg [8] 200 (fun kq v8 wr => ∃ (i : Nat) (L S T : List Int) (I : List (List Int)) (vs : List Value), i ≤ 200 ∧ i ≤ len ∧ v8 = .int .i64 (i : Int) ∧ Hd (kq + i = 200) ∧ Hd (Stb w bm bs bt bi L S T I vs wr) ∧ Hd (StInv i L S T I))
  case atStart => exact ⟨0, _, _, _, _, _, by omega, by omega, rfl, ⟨rfl⟩, KS, ⟨StInv.start⟩⟩
  case round =>
    clear KS
    obtain ⟨i, L, S, T, I, vs, hi1, hi2, rfl, HK, KS, HI⟩ := hrel
    by_cases hlt : i < len ∧ i < 200
    · obtain ⟨g1, g2⟩ := hlt
      have g1' : (i : Int) < (len : Int) := by omega
      have g2' : (i : Int) < 200 := by omega
      obtain ⟨⟨kd, r0, o0⟩, hd⟩ : ∃ d, l[i]? = some d := ⟨_, List.getElem?_eq_getElem (by rw [HV.out.2.2.1]; exact g1)⟩
      obtain ⟨a, rfl, c0, c1, c2, hkd⟩ := HV.out.2.2.2 i _ hd
      have hblk := World.block_lt_of_cell? w _ c0
      have hblk1 := World.block_lt_of_cell? w _ c1
      have hblk2 := World.block_lt_of_cell? w _ c2
      have d0 := (KS.out.bel.cell hblk).trans c0
      have d1 := (KS.out.bel.cell hblk1).trans c1
      have d2 := (KS.out.bel.cell hblk2).trans c2
      obtain ⟨r, hr⟩ : ∃ r : Nat, r = r0 % 4 := ⟨_, rfl⟩
      obtain ⟨o, ho⟩ : ∃ o : Nat, o = o0 % 4 := ⟨_, rfl⟩
      have hr4 : r < 4 := by omega
      have ho4 : o < 4 := by omega
      have k1 : ((r0 : Int) % 4) = (r : Int) := by omega
      have k2 : Int.tmod (r0 : Int) 4 = (r : Int) := by rw [Int.tmod_eq_emod_of_nonneg (by omega)]; exact k1
      have k3 : IntKind.i64.wrap (r : Int) = (r : Int) := by rw [IntKind.wrap_i64]; omega
      have k4 : IntKind.u8.wrap (r : Int) = (r : Int) := by simp [IntKind.wrap, IntKind.bits, IntKind.signed]; omega
      have k5 : ((o0 : Int) % 4) = (o : Int) := by omega
      have k6 : Int.tmod (o0 : Int) 4 = (o : Int) := by rw [Int.tmod_eq_emod_of_nonneg (by omega)]; exact k5
      have k7 : IntKind.i64.wrap (o : Int) = (o : Int) := by rw [IntKind.wrap_i64]; omega
      have k8 : IntKind.u8.wrap (o : Int) = (o : Int) := by simp [IntKind.wrap, IntKind.bits, IntKind.signed]; omega
      rw [add_field _ _ 1 (by decide)] at d1
      rw [add_field _ _ 2 (by decide)] at d2
      clear hblk hblk1 hblk2 c0 c1 c2 hd hr ho
      go_upto_region 13 with (fail)
      clear d1 d2 k1 k2 k3 k4 k5 k6 k7 k8
      have HR := Hd.mk hr4
      have HO := Hd.mk ho4
      have HT := Hd.mk (KS.out.ti)
      have lenS := Hd.mk HI.out.lenS
      have lenT := Hd.mk HI.out.lenT
      have r8 : (r : Int) < 8 := by omega
      have r4 : (r : Int) < 4 := by omega
      have o4 : (o : Int) < 4 := by omega
      have hwi : wrap64 ((i : Int) + 1) = ((i + 1 : Nat) : Int) := by unfold wrap64; omega
      clear hr4 ho4 HT
      by_cases hk0 : kd = 0
      · have q0 : ((kd : Int) == 0) = true := by rw [beq_iff_eq]; omega
        clear hk0
        go_upto_region 17 with (fail)
        clear d0 q0
        have hT := HI.out.tb r HR.out
        have ct := T_at lenT.out HR.out KS.out.ti
        have ft := frozen_of_row wr bt r _ _ KS.out.ti
        have hwt : wrap64 (T.getD r 0 + 1) = T.getD r 0 + 1 := by unfold wrap64; omega
        have HI2 := Hd.mk (HI.out.issue HR.out)
        have HFR := Hd.mk (HI.out.fresh HR.out)
        have hSb := HI.out.bnd r r HR.out (by have := HR.out; omega)
        have hws : wrap64 (sN S r r + 1) = sN S r r + 1 := by unfold wrap64; omega
        have HWS := Hd.mk hws
        have HWS2 := Hd.mk (show IntKind.i64.wrap (sN S r r + 1) = sN S r r + 1 by rw [IntKind.wrap_i64]; omega)
        have HTL := Hd.mk (show (T.set r (T.getD r 0 + 1))[r]? = some (T.getD r 0 + 1) from List.getElem?_set_self (by rw [lenT.out]; exact HR.out))
        obtain ⟨l0, hl0⟩ : ∃ l0, I[r]? = some l0 := ⟨_, List.getElem?_eq_getElem (by rw [KS.out.lenI]; exact HR.out)⟩
        obtain ⟨v0, hv0⟩ : ∃ v0, vs[r]? = some v0 := ⟨_, List.getElem?_eq_getElem (by rw [KS.out.lenV]; exact HR.out)⟩
        have HV0 := Hd.mk hv0
        have HL0 := Hd.mk hl0
        have HIL := Hd.mk (getD_some hl0)
        have hlen0 : l0.length ≤ 50000000000 := by
          have h1 := HI.out.own r HR.out
          rw [getD_some hl0] at h1
          omega
        have HN0 := Hd.mk hlen0
        rw [HIL.out] at HI2
        have HSR : Hd (∀ (W' : World), W'.heap[bs]? = some (.cells (vec S) 28 (0, 0)) → W'.cell? ⟨bs, r * 8 + r, none⟩ = some (.int .i64 (sN S r r))) := ⟨fun W' h => S_at lenS.out HR.out (Nat.lt_trans HR.out (by decide)) h⟩
        generalize T.getD r 0 = tr at *
        generalize sN S r r = sr at *
        clear hws hT hSb hlen0 hv0 hl0 HIL
        go_upto_region 18 with (fail)
        clear ct ft hwt
        have K1 := Hd.mk (KS.out.setT r (tr + 1))
        clear KS
        refine world_gen _ K1.out (fun W hK => ?_)
        have KS := Hd.mk hK
        clear hK K1
        have hws := HWS.out
        have hws2 := HWS2.out
        refine start_ (n := 11) (S := fun W_ => W_.heap[bi]? = some (.cells vs.toArray 31 (0, 0)) ∧ W_.heap[bt]? = some (.cells (vec (T.set r (tr + 1))) 29 (0, 0))) (ds := [10]) #[false, false, false, false, false, false, false, false, false, false, false] (by kernel_rfl) rfl rfl (⟨KS.out.drew.is, KS.out.drew.ti⟩) (fun hHeld => ?_)
        refine pure_ (i := 0) (N := some 66) (v := ?_) (a' := ?_) #[true, false, false, false, false, false, false, false, false, false, false] rfl rfl (by kernel_rfl) (fun _ _ _ h => h) (Or.inl ⟨by rfl, ?_⟩) ?_ ?_
        rotate_left
        · intro w_
          go_simp
          try with_reducible rfl
        rotate_left
        · simp only [Act.put, List.setIfInBounds_toArray, List.set_cons_zero, List.set_cons_succ]
          rfl
        refine pure_ (i := 1) (N := some 67) (v := ?_) (a' := ?_) #[true, true, false, false, false, false, false, false, false, false, false] rfl rfl (by kernel_rfl) (fun _ _ _ h => h) (Or.inl ⟨by rfl, ?_⟩) ?_ ?_
        rotate_left
        · intro w_
          go_simp
          try with_reducible rfl
        rotate_left
        · simp only [Act.put, List.setIfInBounds_toArray, List.set_cons_zero, List.set_cons_succ]
          rfl
        refine pure_ (i := 2) (N := some 68) (v := ?_) (a' := ?_) #[true, true, true, false, false, false, false, false, false, false, false] rfl rfl (by kernel_rfl) (fun _ _ _ h => h) (Or.inl ⟨by rfl, ?_⟩) ?_ ?_
        rotate_left
        · intro w_
          go_simp
          try with_reducible rfl
        rotate_left
        · simp only [Act.put, List.setIfInBounds_toArray, List.set_cons_zero, List.set_cons_succ]
          rfl
        refine take_ (i := 3) (N := some 69) (v := v0) (a' := ?_) #[true, true, true, true, false, false, false, false, false, false, false] rfl rfl (by kernel_rfl) (fun _ _ _ h => h) (Or.inl ⟨by rfl, fun w' h => by have c := V_at HV0.out h.1; go_simp⟩) hHeld ?_ ?_
        rotate_left
        · simp only [Act.put, List.setIfInBounds_toArray, List.set_cons_zero, List.set_cons_succ]
          rfl
        refine pure_ (i := 4) (N := some 70) (v := ?_) (a' := ?_) #[true, true, true, true, true, false, false, false, false, false, false] rfl rfl (by kernel_rfl) (fun _ _ _ h => h) (Or.inl ⟨by rfl, ?_⟩) ?_ ?_
        rotate_left
        · intro w_
          go_simp
          try with_reducible rfl
        rotate_left
        · simp only [Act.put, List.setIfInBounds_toArray, List.set_cons_zero, List.set_cons_succ]
          rfl
        refine pure_ (i := 5) (N := some 71) (v := ?_) (a' := ?_) #[true, true, true, true, true, true, false, false, false, false, false] rfl rfl (by kernel_rfl) (fun _ _ _ h => h) (Or.inl ⟨by rfl, ?_⟩) ?_ ?_
        rotate_left
        · intro w_
          go_simp
          try with_reducible rfl
        rotate_left
        · simp only [Act.put, List.setIfInBounds_toArray, List.set_cons_zero, List.set_cons_succ]
          rfl
        refine take_ (i := 6) (N := some 72) (v := .int .i64 (tr + 1)) (a' := ?_) #[true, true, true, true, true, true, true, false, false, false, false] rfl rfl (by kernel_rfl) (fun _ _ _ h => h) (Or.inl ⟨by rfl, fun w' h => by have c : w'.cell? ⟨bt, r, none⟩ = some (.int .i64 (tr + 1)) := (cell_of_row w' bt r _ _ _ h.2).trans (vec_at HTL.out); go_simp⟩) hHeld ?_ ?_
        rotate_left
        · simp only [Act.put, List.setIfInBounds_toArray, List.set_cons_zero, List.set_cons_succ]
          rfl
        refine one_ (i := 7) (N := some 73) #[true, true, true, true, true, true, true, true, false, false, false] rfl rfl (by kernel_rfl) (by decide) (fun K hK => ?_)
        refine value_ (by rfl) rfl (build1 _ rfl _ rfl) ?_
        refine hK.out _ _ (⟨(heap_alloc_old _ _ (lt_of hHeld.1)).trans hHeld.1, (heap_alloc_old _ _ (lt_of hHeld.2)).trans hHeld.2⟩) (fun hHeld => ?_)
        clear hK K
        refine norm_ (a' := ?_) ?_ ?_
        rotate_left
        · show Act.put _ (some 73) _ = _
          simp only [Act.put, List.setIfInBounds_toArray, List.set_cons_zero, List.set_cons_succ]
          rfl
        have KA := Hd.mk (KS.out.drew.call ((Below.refl _ _).alloc (Nat.le_refl _) (.cells #[.int .i64 (tr + 1)] 2 (0, 0))))
        obtain ⟨v1, w9, hrun, hown, hgr, hnb⟩ := run_cat1 (KA.out.own r v0 l0 HV0.out HL0.out) (tr + 1) (g0 := W.drew.heap.size) (fun j u hu => (cell_of_row _ _ j _ _ _ (heap_alloc_new W.drew _)).trans (by have hu2 : ([Value.int .i64 (tr + 1)] : List Value)[j]? = some u := hu; simpa using hu2)) HN0.out (lt_of KA.out.is)
        obtain ⟨A1, cp1, rfl⟩ := hown.slice
        refine one_ (i := 8) (N := some 74) #[true, true, true, true, true, true, true, true, true, false, false] rfl rfl (by kernel_rfl) (by decide) (fun K hK => ?_)
        refine value_ (by rfl) rfl (run_catop rfl rfl rfl rfl hrun) ?_
        refine hK.out _ _ (⟨(hgr.block _ (lt_of hHeld.1) (fun e => by have := (KA.out.ownB HV0.out e.symm).1; omega)).trans hHeld.1, (hgr.block _ (lt_of hHeld.2) (fun e => by have := (KA.out.ownB HV0.out e.symm).1; have := KA.out.o4; omega)).trans hHeld.2⟩) (fun hHeld => ?_)
        clear hK K
        refine norm_ (a' := ?_) ?_ ?_
        rotate_left
        · show Act.put _ (some 74) _ = _
          simp only [Act.put, List.setIfInBounds_toArray, List.set_cons_zero, List.set_cons_succ]
          rfl
        refine pure_ (i := 9) (N := some 75) (v := ?_) (a' := ?_) #[true, true, true, true, true, true, true, true, true, true, false] rfl rfl (by kernel_rfl) (fun _ _ _ h => h) (Or.inl ⟨by rfl, ?_⟩) ?_ ?_
        rotate_left
        · intro w_
          go_simp
          try with_reducible rfl
        rotate_left
        · simp only [Act.put, List.setIfInBounds_toArray, List.set_cons_zero, List.set_cons_succ]
          rfl
        have cb := V_at HV0.out hHeld.1
        have fb := frozen_of_row w9 bi r _ _ hHeld.1
        refine last_ (i := 10) (N := none) #[true, true, true, true, true, true, true, true, true, true, true] rfl rfl (by kernel_rfl) (by decide) (fun K hK => ?_)
        refine skip_ (by rfl) rfl (show (execOp _ _).run Try.prog _ = .ok .skip (w9.setCell ⟨bi, r, none⟩ (.slice A1 (l0 ++ [tr + 1]).length cp1)) from (by go_simp)) ?_
        refine hK.out _ _ ?_
        clear hK K
        refine done_ (by kernel_rfl) ?_
        clear cb fb hHeld
        have K2 := Hd.mk (KA.out.push HV0.out HL0.out hown hgr hnb)
        clear KA hown hgr hnb hrun KS HV0 HL0
        generalize w9.setCell ⟨bi, r, none⟩ (.slice A1 (l0 ++ [tr + 1]).length cp1) = W2 at *
        generalize hvs : vs.set r (.slice A1 (l0 ++ [tr + 1]).length cp1) = vs2 at *
        clear hvs
        go_upto_region 19 with (fail)
        refine start_ (n := 9) (S := fun W_ => W_.heap[bs]? = some (.cells (vec S) 28 (0, 0))) (ds := [8]) #[false, false, false, false, false, false, false, false, false] (by kernel_rfl) rfl rfl (K2.out.drew.se) (fun hHeld => ?_)
        refine pure_ (i := 0) (N := some 76) (v := ?_) (a' := ?_) #[true, false, false, false, false, false, false, false, false] rfl rfl (by kernel_rfl) (fun _ _ _ h => h) (Or.inl ⟨by rfl, ?_⟩) ?_ ?_
        rotate_left
        · intro w_
          go_simp
          try with_reducible rfl
        rotate_left
        · simp only [Act.put, List.setIfInBounds_toArray, List.set_cons_zero, List.set_cons_succ]
          rfl
        refine pure_ (i := 1) (N := some 77) (v := ?_) (a' := ?_) #[true, true, false, false, false, false, false, false, false] rfl rfl (by kernel_rfl) (fun _ _ _ h => h) (Or.inl ⟨by rfl, ?_⟩) ?_ ?_
        rotate_left
        · intro w_
          go_simp
          try with_reducible rfl
        rotate_left
        · simp only [Act.put, List.setIfInBounds_toArray, List.set_cons_zero, List.set_cons_succ]
          rfl
        refine pure_ (i := 2) (N := some 78) (v := ?_) (a' := ?_) #[true, true, true, false, false, false, false, false, false] rfl rfl (by kernel_rfl) (fun _ _ _ h => h) (Or.inl ⟨by rfl, ?_⟩) ?_ ?_
        rotate_left
        · intro w_
          go_simp
          try with_reducible rfl
        rotate_left
        · simp only [Act.put, List.setIfInBounds_toArray, List.set_cons_zero, List.set_cons_succ]
          rfl
        refine pure_ (i := 3) (N := some 79) (v := ?_) (a' := ?_) #[true, true, true, true, false, false, false, false, false] rfl rfl (by kernel_rfl) (fun _ _ _ h => h) (Or.inl ⟨by rfl, ?_⟩) ?_ ?_
        rotate_left
        · intro w_
          go_simp
          try with_reducible rfl
        rotate_left
        · simp only [Act.put, List.setIfInBounds_toArray, List.set_cons_zero, List.set_cons_succ]
          rfl
        refine take_ (i := 4) (N := some 80) (v := .int .i64 sr) (a' := ?_) #[true, true, true, true, true, false, false, false, false] rfl rfl (by kernel_rfl) (fun _ _ _ h => h) (Or.inl ⟨by rfl, fun w' h => by have c := HSR.out _ h; go_simp⟩) hHeld ?_ ?_
        rotate_left
        · simp only [Act.put, List.setIfInBounds_toArray, List.set_cons_zero, List.set_cons_succ]
          rfl
        refine pure_ (i := 5) (N := some 81) (v := ?_) (a' := ?_) #[true, true, true, true, true, true, false, false, false] rfl rfl (by kernel_rfl) (fun _ _ _ h => h) (Or.inl ⟨by rfl, ?_⟩) ?_ ?_
        rotate_left
        · intro w_
          go_simp
          try with_reducible rfl
        rotate_left
        · simp only [Act.put, List.setIfInBounds_toArray, List.set_cons_zero, List.set_cons_succ]
          rfl
        refine pure_ (i := 6) (N := some 82) (v := ?_) (a' := ?_) #[true, true, true, true, true, true, true, false, false] rfl rfl (by kernel_rfl) (fun _ _ _ h => h) (Or.inl ⟨by rfl, ?_⟩) ?_ ?_
        rotate_left
        · intro w_
          go_simp
          try with_reducible rfl
        rotate_left
        · simp only [Act.put, List.setIfInBounds_toArray, List.set_cons_zero, List.set_cons_succ]
          rfl
        refine pure_ (i := 7) (N := some 83) (v := ?_) (a' := ?_) #[true, true, true, true, true, true, true, true, false] rfl rfl (by kernel_rfl) (fun _ _ _ h => h) (Or.inl ⟨by rfl, ?_⟩) ?_ ?_
        rotate_left
        · intro w_
          go_simp
          try with_reducible rfl
        rotate_left
        · simp only [Act.put, List.setIfInBounds_toArray, List.set_cons_zero, List.set_cons_succ]
          rfl
        have cb := HSR.out _ hHeld
        have fb := frozen_of_row W2.drew bs (r * 8 + r) _ _ hHeld
        refine last_ (i := 8) (N := none) #[true, true, true, true, true, true, true, true, true] rfl rfl (by kernel_rfl) (by decide) (fun K hK => ?_)
        refine skip_ (by rfl) rfl (show (execOp _ _).run Try.prog _ = .ok .skip (W2.drew.setCell ⟨bs, r * 8 + r, none⟩ (.int .i64 (sr + 1))) from (by go_simp)) ?_
        refine hK.out _ _ ?_
        clear hK K
        refine done_ (by kernel_rfl) ?_
        clear cb fb hHeld
        have K3 := Hd.mk (K2.out.drew.setS (r * 8 + r) (sr + 1))
        clear K2 hws hws2 HWS HWS2 HSR
        generalize W2.drew.setCell ⟨bs, r * 8 + r, none⟩ (.int .i64 (sr + 1)) = W3 at *
        have HSt := Hd.mk (fun (W' : World) (h : MatIs bm 4 L W') => mat_Stable (n := 4) h HI.out.lenL (by decide) (by decide))
        have hle : decide (tr + 1 ≤ stabM 4 L) = false := decide_eq_false HFR.out
        generalize stabM 4 L = st at hle HSt
        clear HFR
        go_upto_region 20 with (fail)
        refine start_ (n := 6) (S := fun W_ => Stb w bm bs bt bi L (S.set (r * 8 + r) (sr + 1)) (T.set r (tr + 1)) (I.set r (l0 ++ [tr + 1])) vs2 W_) (ds := []) #[false, false, false, false, false, false] (by kernel_rfl) rfl rfl (K3.out.drew) (fun hHeld => ?_)
        refine pure_ (i := 0) (N := some 84) (v := ?_) (a' := ?_) #[true, false, false, false, false, false] rfl rfl (by kernel_rfl) (fun _ _ _ h => h) (Or.inl ⟨by rfl, ?_⟩) ?_ ?_
        rotate_left
        · intro w_
          go_simp
          try with_reducible rfl
        rotate_left
        · simp only [Act.put, List.setIfInBounds_toArray, List.set_cons_zero, List.set_cons_succ]
          rfl
        refine pure_ (i := 1) (N := some 85) (v := ?_) (a' := ?_) #[true, true, false, false, false, false] rfl rfl (by kernel_rfl) (fun _ _ _ h => h) (Or.inl ⟨by rfl, ?_⟩) ?_ ?_
        rotate_left
        · intro w_
          go_simp
          try with_reducible rfl
        rotate_left
        · simp only [Act.put, List.setIfInBounds_toArray, List.set_cons_zero, List.set_cons_succ]
          rfl
        refine take_ (i := 2) (N := some 86) (v := .int .i64 (tr + 1)) (a' := ?_) #[true, true, true, false, false, false] rfl rfl (by kernel_rfl) (fun _ _ _ h => h) (Or.inl ⟨by rfl, fun w' h => by have c : w'.cell? ⟨bt, r, none⟩ = some (.int .i64 (tr + 1)) := (cell_of_row w' bt r _ _ _ h.ti).trans (vec_at HTL.out); go_simp⟩) hHeld ?_ ?_
        rotate_left
        · simp only [Act.put, List.setIfInBounds_toArray, List.set_cons_zero, List.set_cons_succ]
          rfl
        refine pure_ (i := 3) (N := some 87) (v := ?_) (a' := ?_) #[true, true, true, true, false, false] rfl rfl (by kernel_rfl) (fun _ _ _ h => h) (Or.inl ⟨by rfl, ?_⟩) ?_ ?_
        rotate_left
        · intro w_
          go_simp
          try with_reducible rfl
        rotate_left
        · simp only [Act.put, List.setIfInBounds_toArray, List.set_cons_zero, List.set_cons_succ]
          rfl
        refine one_ (i := 4) (N := some 88) #[true, true, true, true, true, false] rfl rfl (by kernel_rfl) (by decide) (fun K hK => ?_)
        refine goes_ Try.func10 (by kernel_rfl) rfl #[.pointer (some ⟨bm, 0, none⟩)] (by rfl) rfl rfl (by (try simp only [List.map_toArray, List.map_cons, List.map_nil]); first | done | rfl) ?_
        (with_reducible refine ((HSt.out _ hHeld.mat)).mono ?_)
        rintro e wr1 ⟨rfl, hr1⟩
        refine ⟨_, rfl, ?_⟩
        refine hK.out _ _ (hHeld.call hr1) (fun hHeld => ?_)
        clear hK K
        refine norm_ (a' := ?_) ?_ ?_
        rotate_left
        · show Act.put _ (some 88) _ = _
          simp only [Act.put, List.setIfInBounds_toArray, List.set_cons_zero, List.set_cons_succ]
          rfl
        refine pure_ (i := 5) (N := some 89) (v := ?_) (a' := ?_) #[true, true, true, true, true, true] rfl rfl (by kernel_rfl) (fun _ _ _ h => h) (Or.inl ⟨by rfl, ?_⟩) ?_ ?_
        rotate_left
        · intro w_
          go_simp
          try with_reducible rfl
        rotate_left
        · simp only [Act.put, List.setIfInBounds_toArray, List.set_cons_zero, List.set_cons_succ]
          rfl
        refine done_ (by kernel_rfl) ?_
        have K4 := Hd.mk hHeld
        have HI4 : Hd (StInv (i + 1) L (S.set (r * 8 + r) (sr + 1)) (T.set r (tr + 1)) (I.set r (l0 ++ [tr + 1]))) := ⟨by rw [Nat.mul_comm r 8]; exact HI2.out⟩
        clear hHeld K3 HSt HI2 HTL HI lenS lenT
        go_upto_region 25 with (fail)
        clear hle
        clear HR HO r8 r4 o4
        refine world_gen (fun W_ => ∃ L S T I vs, Stb w bm bs bt bi L S T I vs W_ ∧ StInv (i + 1) L S T I) ⟨_, _, _, _, _, K4.out, HI4.out⟩ (fun W9 hK => ?_)
        clear K4 HI4
        obtain ⟨L, S, T, I, vs, k4, hi4⟩ := hK
        have KS := Hd.mk k4
        have HI := Hd.mk hi4
        clear k4 hi4
        have HSt := Hd.mk (fun (W' : World) (h : MatIs bm 4 L W') => mat_Stable (n := 4) h HI.out.lenL (by decide) (by decide))
        have HKn := Hd.mk (fun (a b k : Nat) (x : Int) ha hb hx hs => HI.out.known (a := a) (b := b) (k := k) (x := x) ha hb hx hs)
        generalize stabM 4 L = st at HSt HKn
        go_wp2_with fail
        refine (HSt.out _ KS.out.mat).mono ?_; rintro e w5 ⟨rfl, hb⟩
        have K5 := Hd.mk (KS.out.call hb)
        clear hb KS HSt
        go_wp2_with fail
        go_loopg [12] 4 (fun kq v12 wx => ∃ p : Nat, p ≤ 4 ∧ v12 = .int .i64 (p : Int) ∧ Hd (kq + p = 4) ∧ Hd (Stb w bm bs bt bi L S T I vs wx))
        case atStart => exact ⟨0, by omega, rfl, ⟨rfl⟩, K5⟩
        case round =>
          clear K5
          obtain ⟨p, hp, rfl, HKp, K6⟩ := hrel
          by_cases hp4 : p < 4
          · have f1 : (p : Int) < 4 := by omega
            have hwp : wrap64 ((p : Int) + 1) = ((p + 1 : Nat) : Int) := by unfold wrap64; omega
            have HP := Hd.mk hp4
            clear hp4
            go_wp2_with fail
            go_loopg [13] 4 (fun kq v13 wx => ∃ q : Nat, q ≤ 4 ∧ v13 = .int .i64 (q : Int) ∧ Hd (kq + q = 4) ∧ Hd (Stb w bm bs bt bi L S T I vs wx))
            case atStart => exact ⟨0, by omega, rfl, ⟨rfl⟩, K6⟩
            case round =>
              clear K6
              obtain ⟨q, hq, rfl, HKq, K7⟩ := hrel
              by_cases hq4 : q < 4
              · have f2 : (q : Int) < 4 := by omega
                have f3 : (q : Int) < 8 := by omega
                have hwq : wrap64 ((q : Int) + 1) = ((q + 1 : Nat) : Int) := by unfold wrap64; omega
                have HQ := Hd.mk hq4
                obtain ⟨l0, hl0⟩ : ∃ l0, I[q]? = some l0 := ⟨_, List.getElem?_eq_getElem (by rw [K7.out.lenI]; exact HQ.out)⟩
                obtain ⟨v0, hv0⟩ : ∃ v0, vs[q]? = some v0 := ⟨_, List.getElem?_eq_getElem (by rw [K7.out.lenV]; exact HQ.out)⟩
                obtain ⟨A0, cp0, rfl⟩ := (K7.out.own q v0 l0 hv0 hl0).slice
                have HV0 := Hd.mk hv0
                have HL0 := Hd.mk hl0
                have HN0 : Hd (l0.length ≤ 200) := ⟨by
                  have h1 := HI.out.own q HQ.out
                  have h2 := HI.out.bnd q q HQ.out (Nat.lt_trans HQ.out (by decide))
                  rw [getD_some hl0] at h1
                  omega⟩
                clear hq4 hl0 hv0
                go_wp2_with fail
                go_loopg [14] l0.length (fun kq v14 wx => ∃ k : Nat, k ≤ l0.length ∧ v14 = .int .i64 (k : Int) ∧ Hd (kq + k = l0.length) ∧ Hd (Stb w bm bs bt bi L S T I vs wx))
                case atStart => exact ⟨0, by omega, rfl, ⟨rfl⟩, K7⟩
                case round =>
                  clear K7
                  obtain ⟨k, hk, rfl, HKk, K8⟩ := hrel
                  have cb := V_at HV0.out K8.out.is
                  by_cases hkl : k < l0.length
                  · have f4 : (k : Int) < (l0.length : Int) := by omega
                    obtain ⟨x, hx⟩ : ∃ x, l0[k]? = some x := ⟨_, List.getElem?_eq_getElem hkl⟩
                    have hne : l0 ≠ [] := by rintro rfl; simp at hkl
                    obtain ⟨g, cp', hv, hg, hcell⟩ := (K8.out.own q _ l0 HV0.out HL0.out).lit hne
                    cases hv
                    have cx : wr.cell? ⟨g, k, none⟩ = some (.int .i64 x) := by
                      have h := hcell k x hx 0 _ rfl
                      have e : k * i64E.n + 0 = k := by show k * 1 + 0 = k; omega
                      rw [e] at h
                      exact h
                    have cs := S_at HI.out.lenS HP.out (Nat.lt_trans HQ.out (by decide)) K8.out.se
                    obtain ⟨k1, hk1⟩ : ∃ k1 : Int, k1 = ((k + 1 : Nat) : Int) := ⟨_, rfl⟩
                    have hwk : wrap64 ((k : Int) + 1) = k1 := by unfold wrap64; have := HN0.out; omega
                    have HK1 := Hd.mk hk1
                    have HKL := Hd.mk hkl
                    have HX := Hd.mk hx
                    clear hcell hne hx hkl hg
                    by_cases hxs : x ≤ st
                    · have e1 : decide (x ≤ st) = true := decide_eq_true hxs
                      have e2 : decide (sN S p q < k1) = false := by
                        rw [hk1]
                        exact known_dec (HKn.out p q k x HP.out HQ.out (by rw [getD_some HL0.out]; exact HX.out) hxs)
                      generalize sN S p q = y at *
                      clear hk1
                      go_wp2_with fail
                      go_roundg (l0.length - k - 1)
                      case measure => have := HKk.out; have := HKL.out; omega
                      case rel => exact ⟨k + 1, by have := HKL.out; omega, by first | (rw [← HK1.out]; done) | (rw [← HK1.out, hwk]; done) | (rw [HK1.out]; congr 1; unfold wrap64; have := HN0.out; have := HKL.out; omega), ⟨by have := HKk.out; have := HKL.out; omega⟩, K8⟩
                    · have e1 : decide (x ≤ st) = false := decide_eq_false hxs
                      generalize sN S p q = y at *
                      clear hk1
                      go_wp2_with fail
                      go_roundg (l0.length - k - 1)
                      case measure => have := HKk.out; have := HKL.out; omega
                      case rel => exact ⟨k + 1, by have := HKL.out; omega, by first | (rw [← HK1.out]; done) | (rw [← HK1.out, hwk]; done) | (rw [HK1.out]; congr 1; unfold wrap64; have := HN0.out; have := HKL.out; omega), ⟨by have := HKk.out; have := HKL.out; omega⟩, K8⟩
                  · obtain rfl : k = l0.length := by omega
                    have f4 : ¬ (l0.length : Int) < (l0.length : Int) := by omega
                    go_wp2_with fail
                    go_roundg (4 - q - 1)
                    case measure => have := HKq.out; have := HQ.out; omega
                    case rel => exact ⟨q + 1, by have := HQ.out; omega, by first | rfl | congr 1, ⟨by have := HKq.out; have := HQ.out; omega⟩, K8⟩
              · obtain rfl : q = 4 := by omega
                go_wp2_with fail
                go_roundg (4 - p - 1)
                case measure => have := HKp.out; have := HP.out; omega
                case rel => exact ⟨p + 1, by have := HP.out; omega, by first | rfl | congr 1, ⟨by have := HKp.out; have := HP.out; omega⟩, K7⟩
          · obtain rfl : p = 4 := by omega
            go_wp2_with fail
            go_roundg (199 - i)
            case measure => have := HK.out; omega
            case rel => exact ⟨i + 1, L, S, T, I, vs, by omega, by omega, by first | rfl | congr 1, ⟨by have := HK.out; omega⟩, K6, HI⟩

      · have q0 : ((kd : Int) == 0) = false := by rw [beq_eq_false_iff_ne]; omega
        by_cases hk1 : kd = 1
        · have q1 : ((kd : Int) == 1) = true := by rw [beq_iff_eq]; omega
          clear hk0 hk1
          go_upto_region 23 with (fail)
          clear d0 q0 q1
          have LR := Hd.mk (sRow_len lenS.out HR.out)
          have LO := Hd.mk (sRow_len lenS.out HO.out)
          have HJ := Hd.mk (vec_Join (sRow S r) (sRow S o) LR.out LO.out)
          have LJ : Hd ((joinL (sRow S r) (sRow S o)).length = 8) := ⟨by unfold joinL bothL; rw [List.length_zipWith, LR.out, LO.out]; rfl⟩
          have HI2 := Hd.mk (HI.out.join HR.out HO.out)
          generalize joinL (sRow S r) (sRow S o) = J at *
          refine start_ (n := 10) (S := fun W_ => Stb w bm bs bt bi L S T I vs W_) (ds := [9]) #[false, false, false, false, false, false, false, false, false, false] (by kernel_rfl) rfl rfl (KS.out.drew) (fun hHeld => ?_)
          refine pure_ (i := 0) (N := some 92) (v := ?_) (a' := ?_) #[true, false, false, false, false, false, false, false, false, false] rfl rfl (by kernel_rfl) (fun _ _ _ h => h) (Or.inl ⟨by rfl, ?_⟩) ?_ ?_
          rotate_left
          · intro w_
            go_simp
            try with_reducible rfl
          rotate_left
          · simp only [Act.put, List.setIfInBounds_toArray, List.set_cons_zero, List.set_cons_succ]
            rfl
          refine pure_ (i := 1) (N := some 93) (v := ?_) (a' := ?_) #[true, true, false, false, false, false, false, false, false, false] rfl rfl (by kernel_rfl) (fun _ _ _ h => h) (Or.inl ⟨by rfl, ?_⟩) ?_ ?_
          rotate_left
          · intro w_
            go_simp
            try with_reducible rfl
          rotate_left
          · simp only [Act.put, List.setIfInBounds_toArray, List.set_cons_zero, List.set_cons_succ]
            rfl
          refine pure_ (i := 2) (N := some 94) (v := ?_) (a' := ?_) #[true, true, true, false, false, false, false, false, false, false] rfl rfl (by kernel_rfl) (fun _ _ _ h => h) (Or.inl ⟨by rfl, ?_⟩) ?_ ?_
          rotate_left
          · intro w_
            go_simp
            try with_reducible rfl
          rotate_left
          · simp only [Act.put, List.setIfInBounds_toArray, List.set_cons_zero, List.set_cons_succ]
            rfl
          refine take_ (i := 3) (N := some 95) (v := .agg (vec (sRow S r))) (a' := ?_) #[true, true, true, true, false, false, false, false, false, false] rfl rfl (by kernel_rfl) (fun _ _ _ h => h) (Or.inl ⟨by rfl, fun w' h => run_load_s _ rfl bs r rfl lenS.out HR.out h.se⟩) hHeld ?_ ?_
          rotate_left
          · simp only [Act.put, List.setIfInBounds_toArray, List.set_cons_zero, List.set_cons_succ]
            rfl
          refine pure_ (i := 4) (N := some 96) (v := ?_) (a' := ?_) #[true, true, true, true, true, false, false, false, false, false] rfl rfl (by kernel_rfl) (fun _ _ _ h => h) (Or.inl ⟨by rfl, ?_⟩) ?_ ?_
          rotate_left
          · intro w_
            go_simp
            try with_reducible rfl
          rotate_left
          · simp only [Act.put, List.setIfInBounds_toArray, List.set_cons_zero, List.set_cons_succ]
            rfl
          refine pure_ (i := 5) (N := some 97) (v := ?_) (a' := ?_) #[true, true, true, true, true, true, false, false, false, false] rfl rfl (by kernel_rfl) (fun _ _ _ h => h) (Or.inl ⟨by rfl, ?_⟩) ?_ ?_
          rotate_left
          · intro w_
            go_simp
            try with_reducible rfl
          rotate_left
          · simp only [Act.put, List.setIfInBounds_toArray, List.set_cons_zero, List.set_cons_succ]
            rfl
          refine take_ (i := 6) (N := some 98) (v := .agg (vec (sRow S o))) (a' := ?_) #[true, true, true, true, true, true, true, false, false, false] rfl rfl (by kernel_rfl) (fun _ _ _ h => h) (Or.inl ⟨by rfl, fun w' h => run_load_s _ rfl bs o rfl lenS.out HO.out h.se⟩) hHeld ?_ ?_
          rotate_left
          · simp only [Act.put, List.setIfInBounds_toArray, List.set_cons_zero, List.set_cons_succ]
            rfl
          refine one_ (i := 7) (N := some 99) #[true, true, true, true, true, true, true, true, false, false] rfl rfl (by kernel_rfl) (by decide) (fun K hK => ?_)
          refine goes_ Try.func11 (by kernel_rfl) rfl #[.agg (vec (sRow S r)), .agg (vec (sRow S o))] (by rfl) rfl rfl (by (try simp only [List.map_toArray, List.map_cons, List.map_nil]); first | done | rfl) ?_
          (with_reducible refine (HJ.out _).mono ?_)
          rintro e wr2 ⟨rfl, hr2⟩
          refine ⟨_, rfl, ?_⟩
          refine hK.out _ _ (hHeld.call hr2) (fun hHeld => ?_)
          clear hK K
          refine norm_ (a' := ?_) ?_ ?_
          rotate_left
          · show Act.put _ (some 99) _ = _
            simp only [Act.put, List.setIfInBounds_toArray, List.set_cons_zero, List.set_cons_succ]
            rfl
          refine pure_ (i := 8) (N := some 100) (v := ?_) (a' := ?_) #[true, true, true, true, true, true, true, true, true, false] rfl rfl (by kernel_rfl) (fun _ _ _ h => h) (Or.inl ⟨by rfl, ?_⟩) ?_ ?_
          rotate_left
          · intro w_
            go_simp
            try with_reducible rfl
          rotate_left
          · simp only [Act.put, List.setIfInBounds_toArray, List.set_cons_zero, List.set_cons_succ]
            rfl
          refine last_ (i := 9) (N := none) #[true, true, true, true, true, true, true, true, true, true] rfl rfl (by kernel_rfl) (by decide) (fun K hK => ?_)
          refine skip_ (by rfl) rfl (run_store_vec 27 _ _ rfl bs (r * 8) J rfl rfl S 28 hHeld.se (by rw [LJ.out]; exact size_eight) (by rw [LJ.out, lenS.out]; have := HR.out; omega)) ?_
          refine hK.out _ _ ?_
          clear hK K
          refine done_ (by kernel_rfl) ?_
          have K2 := Hd.mk (hHeld.layS (r * 8) J (by rw [LJ.out, lenS.out]; have := HR.out; omega))
          clear hHeld KS HJ LJ LR LO
          go_upto_region 24 with (fail)
          refine world_gen _ K2.out (fun W2 hK => ?_)
          have K2 := Hd.mk hK
          clear hK
          have HTR : Hd (∀ W', Stb w bm bs bt bi L (layL S (r * 8) J) T I vs W' → W'.cell? ⟨bt, r, none⟩ = some (.int .i64 (T.getD r 0))) := ⟨fun W' h => T_at lenT.out HR.out h.ti⟩
          have HTO : Hd (∀ W', Stb w bm bs bt bi L (layL S (r * 8) J) T I vs W' → W'.cell? ⟨bt, o, none⟩ = some (.int .i64 (T.getD o 0))) := ⟨fun W' h => T_at lenT.out HO.out h.ti⟩
          generalize T.getD r 0 = tr at *
          generalize T.getD o 0 = tO at *
          refine start_ (n := 10) (S := fun W_ => Stb w bm bs bt bi L (layL S (r * 8) J) T I vs W_) (ds := [9]) #[false, false, false, false, false, false, false, false, false, false] (by kernel_rfl) rfl rfl (K2.out.drew) (fun hHeld => ?_)
          refine pure_ (i := 0) (N := some 101) (v := ?_) (a' := ?_) #[true, false, false, false, false, false, false, false, false, false] rfl rfl (by kernel_rfl) (fun _ _ _ h => h) (Or.inl ⟨by rfl, ?_⟩) ?_ ?_
          rotate_left
          · intro w_
            go_simp
            try with_reducible rfl
          rotate_left
          · simp only [Act.put, List.setIfInBounds_toArray, List.set_cons_zero, List.set_cons_succ]
            rfl
          refine pure_ (i := 1) (N := some 102) (v := ?_) (a' := ?_) #[true, true, false, false, false, false, false, false, false, false] rfl rfl (by kernel_rfl) (fun _ _ _ h => h) (Or.inl ⟨by rfl, ?_⟩) ?_ ?_
          rotate_left
          · intro w_
            go_simp
            try with_reducible rfl
          rotate_left
          · simp only [Act.put, List.setIfInBounds_toArray, List.set_cons_zero, List.set_cons_succ]
            rfl
          refine pure_ (i := 2) (N := some 103) (v := ?_) (a' := ?_) #[true, true, true, false, false, false, false, false, false, false] rfl rfl (by kernel_rfl) (fun _ _ _ h => h) (Or.inl ⟨by rfl, ?_⟩) ?_ ?_
          rotate_left
          · intro w_
            go_simp
            try with_reducible rfl
          rotate_left
          · simp only [Act.put, List.setIfInBounds_toArray, List.set_cons_zero, List.set_cons_succ]
            rfl
          refine take_ (i := 3) (N := some 104) (v := .int .i64 tr) (a' := ?_) #[true, true, true, true, false, false, false, false, false, false] rfl rfl (by kernel_rfl) (fun _ _ _ h => h) (Or.inl ⟨by rfl, fun w' h => by have c := HTR.out _ h; go_simp⟩) hHeld ?_ ?_
          rotate_left
          · simp only [Act.put, List.setIfInBounds_toArray, List.set_cons_zero, List.set_cons_succ]
            rfl
          refine pure_ (i := 4) (N := some 105) (v := ?_) (a' := ?_) #[true, true, true, true, true, false, false, false, false, false] rfl rfl (by kernel_rfl) (fun _ _ _ h => h) (Or.inl ⟨by rfl, ?_⟩) ?_ ?_
          rotate_left
          · intro w_
            go_simp
            try with_reducible rfl
          rotate_left
          · simp only [Act.put, List.setIfInBounds_toArray, List.set_cons_zero, List.set_cons_succ]
            rfl
          refine pure_ (i := 5) (N := some 106) (v := ?_) (a' := ?_) #[true, true, true, true, true, true, false, false, false, false] rfl rfl (by kernel_rfl) (fun _ _ _ h => h) (Or.inl ⟨by rfl, ?_⟩) ?_ ?_
          rotate_left
          · intro w_
            go_simp
            try with_reducible rfl
          rotate_left
          · simp only [Act.put, List.setIfInBounds_toArray, List.set_cons_zero, List.set_cons_succ]
            rfl
          refine take_ (i := 6) (N := some 107) (v := .int .i64 tO) (a' := ?_) #[true, true, true, true, true, true, true, false, false, false] rfl rfl (by kernel_rfl) (fun _ _ _ h => h) (Or.inl ⟨by rfl, fun w' h => by have c := HTO.out _ h; go_simp⟩) hHeld ?_ ?_
          rotate_left
          · simp only [Act.put, List.setIfInBounds_toArray, List.set_cons_zero, List.set_cons_succ]
            rfl
          refine take_ (i := 7) (N := some 108) (v := .int .i64 (mx tr tO)) (a' := ?_) #[true, true, true, true, true, true, true, true, false, false] rfl rfl (by kernel_rfl) (fun _ _ _ h => h) (Or.inl ⟨by rfl, fun w' h => by unfold mx; go_simp⟩) hHeld ?_ ?_
          rotate_left
          · simp only [Act.put, List.setIfInBounds_toArray, List.set_cons_zero, List.set_cons_succ]
            rfl
          refine pure_ (i := 8) (N := some 109) (v := ?_) (a' := ?_) #[true, true, true, true, true, true, true, true, true, false] rfl rfl (by kernel_rfl) (fun _ _ _ h => h) (Or.inl ⟨by rfl, ?_⟩) ?_ ?_
          rotate_left
          · intro w_
            go_simp
            try with_reducible rfl
          rotate_left
          · simp only [Act.put, List.setIfInBounds_toArray, List.set_cons_zero, List.set_cons_succ]
            rfl
          have cb := HTR.out _ hHeld
          have fb := frozen_of_row W2.drew bt r _ _ hHeld.ti
          refine last_ (i := 9) (N := none) #[true, true, true, true, true, true, true, true, true, true] rfl rfl (by kernel_rfl) (by decide) (fun K hK => ?_)
          refine skip_ (by rfl) rfl (show (execOp _ _).run Try.prog _ = .ok .skip (W2.drew.setCell ⟨bt, r, none⟩ (.int .i64 (mx tr tO))) from (by go_simp)) ?_
          refine hK.out _ _ ?_
          clear hK K
          refine done_ (by kernel_rfl) ?_
          clear cb fb
          have K4 := Hd.mk (hHeld.setT r (mx tr tO))
          clear hHeld K2 HTR HTO
          generalize W2.drew.setCell ⟨bt, r, none⟩ (.int .i64 (mx tr tO)) = W4 at *
          have HI4 : Hd (StInv (i + 1) L (layL S (r * 8) J) (T.set r (mx tr tO)) I) := ⟨by rw [Nat.mul_comm r 8]; exact HI2.out.more (by omega)⟩
          clear HI2 HI lenS lenT
          go_upto_region 25 with (fail)
          clear HR HO r8 r4 o4
          refine world_gen (fun W_ => ∃ L S T I vs, Stb w bm bs bt bi L S T I vs W_ ∧ StInv (i + 1) L S T I) ⟨_, _, _, _, _, K4.out, HI4.out⟩ (fun W9 hK => ?_)
          clear K4 HI4
          obtain ⟨L, S, T, I, vs, k4, hi4⟩ := hK
          have KS := Hd.mk k4
          have HI := Hd.mk hi4
          clear k4 hi4
          have HSt := Hd.mk (fun (W' : World) (h : MatIs bm 4 L W') => mat_Stable (n := 4) h HI.out.lenL (by decide) (by decide))
          have HKn := Hd.mk (fun (a b k : Nat) (x : Int) ha hb hx hs => HI.out.known (a := a) (b := b) (k := k) (x := x) ha hb hx hs)
          generalize stabM 4 L = st at HSt HKn
          go_wp2_with fail
          refine (HSt.out _ KS.out.mat).mono ?_; rintro e w5 ⟨rfl, hb⟩
          have K5 := Hd.mk (KS.out.call hb)
          clear hb KS HSt
          go_wp2_with fail
          go_loopg [12] 4 (fun kq v12 wx => ∃ p : Nat, p ≤ 4 ∧ v12 = .int .i64 (p : Int) ∧ Hd (kq + p = 4) ∧ Hd (Stb w bm bs bt bi L S T I vs wx))
          case atStart => exact ⟨0, by omega, rfl, ⟨rfl⟩, K5⟩
          case round =>
            clear K5
            obtain ⟨p, hp, rfl, HKp, K6⟩ := hrel
            by_cases hp4 : p < 4
            · have f1 : (p : Int) < 4 := by omega
              have hwp : wrap64 ((p : Int) + 1) = ((p + 1 : Nat) : Int) := by unfold wrap64; omega
              have HP := Hd.mk hp4
              clear hp4
              go_wp2_with fail
              go_loopg [13] 4 (fun kq v13 wx => ∃ q : Nat, q ≤ 4 ∧ v13 = .int .i64 (q : Int) ∧ Hd (kq + q = 4) ∧ Hd (Stb w bm bs bt bi L S T I vs wx))
              case atStart => exact ⟨0, by omega, rfl, ⟨rfl⟩, K6⟩
              case round =>
                clear K6
                obtain ⟨q, hq, rfl, HKq, K7⟩ := hrel
                by_cases hq4 : q < 4
                · have f2 : (q : Int) < 4 := by omega
                  have f3 : (q : Int) < 8 := by omega
                  have hwq : wrap64 ((q : Int) + 1) = ((q + 1 : Nat) : Int) := by unfold wrap64; omega
                  have HQ := Hd.mk hq4
                  obtain ⟨l0, hl0⟩ : ∃ l0, I[q]? = some l0 := ⟨_, List.getElem?_eq_getElem (by rw [K7.out.lenI]; exact HQ.out)⟩
                  obtain ⟨v0, hv0⟩ : ∃ v0, vs[q]? = some v0 := ⟨_, List.getElem?_eq_getElem (by rw [K7.out.lenV]; exact HQ.out)⟩
                  obtain ⟨A0, cp0, rfl⟩ := (K7.out.own q v0 l0 hv0 hl0).slice
                  have HV0 := Hd.mk hv0
                  have HL0 := Hd.mk hl0
                  have HN0 : Hd (l0.length ≤ 200) := ⟨by
                    have h1 := HI.out.own q HQ.out
                    have h2 := HI.out.bnd q q HQ.out (Nat.lt_trans HQ.out (by decide))
                    rw [getD_some hl0] at h1
                    omega⟩
                  clear hq4 hl0 hv0
                  go_wp2_with fail
                  go_loopg [14] l0.length (fun kq v14 wx => ∃ k : Nat, k ≤ l0.length ∧ v14 = .int .i64 (k : Int) ∧ Hd (kq + k = l0.length) ∧ Hd (Stb w bm bs bt bi L S T I vs wx))
                  case atStart => exact ⟨0, by omega, rfl, ⟨rfl⟩, K7⟩
                  case round =>
                    clear K7
                    obtain ⟨k, hk, rfl, HKk, K8⟩ := hrel
                    have cb := V_at HV0.out K8.out.is
                    by_cases hkl : k < l0.length
                    · have f4 : (k : Int) < (l0.length : Int) := by omega
                      obtain ⟨x, hx⟩ : ∃ x, l0[k]? = some x := ⟨_, List.getElem?_eq_getElem hkl⟩
                      have hne : l0 ≠ [] := by rintro rfl; simp at hkl
                      obtain ⟨g, cp', hv, hg, hcell⟩ := (K8.out.own q _ l0 HV0.out HL0.out).lit hne
                      cases hv
                      have cx : wr.cell? ⟨g, k, none⟩ = some (.int .i64 x) := by
                        have h := hcell k x hx 0 _ rfl
                        have e : k * i64E.n + 0 = k := by show k * 1 + 0 = k; omega
                        rw [e] at h
                        exact h
                      have cs := S_at HI.out.lenS HP.out (Nat.lt_trans HQ.out (by decide)) K8.out.se
                      obtain ⟨k1, hk1⟩ : ∃ k1 : Int, k1 = ((k + 1 : Nat) : Int) := ⟨_, rfl⟩
                      have hwk : wrap64 ((k : Int) + 1) = k1 := by unfold wrap64; have := HN0.out; omega
                      have HK1 := Hd.mk hk1
                      have HKL := Hd.mk hkl
                      have HX := Hd.mk hx
                      clear hcell hne hx hkl hg
                      by_cases hxs : x ≤ st
                      · have e1 : decide (x ≤ st) = true := decide_eq_true hxs
                        have e2 : decide (sN S p q < k1) = false := by
                          rw [hk1]
                          exact known_dec (HKn.out p q k x HP.out HQ.out (by rw [getD_some HL0.out]; exact HX.out) hxs)
                        generalize sN S p q = y at *
                        clear hk1
                        go_wp2_with fail
                        go_roundg (l0.length - k - 1)
                        case measure => have := HKk.out; have := HKL.out; omega
                        case rel => exact ⟨k + 1, by have := HKL.out; omega, by first | (rw [← HK1.out]; done) | (rw [← HK1.out, hwk]; done) | (rw [HK1.out]; congr 1; unfold wrap64; have := HN0.out; have := HKL.out; omega), ⟨by have := HKk.out; have := HKL.out; omega⟩, K8⟩
                      · have e1 : decide (x ≤ st) = false := decide_eq_false hxs
                        generalize sN S p q = y at *
                        clear hk1
                        go_wp2_with fail
                        go_roundg (l0.length - k - 1)
                        case measure => have := HKk.out; have := HKL.out; omega
                        case rel => exact ⟨k + 1, by have := HKL.out; omega, by first | (rw [← HK1.out]; done) | (rw [← HK1.out, hwk]; done) | (rw [HK1.out]; congr 1; unfold wrap64; have := HN0.out; have := HKL.out; omega), ⟨by have := HKk.out; have := HKL.out; omega⟩, K8⟩
                    · obtain rfl : k = l0.length := by omega
                      have f4 : ¬ (l0.length : Int) < (l0.length : Int) := by omega
                      go_wp2_with fail
                      go_roundg (4 - q - 1)
                      case measure => have := HKq.out; have := HQ.out; omega
                      case rel => exact ⟨q + 1, by have := HQ.out; omega, by first | rfl | congr 1, ⟨by have := HKq.out; have := HQ.out; omega⟩, K8⟩
                · obtain rfl : q = 4 := by omega
                  go_wp2_with fail
                  go_roundg (4 - p - 1)
                  case measure => have := HKp.out; have := HP.out; omega
                  case rel => exact ⟨p + 1, by have := HP.out; omega, by first | rfl | congr 1, ⟨by have := HKp.out; have := HP.out; omega⟩, K7⟩
            · obtain rfl : p = 4 := by omega
              go_wp2_with fail
              go_roundg (199 - i)
              case measure => have := HK.out; omega
              case rel => exact ⟨i + 1, L, S, T, I, vs, by omega, by omega, by first | rfl | congr 1, ⟨by have := HK.out; omega⟩, K6, HI⟩

        · have q1 : ((kd : Int) == 1) = false := by rw [beq_eq_false_iff_ne]; omega
          clear hk0 hk1
          go_upto_region 14 with (fail)
          clear d0 q0 q1
          have LR := Hd.mk (sRow_len lenS.out HR.out)
          have LQ : Hd ((sRow S r ++ [T.getD r 0]).length = 9) := ⟨by rw [List.length_append, LR.out]; rfl⟩
          have HTL := Hd.mk (fun (W' : World) (h : MatIs bm 4 L W') => mat_TellG h HI.out.lenL (by decide) (r : Int) LQ.out)
          rw [HI.out.mayTell (by omega) HR.out] at HTL
          have HI2 := Hd.mk (HI.out.tellsOk (by omega) HR.out)
          have HTR : Hd (∀ W', Stb w bm bs bt bi L S T I vs W' → W'.cell? ⟨bt, r, none⟩ = some (.int .i64 (T.getD r 0))) := ⟨fun W' h => T_at lenT.out HR.out h.ti⟩
          generalize told 4 L (r : Int) (sRow S r ++ [T.getD r 0]) = L2 at *
          generalize T.getD r 0 = tr at *
          refine start_ (n := 11) (S := fun W_ => Stb w bm bs bt bi L S T I vs W_) (ds := [9]) #[false, false, false, false, false, false, false, false, false, false, false] (by kernel_rfl) rfl rfl (KS.out.drew) (fun hHeld => ?_)
          refine pure_ (i := 0) (N := some 48) (v := ?_) (a' := ?_) #[true, false, false, false, false, false, false, false, false, false, false] rfl rfl (by kernel_rfl) (fun _ _ _ h => h) (Or.inl ⟨by rfl, ?_⟩) ?_ ?_
          rotate_left
          · intro w_
            go_simp
            try with_reducible rfl
          rotate_left
          · simp only [Act.put, List.setIfInBounds_toArray, List.set_cons_zero, List.set_cons_succ]
            rfl
          refine pure_ (i := 1) (N := some 49) (v := ?_) (a' := ?_) #[true, true, false, false, false, false, false, false, false, false, false] rfl rfl (by kernel_rfl) (fun _ _ _ h => h) (Or.inl ⟨by rfl, ?_⟩) ?_ ?_
          rotate_left
          · intro w_
            go_simp
            try with_reducible rfl
          rotate_left
          · simp only [Act.put, List.setIfInBounds_toArray, List.set_cons_zero, List.set_cons_succ]
            rfl
          refine pure_ (i := 2) (N := some 50) (v := ?_) (a' := ?_) #[true, true, true, false, false, false, false, false, false, false, false] rfl rfl (by kernel_rfl) (fun _ _ _ h => h) (Or.inl ⟨by rfl, ?_⟩) ?_ ?_
          rotate_left
          · intro w_
            go_simp
            try with_reducible rfl
          rotate_left
          · simp only [Act.put, List.setIfInBounds_toArray, List.set_cons_zero, List.set_cons_succ]
            rfl
          refine pure_ (i := 3) (N := some 51) (v := ?_) (a' := ?_) #[true, true, true, true, false, false, false, false, false, false, false] rfl rfl (by kernel_rfl) (fun _ _ _ h => h) (Or.inl ⟨by rfl, ?_⟩) ?_ ?_
          rotate_left
          · intro w_
            go_simp
            try with_reducible rfl
          rotate_left
          · simp only [Act.put, List.setIfInBounds_toArray, List.set_cons_zero, List.set_cons_succ]
            rfl
          refine take_ (i := 4) (N := some 52) (v := .agg (vec (sRow S r))) (a' := ?_) #[true, true, true, true, true, false, false, false, false, false, false] rfl rfl (by kernel_rfl) (fun _ _ _ h => h) (Or.inl ⟨by rfl, fun w' h => run_load_s _ rfl bs r rfl lenS.out HR.out h.se⟩) hHeld ?_ ?_
          rotate_left
          · simp only [Act.put, List.setIfInBounds_toArray, List.set_cons_zero, List.set_cons_succ]
            rfl
          refine pure_ (i := 5) (N := some 53) (v := ?_) (a' := ?_) #[true, true, true, true, true, true, false, false, false, false, false] rfl rfl (by kernel_rfl) (fun _ _ _ h => h) (Or.inl ⟨by rfl, ?_⟩) ?_ ?_
          rotate_left
          · intro w_
            go_simp
            try with_reducible rfl
          rotate_left
          · simp only [Act.put, List.setIfInBounds_toArray, List.set_cons_zero, List.set_cons_succ]
            rfl
          refine pure_ (i := 6) (N := some 54) (v := ?_) (a' := ?_) #[true, true, true, true, true, true, true, false, false, false, false] rfl rfl (by kernel_rfl) (fun _ _ _ h => h) (Or.inl ⟨by rfl, ?_⟩) ?_ ?_
          rotate_left
          · intro w_
            go_simp
            try with_reducible rfl
          rotate_left
          · simp only [Act.put, List.setIfInBounds_toArray, List.set_cons_zero, List.set_cons_succ]
            rfl
          refine take_ (i := 7) (N := some 55) (v := .int .i64 tr) (a' := ?_) #[true, true, true, true, true, true, true, true, false, false, false] rfl rfl (by kernel_rfl) (fun _ _ _ h => h) (Or.inl ⟨by rfl, fun w' h => by have c := HTR.out _ h; go_simp⟩) hHeld ?_ ?_
          rotate_left
          · simp only [Act.put, List.setIfInBounds_toArray, List.set_cons_zero, List.set_cons_succ]
            rfl
          refine take_ (i := 8) (N := some 56) (v := .agg (vec (sRow S r ++ [tr]))) (a' := ?_) #[true, true, true, true, true, true, true, true, true, false, false] rfl rfl (by kernel_rfl) (fun _ _ _ h => h) (Or.inl ⟨by rfl, fun w' h => run_buildrow _ _ rfl rfl rfl LR.out⟩) hHeld ?_ ?_
          rotate_left
          · simp only [Act.put, List.setIfInBounds_toArray, List.set_cons_zero, List.set_cons_succ]
            rfl
          refine last_ (i := 9) (N := some 57) #[true, true, true, true, true, true, true, true, true, true, false] rfl rfl (by kernel_rfl) (by decide) (fun K hK => ?_)
          refine goes_ Try.func12 (by kernel_rfl) rfl #[.pointer (some ⟨bm, 0, none⟩), .int .i64 (r : Int), .agg (vec (sRow S r ++ [tr]))] (by rfl) rfl rfl (by (try simp only [List.map_toArray, List.map_cons, List.map_nil]); first | done | rfl) ?_
          (with_reducible refine (HTL.out _ hHeld.mat).mono ?_)
          rintro e wr3 ⟨rfl, hbut, hmat⟩
          refine ⟨_, rfl, ?_⟩
          refine hK.out _ _ ?_
          clear hK K
          refine norm_ (a' := ?_) ?_ ?_
          rotate_left
          · show Act.put _ (some 57) _ = _
            simp only [Act.put, List.setIfInBounds_toArray, List.set_cons_zero, List.set_cons_succ]
            rfl
          refine pure_ (i := 10) (N := some 58) (v := ?_) (a' := ?_) #[true, true, true, true, true, true, true, true, true, true, true] rfl rfl (by kernel_rfl) (fun _ _ _ h => h) (Or.inl ⟨by rfl, ?_⟩) ?_ ?_
          rotate_left
          · intro w_
            go_simp
            try with_reducible rfl
          rotate_left
          · simp only [Act.put, List.setIfInBounds_toArray, List.set_cons_zero, List.set_cons_succ]
            rfl
          refine done_ (by kernel_rfl) ?_
          have K4 := Hd.mk (hHeld.tell hbut hmat)
          have HI4 := Hd.mk (HI2.out.more (Nat.le_succ i))
          clear hHeld hbut hmat KS HTL HTR LR LQ HI2 HI lenS lenT
          go_upto_region 25 with (fail)
          clear HR HO r8 r4 o4
          refine world_gen (fun W_ => ∃ L S T I vs, Stb w bm bs bt bi L S T I vs W_ ∧ StInv (i + 1) L S T I) ⟨_, _, _, _, _, K4.out, HI4.out⟩ (fun W9 hK => ?_)
          clear K4 HI4
          obtain ⟨L, S, T, I, vs, k4, hi4⟩ := hK
          have KS := Hd.mk k4
          have HI := Hd.mk hi4
          clear k4 hi4
          have HSt := Hd.mk (fun (W' : World) (h : MatIs bm 4 L W') => mat_Stable (n := 4) h HI.out.lenL (by decide) (by decide))
          have HKn := Hd.mk (fun (a b k : Nat) (x : Int) ha hb hx hs => HI.out.known (a := a) (b := b) (k := k) (x := x) ha hb hx hs)
          generalize stabM 4 L = st at HSt HKn
          go_wp2_with fail
          refine (HSt.out _ KS.out.mat).mono ?_; rintro e w5 ⟨rfl, hb⟩
          have K5 := Hd.mk (KS.out.call hb)
          clear hb KS HSt
          go_wp2_with fail
          go_loopg [12] 4 (fun kq v12 wx => ∃ p : Nat, p ≤ 4 ∧ v12 = .int .i64 (p : Int) ∧ Hd (kq + p = 4) ∧ Hd (Stb w bm bs bt bi L S T I vs wx))
          case atStart => exact ⟨0, by omega, rfl, ⟨rfl⟩, K5⟩
          case round =>
            clear K5
            obtain ⟨p, hp, rfl, HKp, K6⟩ := hrel
            by_cases hp4 : p < 4
            · have f1 : (p : Int) < 4 := by omega
              have hwp : wrap64 ((p : Int) + 1) = ((p + 1 : Nat) : Int) := by unfold wrap64; omega
              have HP := Hd.mk hp4
              clear hp4
              go_wp2_with fail
              go_loopg [13] 4 (fun kq v13 wx => ∃ q : Nat, q ≤ 4 ∧ v13 = .int .i64 (q : Int) ∧ Hd (kq + q = 4) ∧ Hd (Stb w bm bs bt bi L S T I vs wx))
              case atStart => exact ⟨0, by omega, rfl, ⟨rfl⟩, K6⟩
              case round =>
                clear K6
                obtain ⟨q, hq, rfl, HKq, K7⟩ := hrel
                by_cases hq4 : q < 4
                · have f2 : (q : Int) < 4 := by omega
                  have f3 : (q : Int) < 8 := by omega
                  have hwq : wrap64 ((q : Int) + 1) = ((q + 1 : Nat) : Int) := by unfold wrap64; omega
                  have HQ := Hd.mk hq4
                  obtain ⟨l0, hl0⟩ : ∃ l0, I[q]? = some l0 := ⟨_, List.getElem?_eq_getElem (by rw [K7.out.lenI]; exact HQ.out)⟩
                  obtain ⟨v0, hv0⟩ : ∃ v0, vs[q]? = some v0 := ⟨_, List.getElem?_eq_getElem (by rw [K7.out.lenV]; exact HQ.out)⟩
                  obtain ⟨A0, cp0, rfl⟩ := (K7.out.own q v0 l0 hv0 hl0).slice
                  have HV0 := Hd.mk hv0
                  have HL0 := Hd.mk hl0
                  have HN0 : Hd (l0.length ≤ 200) := ⟨by
                    have h1 := HI.out.own q HQ.out
                    have h2 := HI.out.bnd q q HQ.out (Nat.lt_trans HQ.out (by decide))
                    rw [getD_some hl0] at h1
                    omega⟩
                  clear hq4 hl0 hv0
                  go_wp2_with fail
                  go_loopg [14] l0.length (fun kq v14 wx => ∃ k : Nat, k ≤ l0.length ∧ v14 = .int .i64 (k : Int) ∧ Hd (kq + k = l0.length) ∧ Hd (Stb w bm bs bt bi L S T I vs wx))
                  case atStart => exact ⟨0, by omega, rfl, ⟨rfl⟩, K7⟩
                  case round =>
                    clear K7
                    obtain ⟨k, hk, rfl, HKk, K8⟩ := hrel
                    have cb := V_at HV0.out K8.out.is
                    by_cases hkl : k < l0.length
                    · have f4 : (k : Int) < (l0.length : Int) := by omega
                      obtain ⟨x, hx⟩ : ∃ x, l0[k]? = some x := ⟨_, List.getElem?_eq_getElem hkl⟩
                      have hne : l0 ≠ [] := by rintro rfl; simp at hkl
                      obtain ⟨g, cp', hv, hg, hcell⟩ := (K8.out.own q _ l0 HV0.out HL0.out).lit hne
                      cases hv
                      have cx : wr.cell? ⟨g, k, none⟩ = some (.int .i64 x) := by
                        have h := hcell k x hx 0 _ rfl
                        have e : k * i64E.n + 0 = k := by show k * 1 + 0 = k; omega
                        rw [e] at h
                        exact h
                      have cs := S_at HI.out.lenS HP.out (Nat.lt_trans HQ.out (by decide)) K8.out.se
                      obtain ⟨k1, hk1⟩ : ∃ k1 : Int, k1 = ((k + 1 : Nat) : Int) := ⟨_, rfl⟩
                      have hwk : wrap64 ((k : Int) + 1) = k1 := by unfold wrap64; have := HN0.out; omega
                      have HK1 := Hd.mk hk1
                      have HKL := Hd.mk hkl
                      have HX := Hd.mk hx
                      clear hcell hne hx hkl hg
                      by_cases hxs : x ≤ st
                      · have e1 : decide (x ≤ st) = true := decide_eq_true hxs
                        have e2 : decide (sN S p q < k1) = false := by
                          rw [hk1]
                          exact known_dec (HKn.out p q k x HP.out HQ.out (by rw [getD_some HL0.out]; exact HX.out) hxs)
                        generalize sN S p q = y at *
                        clear hk1
                        go_wp2_with fail
                        go_roundg (l0.length - k - 1)
                        case measure => have := HKk.out; have := HKL.out; omega
                        case rel => exact ⟨k + 1, by have := HKL.out; omega, by first | (rw [← HK1.out]; done) | (rw [← HK1.out, hwk]; done) | (rw [HK1.out]; congr 1; unfold wrap64; have := HN0.out; have := HKL.out; omega), ⟨by have := HKk.out; have := HKL.out; omega⟩, K8⟩
                      · have e1 : decide (x ≤ st) = false := decide_eq_false hxs
                        generalize sN S p q = y at *
                        clear hk1
                        go_wp2_with fail
                        go_roundg (l0.length - k - 1)
                        case measure => have := HKk.out; have := HKL.out; omega
                        case rel => exact ⟨k + 1, by have := HKL.out; omega, by first | (rw [← HK1.out]; done) | (rw [← HK1.out, hwk]; done) | (rw [HK1.out]; congr 1; unfold wrap64; have := HN0.out; have := HKL.out; omega), ⟨by have := HKk.out; have := HKL.out; omega⟩, K8⟩
                    · obtain rfl : k = l0.length := by omega
                      have f4 : ¬ (l0.length : Int) < (l0.length : Int) := by omega
                      go_wp2_with fail
                      go_roundg (4 - q - 1)
                      case measure => have := HKq.out; have := HQ.out; omega
                      case rel => exact ⟨q + 1, by have := HQ.out; omega, by first | rfl | congr 1, ⟨by have := HKq.out; have := HQ.out; omega⟩, K8⟩
                · obtain rfl : q = 4 := by omega
                  go_wp2_with fail
                  go_roundg (4 - p - 1)
                  case measure => have := HKp.out; have := HP.out; omega
                  case rel => exact ⟨p + 1, by have := HP.out; omega, by first | rfl | congr 1, ⟨by have := HKp.out; have := HP.out; omega⟩, K7⟩
            · obtain rfl : p = 4 := by omega
              go_wp2_with fail
              go_roundg (199 - i)
              case measure => have := HK.out; omega
              case rel => exact ⟨i + 1, L, S, T, I, vs, by omega, by omega, by first | rfl | congr 1, ⟨by have := HK.out; omega⟩, K6, HI⟩

    · have hend : ¬ (i < len ∧ i < 200) := hlt
      by_cases e1 : i < len
      · have e2 : i = 200 := by omega
        have f1 : (i : Int) < (len : Int) := by omega
        have f2 : ¬ (i : Int) < 200 := by omega
        go_wp2_with fail
        go_ret
        exact ⟨rfl, KS.out.bel⟩
      · have f1 : ¬ (i : Int) < (len : Int) := by omega
        go_wp2_with fail
        go_ret
        exact ⟨rfl, KS.out.bel⟩
end Go.Proofs.Ytcpgfllnaiabkaa.matrixStable
