/- The law MatrixPlays: the walk. -/
import Derived.Test.YtkjlakjihjfjdaaPlaysAll
import Derived.Test.YtkjlakjihjfjdaaTellOpen
import Derived.Test.YtkjlakjihjfjdaaRowSame
import Derived.Test.YtkjlakjihjfjdaaRowOpen
namespace Go.Proofs.Ytkjlakjihjfjdaa.matrixPlays
open Go.RowKit Go.Proofs.YtkjlakjihjfjdaaW.PrintWords Go.Proofs.YtkjlakjihjfjdaaW.PrintLast Go.Proofs.YtkjlakjihjfjdaaW.PrintMore
set_option linter.unusedVariables false
set_option linter.unusedSimpArgs false

theorem MH.alloc {w : World} {l : List (Nat × Obj)} {b : Nat} {n : Int} {L : List Int} {W : World} (h : MH w l b n L W) (o : Obj) : MH w ((W.heap.size, o) :: l) b n L (W.alloc o) := by
  have hb := (Array.getElem?_eq_some_iff.1 h.mat).1
  refine ⟨h.held.alloc o, (heap_alloc_old _ _ hb).trans h.mat, ?_, h.out⟩
  intro p hp
  rcases List.mem_cons.1 hp with rfl | hp
  · show W.heap.size ≠ b
    omega
  · exact h.ne p hp
theorem MH.made {w : World} {l : List (Nat × Obj)} {b : Nat} {n : Int} {L : List Int} {W : World} (h : MH w l b n L W) (old cs : Array Value) (t : TypeId) : MH w ((W.heap.size, .cells cs t (0, 0)) :: l) b n L ((W.alloc (.cells old t (0, 0))).setRow W.heap.size cs) := by
  have hb := (Array.getElem?_eq_some_iff.1 h.mat).1
  refine ⟨(h.held.fresh (.cells old t (0, 0))).set cs, (setRow_other _ _ _ _ (by omega)).trans ((heap_alloc_old _ _ hb).trans h.mat), ?_, h.out⟩
  intro p hp
  rcases List.mem_cons.1 hp with rfl | hp
  · show W.heap.size ≠ b
    omega
  · exact h.ne p hp
theorem rowAt_congr {n : Nat} {C L : List Int} (h : ∀ i, i < n → rowM C i = rowM L i) (rep : Int) : rowAt (n : Int) C rep = rowAt (n : Int) L rep := by
  unfold rowAt
  split
  · rename_i hi
    simp [inM] at hi
    exact h _ (by omega)
  · rfl
theorem rows_told {n : Nat} {C L r : List Int} (h : ∀ i, i < n → rowM C i = rowM L i) (hL : L.length = 72) (h8 : n ≤ 8) (hr : r.length = 9) (rep : Int) (C2 : List Int)
    (h2 : ∀ j, j < n → rowM C2 j = if takes n rep r = true ∧ (j : Int) = rep then joinL (rowM C j) r else rowM C j) : ∀ j, j < n → rowM C2 j = rowM (told n L rep r) j := by
  intro j hj
  rw [h2 j hj, rowM_told hL (by omega) hr, h j hj]

set_option maxHeartbeats 8000000 in
set_option maxRecDepth 100000 in
theorem law_off {v : Value} {A : Option Addr} {len cap : Nat} {l : List (Int × List Int)} {w : World} (n : Int) (hn : n < 1 ∨ 8 < n) (hv : AreTells w v A len cap l) (rep : Int) {r : List Int} (hr : r.length = 9) :
    Calls Try.prog 8 #[.int .i64 n, v, .int .i64 rep, .agg (vec r)] w fun e w' => e = .returned (.bool true) ∧ Below w.heap.size w w' := by
  have HS := Hd.mk mat_shown
  have HN := Hd.mk (mat_New_off n hn)
  have H0 := Hd.mk (Holds.start1 w (.cells (vec r) 55))
  obtain ⟨rfl, -⟩ := hv
  clear hr
  by_cases h1 : n < 1
  · clear hn
    have g0 : decide (n < 1) = true := decide_eq_true h1
    go_enter Try.func8, Try.ntmps8
    go_upto_region 1 with (fail)
    generalize w.alloc (.cells (vec r) 55) = W at *
    go_wp2_with fail
    refine (HS.out _).mono ?_; rintro e w1 ⟨rfl, h1⟩
    have H1 := Hd.mk (H0.out.call h1)
    clear h1 HS H0
    go_wp2_with fail
    refine (HN.out _).mono ?_; rintro e w2 ⟨rfl, h2⟩
    have H2 := Hd.mk (H1.out.call h2)
    clear h2 HN H1
    go_wp2_with fail
    go_ret
    exact ⟨rfl, H2.out.2⟩
  · have h2 : 8 < n := by omega
    clear hn
    have g0 : decide (n < 1) = false := decide_eq_false h1
    have g1 : decide (8 < n) = true := decide_eq_true h2
    go_enter Try.func8, Try.ntmps8
    go_upto_region 1 with (fail)
    generalize w.alloc (.cells (vec r) 55) = W at *
    go_wp2_with fail
    refine (HS.out _).mono ?_; rintro e w1 ⟨rfl, h1⟩
    have H1 := Hd.mk (H0.out.call h1)
    clear h1 HS H0
    go_wp2_with fail
    refine (HN.out _).mono ?_; rintro e w2 ⟨rfl, h2⟩
    have H2 := Hd.mk (H1.out.call h2)
    clear h2 HN H1
    go_wp2_with fail
    go_ret
    exact ⟨rfl, H2.out.2⟩

set_option maxHeartbeats 8000000 in
set_option maxRecDepth 100000 in
theorem law_on {v : Value} {A : Option Addr} {len cap : Nat} {l : List (Int × List Int)} {w : World} (n : Nat) (h1 : 1 ≤ n) (h8 : n ≤ 8) (hv : AreTells w v A len cap l) (rep : Int) {r : List Int} (hr : r.length = 9) :
    Calls Try.prog 8 #[.int .i64 (n : Int), v, .int .i64 rep, .agg (vec r)] w fun e w' => e = .returned (.bool true) ∧ Below w.heap.size w w' := by
  have HS := Hd.mk mat_shown
  have HN := Hd.mk (mat_New (n : Int) (by omega) (by omega))
  have H0 := Hd.mk (Holds.start1 w (.cells (vec r) 55))
  obtain ⟨rfl, hlc, hcm, hll, hln, hc⟩ := hv
  have HV := Hd.mk (⟨hlc, hcm, hll, hln, hc⟩ : _ ∧ _ ∧ _ ∧ _ ∧ _)
  have H8 := Hd.mk (⟨h1, h8⟩ : _ ∧ _)
  have HR := Hd.mk hr
  have n1 : ¬ (n : Int) < 1 := by omega
  have n8 : ¬ (8 : Int) < (n : Int) := by omega
  have d1 : decide ((n : Int) < 1) = false := decide_eq_false n1
  have d8 : decide ((8 : Int) < (n : Int)) = false := decide_eq_false n8
  clear hlc hcm hll hln hc h1 h8 hr
  go_enter Try.func8, Try.ntmps8
  go_upto_region 1 with (fail)
  generalize w.alloc (.cells (vec r) 55) = W at *
  go_wp2_with fail
  refine (HS.out _).mono ?_; rintro e w1 ⟨rfl, h1⟩
  have H1 := Hd.mk (H0.out.call h1)
  clear h1 HS H0
  go_wp2_with fail
  refine (HN.out _).mono ?_; rintro e w2 ⟨rfl, h2⟩
  have H2 := Hd.mk (MH.new H1.out h2)
  clear h2 HN H1
  generalize w1.heap.size = bm at H2 ⊢
  have e1 : decide (n < 1) = false := decide_eq_false (by have := H8.out.1; omega)
  have e8 : decide (8 < n) = false := decide_eq_false (by have := H8.out.2; omega)
  have f1 : ¬ n < 1 := by have := H8.out.1; omega
  have f8 : ¬ 8 < n := by have := H8.out.2; omega
  go_wp2_with (first | ((with_reducible refine gate_dst (N := 45) rfl ?_); refine wpList_make_rows rfl _ _ rfl n rfl rfl H8.out.2 ?_; have H3 := Hd.mk (MH.alloc H2.out (.cells (vec (List.replicate (n * 9) 0)) 55)); generalize w2.alloc (.cells (vec (List.replicate (n * 9) 0)) 55) = W3 at H3 ⊢; generalize w2.heap.size = bx at H3 ⊢))
  clear H2 d1 d8 e1 e8 n1 n8 f1 f8
  go_loopg [11, 12] 200 (fun kq v11 v12 wr => ∃ (i bx cx : Nat) (C L : List Int), i ≤ 200 ∧ i ≤ len ∧ v11 = .slice (some ⟨bx, 0, none⟩) n cx ∧ v12 = .int .i64 (i : Int) ∧ Hd (kq + i = 200) ∧ Hd (MH w [(bx, .cells (vec C) 55 (0, 0)), (w.heap.size, .cells (vec r) 55 (0, 0))] bm (n : Int) L wr) ∧ Hd (L.length = 72) ∧ Hd (9 * n ≤ C.length) ∧ Hd (n ≤ cx) ∧ Hd (∀ j, j < n → rowM C j = rowM L j))
  case atStart => exact ⟨0, bx, n, List.replicate (n * 9) 0, zero72, by omega, by omega, rfl, rfl, ⟨rfl⟩, H3, ⟨rfl⟩, ⟨by rw [List.length_replicate]; omega⟩, ⟨Nat.le_refl _⟩, ⟨fun j hj => by rw [rowM_none hj, rowM_zero j (by have := H8.out.2; omega)]⟩⟩
  case round =>
    clear H3
    obtain ⟨i, bx, cx, C, L, hi1, hi2, rfl, rfl, HK, HM, HL, HC, HCX, HQ⟩ := hrel
    by_cases hlt : i < len ∧ i < 200
    · obtain ⟨g1, g2⟩ := hlt
      have g1' : (i : Int) < (len : Int) := by omega
      have g2' : (i : Int) < 200 := by omega
      have hw1 : wrap64 ((i : Int) + 1) = ((i + 1 : Nat) : Int) := by unfold wrap64; omega
      obtain ⟨⟨rep1, r1⟩, hd⟩ : ∃ d, l[i]? = some d := ⟨_, List.getElem?_eq_getElem (by rw [HV.out.2.2.1]; exact g1)⟩
      obtain ⟨a, rfl, c0, cr⟩ := HV.out.2.2.2.2 i _ hd
      have hr9 : r1.length = 9 := HV.out.2.2.2.1 _ (List.mem_of_getElem? hd)
      have hblk := World.block_lt_of_cell? w _ c0
      have HCL := Hd.mk (⟨c0, cr, hblk⟩ : _ ∧ _ ∧ _)
      have hn8 : (n : Int) ≤ 8 := by have := H8.out.2; omega
      have HT := Hd.mk (fun (w' : World) (h : MatIs bm (n : Int) L w') => mat_TellG h HL.out hn8 rep1 hr9)
      have HL2 := Hd.mk (told_len (rep := rep1) HL.out hn8 hr9)
      have HQ2 := Hd.mk (fun C2 => rows_told HQ.out HL.out H8.out.2 hr9 rep1 C2)
      have HRT := Hd.mk (fun (w' : World) (h : w'.heap[bx]? = some (.cells (vec C) 55 (0, 0))) => ref_TellG (b := bx) (cap := cx) (⟨h, HC.out⟩ : SlIs bx n C w') HCX.out H8.out.2 rep1 hr9)
      have HMd := Hd.mk (row_made r1 hr9)
      have R9 := Hd.mk (show (Try.prog.info? 55).map (·.size) = some r1.length by rw [hr9]; exact size_rrow)
      clear c0 cr hblk hd hr9 HQ hn8
      generalize told (n : Int) L rep1 r1 = L2 at *
      generalize takes (n : Int) rep1 r1 = is at *
      have HSt := Hd.mk (fun (w' : World) (h : MatIs bm (n : Int) L2 w') => mat_Stable h HL2.out H8.out.1 H8.out.2)
      go_upto_region 9 with (fail)
      refine start_ (n := 14) (S := fun W_ => MH w [(bx, .cells (vec C) 55 (0, 0)), (w.heap.size, .cells (vec r) 55 (0, 0))] bm (n : Int) L W_) (ds := [12]) #[false, false, false, false, false, false, false, false, false, false, false, false, false, false] (by kernel_rfl) rfl rfl (HM.out.drew) (fun hHeld => ?_)
      refine pure_ (i := 0) (N := some 56) (v := ?_) (a' := ?_) #[true, false, false, false, false, false, false, false, false, false, false, false, false, false] rfl rfl (by kernel_rfl) (fun _ _ _ h => h) (Or.inl ⟨by rfl, ?_⟩) ?_ ?_
      rotate_left
      · intro w_
        go_simp
        try with_reducible rfl
      rotate_left
      · simp only [Act.put, List.setIfInBounds_toArray, List.set_cons_zero, List.set_cons_succ]
        rfl
      refine pure_ (i := 1) (N := some 57) (v := ?_) (a' := ?_) #[true, true, false, false, false, false, false, false, false, false, false, false, false, false] rfl rfl (by kernel_rfl) (fun _ _ _ h => h) (Or.inl ⟨by rfl, ?_⟩) ?_ ?_
      rotate_left
      · intro w_
        go_simp
        try with_reducible rfl
      rotate_left
      · simp only [Act.put, List.setIfInBounds_toArray, List.set_cons_zero, List.set_cons_succ]
        rfl
      refine pure_ (i := 2) (N := some 58) (v := ?_) (a' := ?_) #[true, true, true, false, false, false, false, false, false, false, false, false, false, false] rfl rfl (by kernel_rfl) (fun _ _ _ h => h) (Or.inl ⟨by rfl, ?_⟩) ?_ ?_
      rotate_left
      · intro w_
        go_simp
        try with_reducible rfl
      rotate_left
      · simp only [Act.put, List.setIfInBounds_toArray, List.set_cons_zero, List.set_cons_succ]
        rfl
      refine take_ (i := 3) (N := some 59) (v := .pointer (some (a.add (i * 10)))) (a' := ?_) #[true, true, true, true, false, false, false, false, false, false, false, false, false, false] rfl rfl (by kernel_rfl) (fun _ _ _ h => h) (Or.inl ⟨by rfl, fun w' h => by go_simp⟩) hHeld ?_ ?_
      rotate_left
      · simp only [Act.put, List.setIfInBounds_toArray, List.set_cons_zero, List.set_cons_succ]
        rfl
      refine pure_ (i := 4) (N := some 60) (v := ?_) (a' := ?_) #[true, true, true, true, true, false, false, false, false, false, false, false, false, false] rfl rfl (by kernel_rfl) (fun _ _ _ h => h) (Or.inl ⟨by rfl, ?_⟩) ?_ ?_
      rotate_left
      · intro w_
        go_simp
        try with_reducible rfl
      rotate_left
      · simp only [Act.put, List.setIfInBounds_toArray, List.set_cons_zero, List.set_cons_succ]
        rfl
      refine take_ (i := 5) (N := some 61) (v := .int .i64 rep1) (a' := ?_) #[true, true, true, true, true, true, false, false, false, false, false, false, false, false] rfl rfl (by kernel_rfl) (fun _ _ _ h => h) (Or.inl ⟨by rfl, fun w' h => by have hc : w'.cell? (a.add (i * 10)) = some (.int .i64 rep1) := (h.held.2.cell HCL.out.2.2).trans HCL.out.1; go_simp⟩) hHeld ?_ ?_
      rotate_left
      · simp only [Act.put, List.setIfInBounds_toArray, List.set_cons_zero, List.set_cons_succ]
        rfl
      refine pure_ (i := 6) (N := some 62) (v := ?_) (a' := ?_) #[true, true, true, true, true, true, true, false, false, false, false, false, false, false] rfl rfl (by kernel_rfl) (fun _ _ _ h => h) (Or.inl ⟨by rfl, ?_⟩) ?_ ?_
      rotate_left
      · intro w_
        go_simp
        try with_reducible rfl
      rotate_left
      · simp only [Act.put, List.setIfInBounds_toArray, List.set_cons_zero, List.set_cons_succ]
        rfl
      refine pure_ (i := 7) (N := some 63) (v := ?_) (a' := ?_) #[true, true, true, true, true, true, true, true, false, false, false, false, false, false] rfl rfl (by kernel_rfl) (fun _ _ _ h => h) (Or.inl ⟨by rfl, ?_⟩) ?_ ?_
      rotate_left
      · intro w_
        go_simp
        try with_reducible rfl
      rotate_left
      · simp only [Act.put, List.setIfInBounds_toArray, List.set_cons_zero, List.set_cons_succ]
        rfl
      refine take_ (i := 8) (N := some 64) (v := .pointer (some (a.add (i * 10)))) (a' := ?_) #[true, true, true, true, true, true, true, true, true, false, false, false, false, false] rfl rfl (by kernel_rfl) (fun _ _ _ h => h) (Or.inl ⟨by rfl, fun w' h => by go_simp⟩) hHeld ?_ ?_
      rotate_left
      · simp only [Act.put, List.setIfInBounds_toArray, List.set_cons_zero, List.set_cons_succ]
        rfl
      refine pure_ (i := 9) (N := some 65) (v := ?_) (a' := ?_) #[true, true, true, true, true, true, true, true, true, true, false, false, false, false] rfl rfl (by kernel_rfl) (fun _ _ _ h => h) (Or.inl ⟨by rfl, ?_⟩) ?_ ?_
      rotate_left
      · intro w_
        go_simp
        try with_reducible rfl
      rotate_left
      · simp only [Act.put, List.setIfInBounds_toArray, List.set_cons_zero, List.set_cons_succ]
        rfl
      refine take_ (i := 10) (N := some 66) (v := .agg (vec r1)) (a' := ?_) #[true, true, true, true, true, true, true, true, true, true, true, false, false, false] rfl rfl (by kernel_rfl) (fun _ _ _ h => h) (Or.inl ⟨by rfl, fun w' h => run_load_range 55 _ rfl _ _ r1 rfl (below_range h.held.2 HCL.out.2.1 HCL.out.2.2) _ Try.underlying55 rfl R9.out⟩) hHeld ?_ ?_
      rotate_left
      · simp only [Act.put, List.setIfInBounds_toArray, List.set_cons_zero, List.set_cons_succ]
        rfl
      refine one_ (i := 11) (N := some 67) #[true, true, true, true, true, true, true, true, true, true, true, true, false, false] rfl rfl (by kernel_rfl) (by decide) (fun K hK => ?_)
      refine goes_ Try.func30 (by kernel_rfl) rfl #[.agg (vec r1)] (by rfl) rfl rfl (by (try simp only [List.map_toArray, List.map_cons, List.map_nil]); first | done | rfl) ?_
      (with_reducible refine (HMd.out _).mono ?_)
      rintro e wr1 ⟨rfl, hr1⟩
      refine ⟨_, rfl, ?_⟩
      refine hK.out _ _ (hHeld.call hr1) (fun hHeld => ?_)
      clear hK K
      refine norm_ (a' := ?_) ?_ ?_
      rotate_left
      · show Act.put _ (some 67) _ = _
        simp only [Act.put, List.setIfInBounds_toArray, List.set_cons_zero, List.set_cons_succ]
        rfl
      refine last_ (i := 12) (N := some 68) #[true, true, true, true, true, true, true, true, true, true, true, true, true, false] rfl rfl (by kernel_rfl) (by decide) (fun K hK => ?_)
      refine goes_ Try.func24 (by kernel_rfl) rfl #[.pointer (some ⟨bm, 0, none⟩), .int .i64 rep1, .agg (vec r1)] (by rfl) rfl rfl (by (try simp only [List.map_toArray, List.map_cons, List.map_nil]); first | done | rfl) ?_
      (with_reducible refine (HT.out _ hHeld.mat).mono ?_)
      rintro e wr2 ⟨rfl, hbut, hmat⟩
      refine ⟨_, rfl, ?_⟩
      refine hK.out _ _ ?_
      clear hK K
      refine norm_ (a' := ?_) ?_ ?_
      rotate_left
      · show Act.put _ (some 68) _ = _
        simp only [Act.put, List.setIfInBounds_toArray, List.set_cons_zero, List.set_cons_succ]
        rfl
      refine pure_ (i := 13) (N := some 13) (v := ?_) (a' := ?_) #[true, true, true, true, true, true, true, true, true, true, true, true, true, true] rfl rfl (by kernel_rfl) (fun _ _ _ h => h) (Or.inl ⟨by rfl, ?_⟩) ?_ ?_
      rotate_left
      · intro w_
        go_simp
        try with_reducible rfl
      rotate_left
      · simp only [Act.put, List.setIfInBounds_toArray, List.set_cons_zero, List.set_cons_succ]
        rfl
      refine done_ (by kernel_rfl) ?_
      have H4 := Hd.mk (hHeld.tell hbut hmat)
      clear hbut hmat hHeld HM HT HMd
      go_upto_region 10 with (fail)
      refine start_ (n := 17) (S := fun W_ => MH w [(bx, .cells (vec C) 55 (0, 0)), (w.heap.size, .cells (vec r) 55 (0, 0))] bm (n : Int) L2 W_) (ds := [11]) #[false, false, false, false, false, false, false, false, false, false, false, false, false, false, false, false, false] (by kernel_rfl) rfl rfl (H4.out.drew) (fun hHeld => ?_)
      refine pure_ (i := 0) (N := some 70) (v := ?_) (a' := ?_) #[true, false, false, false, false, false, false, false, false, false, false, false, false, false, false, false, false] rfl rfl (by kernel_rfl) (fun _ _ _ h => h) (Or.inl ⟨by rfl, ?_⟩) ?_ ?_
      rotate_left
      · intro w_
        go_simp
        try with_reducible rfl
      rotate_left
      · simp only [Act.put, List.setIfInBounds_toArray, List.set_cons_zero, List.set_cons_succ]
        rfl
      refine pure_ (i := 1) (N := some 71) (v := ?_) (a' := ?_) #[true, true, false, false, false, false, false, false, false, false, false, false, false, false, false, false, false] rfl rfl (by kernel_rfl) (fun _ _ _ h => h) (Or.inl ⟨by rfl, ?_⟩) ?_ ?_
      rotate_left
      · intro w_
        go_simp
        try with_reducible rfl
      rotate_left
      · simp only [Act.put, List.setIfInBounds_toArray, List.set_cons_zero, List.set_cons_succ]
        rfl
      refine pure_ (i := 2) (N := some 72) (v := ?_) (a' := ?_) #[true, true, true, false, false, false, false, false, false, false, false, false, false, false, false, false, false] rfl rfl (by kernel_rfl) (fun _ _ _ h => h) (Or.inl ⟨by rfl, ?_⟩) ?_ ?_
      rotate_left
      · intro w_
        go_simp
        try with_reducible rfl
      rotate_left
      · simp only [Act.put, List.setIfInBounds_toArray, List.set_cons_zero, List.set_cons_succ]
        rfl
      refine take_ (i := 3) (N := some 73) (v := .pointer (some (a.add (i * 10)))) (a' := ?_) #[true, true, true, true, false, false, false, false, false, false, false, false, false, false, false, false, false] rfl rfl (by kernel_rfl) (fun _ _ _ h => h) (Or.inl ⟨by rfl, fun w' h => by go_simp⟩) hHeld ?_ ?_
      rotate_left
      · simp only [Act.put, List.setIfInBounds_toArray, List.set_cons_zero, List.set_cons_succ]
        rfl
      refine pure_ (i := 4) (N := some 74) (v := ?_) (a' := ?_) #[true, true, true, true, true, false, false, false, false, false, false, false, false, false, false, false, false] rfl rfl (by kernel_rfl) (fun _ _ _ h => h) (Or.inl ⟨by rfl, ?_⟩) ?_ ?_
      rotate_left
      · intro w_
        go_simp
        try with_reducible rfl
      rotate_left
      · simp only [Act.put, List.setIfInBounds_toArray, List.set_cons_zero, List.set_cons_succ]
        rfl
      refine take_ (i := 5) (N := some 75) (v := .int .i64 rep1) (a' := ?_) #[true, true, true, true, true, true, false, false, false, false, false, false, false, false, false, false, false] rfl rfl (by kernel_rfl) (fun _ _ _ h => h) (Or.inl ⟨by rfl, fun w' h => by have hc : w'.cell? (a.add (i * 10)) = some (.int .i64 rep1) := (h.held.2.cell HCL.out.2.2).trans HCL.out.1; go_simp⟩) hHeld ?_ ?_
      rotate_left
      · simp only [Act.put, List.setIfInBounds_toArray, List.set_cons_zero, List.set_cons_succ]
        rfl
      refine pure_ (i := 6) (N := some 76) (v := ?_) (a' := ?_) #[true, true, true, true, true, true, true, false, false, false, false, false, false, false, false, false, false] rfl rfl (by kernel_rfl) (fun _ _ _ h => h) (Or.inl ⟨by rfl, ?_⟩) ?_ ?_
      rotate_left
      · intro w_
        go_simp
        try with_reducible rfl
      rotate_left
      · simp only [Act.put, List.setIfInBounds_toArray, List.set_cons_zero, List.set_cons_succ]
        rfl
      refine pure_ (i := 7) (N := some 77) (v := ?_) (a' := ?_) #[true, true, true, true, true, true, true, true, false, false, false, false, false, false, false, false, false] rfl rfl (by kernel_rfl) (fun _ _ _ h => h) (Or.inl ⟨by rfl, ?_⟩) ?_ ?_
      rotate_left
      · intro w_
        go_simp
        try with_reducible rfl
      rotate_left
      · simp only [Act.put, List.setIfInBounds_toArray, List.set_cons_zero, List.set_cons_succ]
        rfl
      refine take_ (i := 8) (N := some 78) (v := .pointer (some (a.add (i * 10)))) (a' := ?_) #[true, true, true, true, true, true, true, true, true, false, false, false, false, false, false, false, false] rfl rfl (by kernel_rfl) (fun _ _ _ h => h) (Or.inl ⟨by rfl, fun w' h => by go_simp⟩) hHeld ?_ ?_
      rotate_left
      · simp only [Act.put, List.setIfInBounds_toArray, List.set_cons_zero, List.set_cons_succ]
        rfl
      refine pure_ (i := 9) (N := some 79) (v := ?_) (a' := ?_) #[true, true, true, true, true, true, true, true, true, true, false, false, false, false, false, false, false] rfl rfl (by kernel_rfl) (fun _ _ _ h => h) (Or.inl ⟨by rfl, ?_⟩) ?_ ?_
      rotate_left
      · intro w_
        go_simp
        try with_reducible rfl
      rotate_left
      · simp only [Act.put, List.setIfInBounds_toArray, List.set_cons_zero, List.set_cons_succ]
        rfl
      refine take_ (i := 10) (N := some 80) (v := .agg (vec r1)) (a' := ?_) #[true, true, true, true, true, true, true, true, true, true, true, false, false, false, false, false, false] rfl rfl (by kernel_rfl) (fun _ _ _ h => h) (Or.inl ⟨by rfl, fun w' h => run_load_range 55 _ rfl _ _ r1 rfl (below_range h.held.2 HCL.out.2.1 HCL.out.2.2) _ Try.underlying55 rfl R9.out⟩) hHeld ?_ ?_
      rotate_left
      · simp only [Act.put, List.setIfInBounds_toArray, List.set_cons_zero, List.set_cons_succ]
        rfl
      refine last_ (i := 11) (N := some 81) #[true, true, true, true, true, true, true, true, true, true, true, true, false, false, false, false, false] rfl rfl (by kernel_rfl) (by decide) (fun K hK => ?_)
      refine goes_ Try.func32 (by kernel_rfl) rfl #[.slice (some ⟨bx, 0, none⟩) n cx, .int .i64 rep1, .agg (vec r1)] (by rfl) rfl rfl (by (try simp only [List.map_toArray, List.map_cons, List.map_nil]); first | done | rfl) ?_
      (with_reducible refine (HRT.out _ (hHeld.held.get 0 rfl)).mono ?_)
      rintro e wr3 ⟨b2, c2, C2, rfl, hb2, hS2, hc2, hrows, hbel⟩
      refine ⟨_, rfl, ?_⟩
      refine hK.out _ _ ?_
      clear hK K
      refine norm_ (a' := ?_) ?_ ?_
      rotate_left
      · show Act.put _ (some 81) _ = _
        simp only [Act.put, List.setIfInBounds_toArray, List.set_cons_zero, List.set_cons_succ]
        rfl
      refine pure_ (i := 12) (N := some 69) (v := ?_) (a' := ?_) #[true, true, true, true, true, true, true, true, true, true, true, true, true, false, false, false, false] rfl rfl (by kernel_rfl) (fun _ _ _ h => h) (Or.inl ⟨by rfl, ?_⟩) ?_ ?_
      rotate_left
      · intro w_
        go_simp
        try with_reducible rfl
      rotate_left
      · simp only [Act.put, List.setIfInBounds_toArray, List.set_cons_zero, List.set_cons_succ]
        rfl
      refine pure_ (i := 13) (N := some 82) (v := ?_) (a' := ?_) #[true, true, true, true, true, true, true, true, true, true, true, true, true, true, false, false, false] rfl rfl (by kernel_rfl) (fun _ _ _ h => h) (Or.inl ⟨by rfl, ?_⟩) ?_ ?_
      rotate_left
      · intro w_
        go_simp
        try with_reducible rfl
      rotate_left
      · simp only [Act.put, List.setIfInBounds_toArray, List.set_cons_zero, List.set_cons_succ]
        rfl
      refine pure_ (i := 14) (N := some 83) (v := ?_) (a' := ?_) #[true, true, true, true, true, true, true, true, true, true, true, true, true, true, true, false, false] rfl rfl (by kernel_rfl) (fun _ _ _ h => h) (Or.inl ⟨by rfl, ?_⟩) ?_ ?_
      rotate_left
      · intro w_
        go_simp
        try with_reducible rfl
      rotate_left
      · simp only [Act.put, List.setIfInBounds_toArray, List.set_cons_zero, List.set_cons_succ]
        rfl
      refine pure_ (i := 15) (N := some 14) (v := ?_) (a' := ?_) #[true, true, true, true, true, true, true, true, true, true, true, true, true, true, true, true, false] rfl rfl (by kernel_rfl) (fun _ _ _ h => h) (Or.inl ⟨by rfl, ?_⟩) ?_ ?_
      rotate_left
      · intro w_
        go_simp
        try with_reducible rfl
      rotate_left
      · simp only [Act.put, List.setIfInBounds_toArray, List.set_cons_zero, List.set_cons_succ]
        rfl
      refine pure_ (i := 16) (N := some 15) (v := ?_) (a' := ?_) #[true, true, true, true, true, true, true, true, true, true, true, true, true, true, true, true, true] rfl rfl (by kernel_rfl) (fun _ _ _ h => h) (Or.inl ⟨by rfl, ?_⟩) ?_ ?_
      rotate_left
      · intro w_
        go_simp
        try with_reducible rfl
      rotate_left
      · simp only [Act.put, List.setIfInBounds_toArray, List.set_cons_zero, List.set_cons_succ]
        rfl
      refine done_ (by kernel_rfl) ?_
      have hne : b2 ≠ bm := by
        have hlt := (Array.getElem?_eq_some_iff.1 hHeld.mat).1
        rcases hb2 with h | rfl
        · omega
        · exact hHeld.ne _ List.mem_cons_self
      have H5 := Hd.mk ((hHeld.call hbel).swap hS2.1 hne)
      have HC2 := Hd.mk hS2.2
      have HQ3 := Hd.mk (HQ2.out C2 hrows)
      have HCX2 := Hd.mk hc2
      clear hne hS2 hrows hbel hHeld H4 HRT hb2 hc2 HCL R9
      have HSr := Hd.mk (fun (w' : World) (h : w'.heap[b2]? = some (.cells (vec C2) 55 (0, 0))) => ref_Stable (b := b2) (n := n) (cap := c2) (⟨h, HC2.out⟩ : SlIs b2 n C2 w') H8.out.1 H8.out.2)
      rw [stabM_congr HQ3.out H8.out.1 H8.out.2] at HSr
      generalize stabM n L2 = st at *
      go_wp2_with fail
      refine (HSt.out _ H5.out.mat).mono ?_; rintro e w6 ⟨rfl, h6⟩
      have H6 := Hd.mk (H5.out.call h6)
      clear h6 H5 HSt
      go_wp2_with fail
      refine (HSr.out _ (H6.out.held.get 0 rfl)).mono ?_; rintro e w7 ⟨rfl, h7⟩
      have H7 := Hd.mk (H6.out.call h7)
      clear h7 H6 HSr
      go_wp2_with fail
      go_roundg (199 - i)
      case measure => have := HK.out; omega
      case rel => exact ⟨i + 1, b2, c2, C2, L2, by omega, by omega, rfl, by first | rfl | congr 1, ⟨by have := HK.out; omega⟩, H7, HL2, HC2, HCX2, HQ3⟩
    · clear HV
      by_cases g1 : i < len
      · have g1' : (i : Int) < (len : Int) := by omega
        have g2' : ¬ (i : Int) < 200 := by omega
        clear hlt g1
        have hn8 : (n : Int) ≤ 8 := by have := H8.out.2; omega
        have HAt := Hd.mk (fun (w' : World) (h : w'.heap[bx]? = some (.cells (vec C) 55 (0, 0))) => ref_At (b := bx) (cap := cx) (⟨h, HC.out⟩ : SlIs bx n C w') H8.out.2 rep)
        rw [rowAt_congr HQ.out] at HAt
        have h9 := rowAt_len HL.out hn8 rep
        have HRow := Hd.mk (fun (w' : World) (h : MatIs bm (n : Int) L w') => mat_RowAt h HL.out hn8 rep)
        have HLk := Hd.mk (fun (w' : World) (h : MatIs bm (n : Int) L w') => mat_Lacks h HL.out hn8 rep HR.out)
        have HJ := Hd.mk (ref_rowMerge (rowAt (n : Int) L rep) r h9 HR.out)
        have h9j := join9 h9 HR.out
        have HEN := Hd.mk (fun w => eqRRow 9997 h9j h9 w)
        have HSame := Hd.mk (row_same _ h9)
        have HMd := Hd.mk (row_made r HR.out)
        have S9 := Hd.mk (show (Try.prog.info? 55).map (·.size) = some (vec (rowAt (n : Int) L rep)).size by rw [vec_size, h9]; exact size_rrow)
        have S9j := Hd.mk (show (Try.prog.info? 55).map (·.size) = some (vec (joinL (rowAt (n : Int) L rep) r)).size by rw [vec_size, h9j]; exact size_rrow)
        have S9r := Hd.mk (show (Try.prog.info? 55).map (·.size) = some (vec r).size by rw [vec_size, HR.out]; exact size_rrow)
        have Z9 := Hd.mk (show (vec zero9).size = (vec (rowAt (n : Int) L rep)).size by rw [vec_size, vec_size, h9]; rfl)
        have Z9j := Hd.mk (show (vec zero9).size = (vec (joinL (rowAt (n : Int) L rep) r)).size by rw [vec_size, vec_size, h9j]; rfl)
        clear h9 h9j hn8
        generalize joinL (rowAt (n : Int) L rep) r = more at *
        generalize rowAt (n : Int) L rep = row at *
        generalize eqV more row = qe at *
        have hz := zeroRRow
        go_wp2_with fail
        refine (HAt.out _ (HM.out.held.get 0 rfl)).mono ?_; rintro e w3 ⟨rfl, h3⟩
        have H3 := Hd.mk (MH.made (HM.out.call h3) (vec zero9) (vec row) 55)
        clear HAt h3 HM
        go_upto_region 15 with (first | ((with_reducible refine gate_store (t := 55) rfl ?_); refine wpList_store_row rfl _ _ _ rfl w3.heap.size (vec row) rfl rfl 55 (vec zero9) (heap_alloc_new _ _) S9.out Z9.out (vec_one _) ?_; generalize ((w3.alloc (.cells (vec zero9) 55 (0, 0))).setRow w3.heap.size (vec row)) = W3 at H3 ⊢))
        generalize w3.heap.size = bw at H3 ⊢
        go_wp2_with (first | ((with_reducible refine gate_dst (N := 98) rfl ?_); refine wpList_load_row rfl 55 _ rfl bw rfl 55 (vec row) (0, 0) _ (H3.out.held.get 0 rfl) Try.underlying55 rfl S9.out ?_) | ((with_reducible refine gate_dst (N := 99) rfl ?_); refine wpList_load_row rfl 55 _ rfl w.heap.size rfl 55 (vec r) (0, 0) _ (H3.out.held.get 2 rfl) Try.underlying55 rfl S9r.out ?_))
        refine (HJ.out _).mono ?_; rintro e w5 ⟨rfl, h5⟩
        have H5 := Hd.mk (MH.made (H3.out.call h5) (vec zero9) (vec more) 55)
        clear HJ h5 H3
        go_upto_region 16 with (first | ((with_reducible refine gate_store (t := 55) rfl ?_); refine wpList_store_row rfl _ _ _ rfl w5.heap.size (vec more) rfl rfl 55 (vec zero9) (heap_alloc_new _ _) S9j.out Z9j.out (vec_one _) ?_; generalize ((w5.alloc (.cells (vec zero9) 55 (0, 0))).setRow w5.heap.size (vec more)) = W5 at H5 ⊢))
        generalize w5.heap.size = bn at H5 ⊢
        clear hz
        have HRow := Hd.mk (fun (w' : World) (h : MH w [(bn, .cells (vec more) 55 (0, 0)), (bw, .cells (vec row) 55 (0, 0)), (bx, .cells (vec C) 55 (0, 0)), (w.heap.size, .cells (vec r) 55 (0, 0))] bm (n : Int) L w') => HRow.out w' h.mat)
        have HLk := Hd.mk (fun (w' : World) (h : MH w [(bn, .cells (vec more) 55 (0, 0)), (bw, .cells (vec row) 55 (0, 0)), (bx, .cells (vec C) 55 (0, 0)), (w.heap.size, .cells (vec r) 55 (0, 0))] bm (n : Int) L w') => HLk.out w' h.mat)
        refine start_ (n := 20) (S := fun W_ => MH w [(bn, .cells (vec more) 55 (0, 0)), (bw, .cells (vec row) 55 (0, 0)), (bx, .cells (vec C) 55 (0, 0)), (w.heap.size, .cells (vec r) 55 (0, 0))] bm (n : Int) L W_) (ds := []) #[false, false, false, false, false, false, false, false, false, false, false, false, false, false, false, false, false, false, false, false] (by kernel_rfl) rfl rfl (H5.out.drew) (fun hHeld => ?_)
        refine pure_ (i := 0) (N := some 101) (v := ?_) (a' := ?_) #[true, false, false, false, false, false, false, false, false, false, false, false, false, false, false, false, false, false, false, false] rfl rfl (by kernel_rfl) (fun _ _ _ h => h) (Or.inl ⟨by rfl, ?_⟩) ?_ ?_
        rotate_left
        · intro w_
          go_simp
          try with_reducible rfl
        rotate_left
        · simp only [Act.put, List.setIfInBounds_toArray, List.set_cons_zero, List.set_cons_succ]
          rfl
        refine pure_ (i := 1) (N := some 102) (v := ?_) (a' := ?_) #[true, true, false, false, false, false, false, false, false, false, false, false, false, false, false, false, false, false, false, false] rfl rfl (by kernel_rfl) (fun _ _ _ h => h) (Or.inl ⟨by rfl, ?_⟩) ?_ ?_
        rotate_left
        · intro w_
          go_simp
          try with_reducible rfl
        rotate_left
        · simp only [Act.put, List.setIfInBounds_toArray, List.set_cons_zero, List.set_cons_succ]
          rfl
        refine pure_ (i := 2) (N := some 103) (v := ?_) (a' := ?_) #[true, true, true, false, false, false, false, false, false, false, false, false, false, false, false, false, false, false, false, false] rfl rfl (by kernel_rfl) (fun _ _ _ h => h) (Or.inl ⟨by rfl, ?_⟩) ?_ ?_
        rotate_left
        · intro w_
          go_simp
          try with_reducible rfl
        rotate_left
        · simp only [Act.put, List.setIfInBounds_toArray, List.set_cons_zero, List.set_cons_succ]
          rfl
        refine pure_ (i := 3) (N := some 104) (v := ?_) (a' := ?_) #[true, true, true, true, false, false, false, false, false, false, false, false, false, false, false, false, false, false, false, false] rfl rfl (by kernel_rfl) (fun _ _ _ h => h) (Or.inl ⟨by rfl, ?_⟩) ?_ ?_
        rotate_left
        · intro w_
          go_simp
          try with_reducible rfl
        rotate_left
        · simp only [Act.put, List.setIfInBounds_toArray, List.set_cons_zero, List.set_cons_succ]
          rfl
        refine take_ (i := 5) (N := some 106) (v := .agg (vec row)) (a' := ?_) #[true, true, true, true, false, true, false, false, false, false, false, false, false, false, false, false, false, false, false, false] rfl rfl (by kernel_rfl) (fun _ _ _ h => h) (Or.inl ⟨by rfl, fun w' h => run_load_row 55 _ rfl bw rfl 55 _ _ _ (h.held.get 1 rfl) Try.underlying55 rfl S9.out⟩) hHeld ?_ ?_
        rotate_left
        · simp only [Act.put, List.setIfInBounds_toArray, List.set_cons_zero, List.set_cons_succ]
          rfl
        refine one_ (i := 4) (N := some 105) #[true, true, true, true, true, true, false, false, false, false, false, false, false, false, false, false, false, false, false, false] rfl rfl (by kernel_rfl) (by decide) (fun K hK => ?_)
        refine goes_ Try.func31 (by kernel_rfl) rfl #[.pointer (some ⟨bm, 0, none⟩), .int .i64 rep] (by rfl) rfl rfl (by (try simp only [List.map_toArray, List.map_cons, List.map_nil]); first | done | rfl) ?_
        (with_reducible refine (HRow.out _ hHeld).mono ?_)
        rintro e wr4 ⟨rfl, hr4⟩
        refine ⟨_, rfl, ?_⟩
        refine hK.out _ _ (hHeld.call hr4) (fun hHeld => ?_)
        clear hK K
        refine norm_ (a' := ?_) ?_ ?_
        rotate_left
        · show Act.put _ (some 105) _ = _
          simp only [Act.put, List.setIfInBounds_toArray, List.set_cons_zero, List.set_cons_succ]
          rfl
        refine one_ (i := 6) (N := some 107) #[true, true, true, true, true, true, true, false, false, false, false, false, false, false, false, false, false, false, false, false] rfl rfl (by kernel_rfl) (by decide) (fun K hK => ?_)
        refine goes_ Try.func36 (by kernel_rfl) rfl #[.agg (vec row), .agg (vec row)] (by rfl) rfl rfl (by (try simp only [List.map_toArray, List.map_cons, List.map_nil]); first | done | rfl) ?_
        (with_reducible refine (HSame.out _).mono ?_)
        rintro e wr5 ⟨rfl, hr5⟩
        refine ⟨_, rfl, ?_⟩
        refine hK.out _ _ (hHeld.call hr5) (fun hHeld => ?_)
        clear hK K
        refine norm_ (a' := ?_) ?_ ?_
        rotate_left
        · show Act.put _ (some 107) _ = _
          simp only [Act.put, List.setIfInBounds_toArray, List.set_cons_zero, List.set_cons_succ]
          rfl
        refine pure_ (i := 7) (N := some 108) (v := ?_) (a' := ?_) #[true, true, true, true, true, true, true, true, false, false, false, false, false, false, false, false, false, false, false, false] rfl rfl (by kernel_rfl) (fun _ _ _ h => h) (Or.inl ⟨by rfl, ?_⟩) ?_ ?_
        rotate_left
        · intro w_
          go_simp
          try with_reducible rfl
        rotate_left
        · simp only [Act.put, List.setIfInBounds_toArray, List.set_cons_zero, List.set_cons_succ]
          rfl
        refine pure_ (i := 8) (N := some 109) (v := ?_) (a' := ?_) #[true, true, true, true, true, true, true, true, true, false, false, false, false, false, false, false, false, false, false, false] rfl rfl (by kernel_rfl) (fun _ _ _ h => h) (Or.inl ⟨by rfl, ?_⟩) ?_ ?_
        rotate_left
        · intro w_
          go_simp
          try with_reducible rfl
        rotate_left
        · simp only [Act.put, List.setIfInBounds_toArray, List.set_cons_zero, List.set_cons_succ]
          rfl
        refine pure_ (i := 9) (N := some 110) (v := ?_) (a' := ?_) #[true, true, true, true, true, true, true, true, true, true, false, false, false, false, false, false, false, false, false, false] rfl rfl (by kernel_rfl) (fun _ _ _ h => h) (Or.inl ⟨by rfl, ?_⟩) ?_ ?_
        rotate_left
        · intro w_
          go_simp
          try with_reducible rfl
        rotate_left
        · simp only [Act.put, List.setIfInBounds_toArray, List.set_cons_zero, List.set_cons_succ]
          rfl
        refine pure_ (i := 10) (N := some 111) (v := ?_) (a' := ?_) #[true, true, true, true, true, true, true, true, true, true, true, false, false, false, false, false, false, false, false, false] rfl rfl (by kernel_rfl) (fun _ _ _ h => h) (Or.inl ⟨by rfl, ?_⟩) ?_ ?_
        rotate_left
        · intro w_
          go_simp
          try with_reducible rfl
        rotate_left
        · simp only [Act.put, List.setIfInBounds_toArray, List.set_cons_zero, List.set_cons_succ]
          rfl
        refine take_ (i := 11) (N := some 112) (v := .agg (vec r)) (a' := ?_) #[true, true, true, true, true, true, true, true, true, true, true, true, false, false, false, false, false, false, false, false] rfl rfl (by kernel_rfl) (fun _ _ _ h => h) (Or.inl ⟨by rfl, fun w' h => run_load_row 55 _ rfl w.heap.size rfl 55 _ _ _ (h.held.get 3 rfl) Try.underlying55 rfl S9r.out⟩) hHeld ?_ ?_
        rotate_left
        · simp only [Act.put, List.setIfInBounds_toArray, List.set_cons_zero, List.set_cons_succ]
          rfl
        refine take_ (i := 14) (N := some 115) (v := .agg (vec more)) (a' := ?_) #[true, true, true, true, true, true, true, true, true, true, true, true, false, false, true, false, false, false, false, false] rfl rfl (by kernel_rfl) (fun _ _ _ h => h) (Or.inl ⟨by rfl, fun w' h => run_load_row 55 _ rfl bn rfl 55 _ _ _ (h.held.get 0 rfl) Try.underlying55 rfl S9j.out⟩) hHeld ?_ ?_
        rotate_left
        · simp only [Act.put, List.setIfInBounds_toArray, List.set_cons_zero, List.set_cons_succ]
          rfl
        refine take_ (i := 15) (N := some 116) (v := .agg (vec row)) (a' := ?_) #[true, true, true, true, true, true, true, true, true, true, true, true, false, false, true, true, false, false, false, false] rfl rfl (by kernel_rfl) (fun _ _ _ h => h) (Or.inl ⟨by rfl, fun w' h => run_load_row 55 _ rfl bw rfl 55 _ _ _ (h.held.get 1 rfl) Try.underlying55 rfl S9.out⟩) hHeld ?_ ?_
        rotate_left
        · simp only [Act.put, List.setIfInBounds_toArray, List.set_cons_zero, List.set_cons_succ]
          rfl
        refine take_ (i := 16) (N := some 117) (v := .bool (!qe)) (a' := ?_) #[true, true, true, true, true, true, true, true, true, true, true, true, false, false, true, true, true, false, false, false] rfl rfl (by kernel_rfl) (fun _ _ _ h => h) (Or.inl ⟨by rfl, fun w' h => by have heq := HEN.out; go_simp⟩) hHeld ?_ ?_
        rotate_left
        · simp only [Act.put, List.setIfInBounds_toArray, List.set_cons_zero, List.set_cons_succ]
          rfl
        refine one_ (i := 12) (N := some 113) #[true, true, true, true, true, true, true, true, true, true, true, true, true, false, true, true, true, false, false, false] rfl rfl (by kernel_rfl) (by decide) (fun K hK => ?_)
        refine goes_ Try.func30 (by kernel_rfl) rfl #[.agg (vec r)] (by rfl) rfl rfl (by (try simp only [List.map_toArray, List.map_cons, List.map_nil]); first | done | rfl) ?_
        (with_reducible refine (HMd.out _).mono ?_)
        rintro e wr6 ⟨rfl, hr6⟩
        refine ⟨_, rfl, ?_⟩
        refine hK.out _ _ (hHeld.call hr6) (fun hHeld => ?_)
        clear hK K
        refine norm_ (a' := ?_) ?_ ?_
        rotate_left
        · show Act.put _ (some 113) _ = _
          simp only [Act.put, List.setIfInBounds_toArray, List.set_cons_zero, List.set_cons_succ]
          rfl
        refine one_ (i := 13) (N := some 114) #[true, true, true, true, true, true, true, true, true, true, true, true, true, true, true, true, true, false, false, false] rfl rfl (by kernel_rfl) (by decide) (fun K hK => ?_)
        refine goes_ Try.func37 (by kernel_rfl) rfl #[.pointer (some ⟨bm, 0, none⟩), .int .i64 rep, .agg (vec r)] (by rfl) rfl rfl (by (try simp only [List.map_toArray, List.map_cons, List.map_nil]); first | done | rfl) ?_
        (with_reducible refine (HLk.out _ hHeld).mono ?_)
        rintro e wr7 ⟨rfl, hr7⟩
        refine ⟨_, rfl, ?_⟩
        refine hK.out _ _ (hHeld.call hr7) (fun hHeld => ?_)
        clear hK K
        refine norm_ (a' := ?_) ?_ ?_
        rotate_left
        · show Act.put _ (some 114) _ = _
          simp only [Act.put, List.setIfInBounds_toArray, List.set_cons_zero, List.set_cons_succ]
          rfl
        refine take_ (i := 17) (N := some 118) (v := .bool true) (a' := ?_) #[true, true, true, true, true, true, true, true, true, true, true, true, true, true, true, true, true, true, false, false] rfl rfl (by kernel_rfl) (fun _ _ _ h => h) (Or.inl ⟨by rfl, fun w' h => by cases qe <;> go_simp⟩) hHeld ?_ ?_
        rotate_left
        · simp only [Act.put, List.setIfInBounds_toArray, List.set_cons_zero, List.set_cons_succ]
          rfl
        refine pure_ (i := 18) (N := some 119) (v := ?_) (a' := ?_) #[true, true, true, true, true, true, true, true, true, true, true, true, true, true, true, true, true, true, true, false] rfl rfl (by kernel_rfl) (fun _ _ _ h => h) (Or.inl ⟨by rfl, ?_⟩) ?_ ?_
        rotate_left
        · intro w_
          go_simp
          try with_reducible rfl
        rotate_left
        · simp only [Act.put, List.setIfInBounds_toArray, List.set_cons_zero, List.set_cons_succ]
          rfl
        refine pure_ (i := 19) (N := some 8) (v := ?_) (a' := ?_) #[true, true, true, true, true, true, true, true, true, true, true, true, true, true, true, true, true, true, true, true] rfl rfl (by kernel_rfl) (fun _ _ _ h => h) (Or.inl ⟨by rfl, ?_⟩) ?_ ?_
        rotate_left
        · intro w_
          go_simp
          try with_reducible rfl
        rotate_left
        · simp only [Act.put, List.setIfInBounds_toArray, List.set_cons_zero, List.set_cons_succ]
          rfl
        refine done_ (by kernel_rfl) ?_
        go_wp2_with fail
        go_ret
        exact ⟨rfl, hHeld.held.2⟩
      · have g1' : ¬ (i : Int) < (len : Int) := by omega
        clear hlt g1
        have hn8 : (n : Int) ≤ 8 := by have := H8.out.2; omega
        have HAt := Hd.mk (fun (w' : World) (h : w'.heap[bx]? = some (.cells (vec C) 55 (0, 0))) => ref_At (b := bx) (cap := cx) (⟨h, HC.out⟩ : SlIs bx n C w') H8.out.2 rep)
        rw [rowAt_congr HQ.out] at HAt
        have h9 := rowAt_len HL.out hn8 rep
        have HRow := Hd.mk (fun (w' : World) (h : MatIs bm (n : Int) L w') => mat_RowAt h HL.out hn8 rep)
        have HLk := Hd.mk (fun (w' : World) (h : MatIs bm (n : Int) L w') => mat_Lacks h HL.out hn8 rep HR.out)
        have HJ := Hd.mk (ref_rowMerge (rowAt (n : Int) L rep) r h9 HR.out)
        have h9j := join9 h9 HR.out
        have HEN := Hd.mk (fun w => eqRRow 9997 h9j h9 w)
        have HSame := Hd.mk (row_same _ h9)
        have HMd := Hd.mk (row_made r HR.out)
        have S9 := Hd.mk (show (Try.prog.info? 55).map (·.size) = some (vec (rowAt (n : Int) L rep)).size by rw [vec_size, h9]; exact size_rrow)
        have S9j := Hd.mk (show (Try.prog.info? 55).map (·.size) = some (vec (joinL (rowAt (n : Int) L rep) r)).size by rw [vec_size, h9j]; exact size_rrow)
        have S9r := Hd.mk (show (Try.prog.info? 55).map (·.size) = some (vec r).size by rw [vec_size, HR.out]; exact size_rrow)
        have Z9 := Hd.mk (show (vec zero9).size = (vec (rowAt (n : Int) L rep)).size by rw [vec_size, vec_size, h9]; rfl)
        have Z9j := Hd.mk (show (vec zero9).size = (vec (joinL (rowAt (n : Int) L rep) r)).size by rw [vec_size, vec_size, h9j]; rfl)
        clear h9 h9j hn8
        generalize joinL (rowAt (n : Int) L rep) r = more at *
        generalize rowAt (n : Int) L rep = row at *
        generalize eqV more row = qe at *
        have hz := zeroRRow
        go_wp2_with fail
        refine (HAt.out _ (HM.out.held.get 0 rfl)).mono ?_; rintro e w3 ⟨rfl, h3⟩
        have H3 := Hd.mk (MH.made (HM.out.call h3) (vec zero9) (vec row) 55)
        clear HAt h3 HM
        go_upto_region 15 with (first | ((with_reducible refine gate_store (t := 55) rfl ?_); refine wpList_store_row rfl _ _ _ rfl w3.heap.size (vec row) rfl rfl 55 (vec zero9) (heap_alloc_new _ _) S9.out Z9.out (vec_one _) ?_; generalize ((w3.alloc (.cells (vec zero9) 55 (0, 0))).setRow w3.heap.size (vec row)) = W3 at H3 ⊢))
        generalize w3.heap.size = bw at H3 ⊢
        go_wp2_with (first | ((with_reducible refine gate_dst (N := 98) rfl ?_); refine wpList_load_row rfl 55 _ rfl bw rfl 55 (vec row) (0, 0) _ (H3.out.held.get 0 rfl) Try.underlying55 rfl S9.out ?_) | ((with_reducible refine gate_dst (N := 99) rfl ?_); refine wpList_load_row rfl 55 _ rfl w.heap.size rfl 55 (vec r) (0, 0) _ (H3.out.held.get 2 rfl) Try.underlying55 rfl S9r.out ?_))
        refine (HJ.out _).mono ?_; rintro e w5 ⟨rfl, h5⟩
        have H5 := Hd.mk (MH.made (H3.out.call h5) (vec zero9) (vec more) 55)
        clear HJ h5 H3
        go_upto_region 16 with (first | ((with_reducible refine gate_store (t := 55) rfl ?_); refine wpList_store_row rfl _ _ _ rfl w5.heap.size (vec more) rfl rfl 55 (vec zero9) (heap_alloc_new _ _) S9j.out Z9j.out (vec_one _) ?_; generalize ((w5.alloc (.cells (vec zero9) 55 (0, 0))).setRow w5.heap.size (vec more)) = W5 at H5 ⊢))
        generalize w5.heap.size = bn at H5 ⊢
        clear hz
        have HRow := Hd.mk (fun (w' : World) (h : MH w [(bn, .cells (vec more) 55 (0, 0)), (bw, .cells (vec row) 55 (0, 0)), (bx, .cells (vec C) 55 (0, 0)), (w.heap.size, .cells (vec r) 55 (0, 0))] bm (n : Int) L w') => HRow.out w' h.mat)
        have HLk := Hd.mk (fun (w' : World) (h : MH w [(bn, .cells (vec more) 55 (0, 0)), (bw, .cells (vec row) 55 (0, 0)), (bx, .cells (vec C) 55 (0, 0)), (w.heap.size, .cells (vec r) 55 (0, 0))] bm (n : Int) L w') => HLk.out w' h.mat)
        refine start_ (n := 20) (S := fun W_ => MH w [(bn, .cells (vec more) 55 (0, 0)), (bw, .cells (vec row) 55 (0, 0)), (bx, .cells (vec C) 55 (0, 0)), (w.heap.size, .cells (vec r) 55 (0, 0))] bm (n : Int) L W_) (ds := []) #[false, false, false, false, false, false, false, false, false, false, false, false, false, false, false, false, false, false, false, false] (by kernel_rfl) rfl rfl (H5.out.drew) (fun hHeld => ?_)
        refine pure_ (i := 0) (N := some 101) (v := ?_) (a' := ?_) #[true, false, false, false, false, false, false, false, false, false, false, false, false, false, false, false, false, false, false, false] rfl rfl (by kernel_rfl) (fun _ _ _ h => h) (Or.inl ⟨by rfl, ?_⟩) ?_ ?_
        rotate_left
        · intro w_
          go_simp
          try with_reducible rfl
        rotate_left
        · simp only [Act.put, List.setIfInBounds_toArray, List.set_cons_zero, List.set_cons_succ]
          rfl
        refine pure_ (i := 1) (N := some 102) (v := ?_) (a' := ?_) #[true, true, false, false, false, false, false, false, false, false, false, false, false, false, false, false, false, false, false, false] rfl rfl (by kernel_rfl) (fun _ _ _ h => h) (Or.inl ⟨by rfl, ?_⟩) ?_ ?_
        rotate_left
        · intro w_
          go_simp
          try with_reducible rfl
        rotate_left
        · simp only [Act.put, List.setIfInBounds_toArray, List.set_cons_zero, List.set_cons_succ]
          rfl
        refine pure_ (i := 2) (N := some 103) (v := ?_) (a' := ?_) #[true, true, true, false, false, false, false, false, false, false, false, false, false, false, false, false, false, false, false, false] rfl rfl (by kernel_rfl) (fun _ _ _ h => h) (Or.inl ⟨by rfl, ?_⟩) ?_ ?_
        rotate_left
        · intro w_
          go_simp
          try with_reducible rfl
        rotate_left
        · simp only [Act.put, List.setIfInBounds_toArray, List.set_cons_zero, List.set_cons_succ]
          rfl
        refine pure_ (i := 3) (N := some 104) (v := ?_) (a' := ?_) #[true, true, true, true, false, false, false, false, false, false, false, false, false, false, false, false, false, false, false, false] rfl rfl (by kernel_rfl) (fun _ _ _ h => h) (Or.inl ⟨by rfl, ?_⟩) ?_ ?_
        rotate_left
        · intro w_
          go_simp
          try with_reducible rfl
        rotate_left
        · simp only [Act.put, List.setIfInBounds_toArray, List.set_cons_zero, List.set_cons_succ]
          rfl
        refine take_ (i := 5) (N := some 106) (v := .agg (vec row)) (a' := ?_) #[true, true, true, true, false, true, false, false, false, false, false, false, false, false, false, false, false, false, false, false] rfl rfl (by kernel_rfl) (fun _ _ _ h => h) (Or.inl ⟨by rfl, fun w' h => run_load_row 55 _ rfl bw rfl 55 _ _ _ (h.held.get 1 rfl) Try.underlying55 rfl S9.out⟩) hHeld ?_ ?_
        rotate_left
        · simp only [Act.put, List.setIfInBounds_toArray, List.set_cons_zero, List.set_cons_succ]
          rfl
        refine one_ (i := 4) (N := some 105) #[true, true, true, true, true, true, false, false, false, false, false, false, false, false, false, false, false, false, false, false] rfl rfl (by kernel_rfl) (by decide) (fun K hK => ?_)
        refine goes_ Try.func31 (by kernel_rfl) rfl #[.pointer (some ⟨bm, 0, none⟩), .int .i64 rep] (by rfl) rfl rfl (by (try simp only [List.map_toArray, List.map_cons, List.map_nil]); first | done | rfl) ?_
        (with_reducible refine (HRow.out _ hHeld).mono ?_)
        rintro e wr8 ⟨rfl, hr8⟩
        refine ⟨_, rfl, ?_⟩
        refine hK.out _ _ (hHeld.call hr8) (fun hHeld => ?_)
        clear hK K
        refine norm_ (a' := ?_) ?_ ?_
        rotate_left
        · show Act.put _ (some 105) _ = _
          simp only [Act.put, List.setIfInBounds_toArray, List.set_cons_zero, List.set_cons_succ]
          rfl
        refine one_ (i := 6) (N := some 107) #[true, true, true, true, true, true, true, false, false, false, false, false, false, false, false, false, false, false, false, false] rfl rfl (by kernel_rfl) (by decide) (fun K hK => ?_)
        refine goes_ Try.func36 (by kernel_rfl) rfl #[.agg (vec row), .agg (vec row)] (by rfl) rfl rfl (by (try simp only [List.map_toArray, List.map_cons, List.map_nil]); first | done | rfl) ?_
        (with_reducible refine (HSame.out _).mono ?_)
        rintro e wr9 ⟨rfl, hr9⟩
        refine ⟨_, rfl, ?_⟩
        refine hK.out _ _ (hHeld.call hr9) (fun hHeld => ?_)
        clear hK K
        refine norm_ (a' := ?_) ?_ ?_
        rotate_left
        · show Act.put _ (some 107) _ = _
          simp only [Act.put, List.setIfInBounds_toArray, List.set_cons_zero, List.set_cons_succ]
          rfl
        refine pure_ (i := 7) (N := some 108) (v := ?_) (a' := ?_) #[true, true, true, true, true, true, true, true, false, false, false, false, false, false, false, false, false, false, false, false] rfl rfl (by kernel_rfl) (fun _ _ _ h => h) (Or.inl ⟨by rfl, ?_⟩) ?_ ?_
        rotate_left
        · intro w_
          go_simp
          try with_reducible rfl
        rotate_left
        · simp only [Act.put, List.setIfInBounds_toArray, List.set_cons_zero, List.set_cons_succ]
          rfl
        refine pure_ (i := 8) (N := some 109) (v := ?_) (a' := ?_) #[true, true, true, true, true, true, true, true, true, false, false, false, false, false, false, false, false, false, false, false] rfl rfl (by kernel_rfl) (fun _ _ _ h => h) (Or.inl ⟨by rfl, ?_⟩) ?_ ?_
        rotate_left
        · intro w_
          go_simp
          try with_reducible rfl
        rotate_left
        · simp only [Act.put, List.setIfInBounds_toArray, List.set_cons_zero, List.set_cons_succ]
          rfl
        refine pure_ (i := 9) (N := some 110) (v := ?_) (a' := ?_) #[true, true, true, true, true, true, true, true, true, true, false, false, false, false, false, false, false, false, false, false] rfl rfl (by kernel_rfl) (fun _ _ _ h => h) (Or.inl ⟨by rfl, ?_⟩) ?_ ?_
        rotate_left
        · intro w_
          go_simp
          try with_reducible rfl
        rotate_left
        · simp only [Act.put, List.setIfInBounds_toArray, List.set_cons_zero, List.set_cons_succ]
          rfl
        refine pure_ (i := 10) (N := some 111) (v := ?_) (a' := ?_) #[true, true, true, true, true, true, true, true, true, true, true, false, false, false, false, false, false, false, false, false] rfl rfl (by kernel_rfl) (fun _ _ _ h => h) (Or.inl ⟨by rfl, ?_⟩) ?_ ?_
        rotate_left
        · intro w_
          go_simp
          try with_reducible rfl
        rotate_left
        · simp only [Act.put, List.setIfInBounds_toArray, List.set_cons_zero, List.set_cons_succ]
          rfl
        refine take_ (i := 11) (N := some 112) (v := .agg (vec r)) (a' := ?_) #[true, true, true, true, true, true, true, true, true, true, true, true, false, false, false, false, false, false, false, false] rfl rfl (by kernel_rfl) (fun _ _ _ h => h) (Or.inl ⟨by rfl, fun w' h => run_load_row 55 _ rfl w.heap.size rfl 55 _ _ _ (h.held.get 3 rfl) Try.underlying55 rfl S9r.out⟩) hHeld ?_ ?_
        rotate_left
        · simp only [Act.put, List.setIfInBounds_toArray, List.set_cons_zero, List.set_cons_succ]
          rfl
        refine take_ (i := 14) (N := some 115) (v := .agg (vec more)) (a' := ?_) #[true, true, true, true, true, true, true, true, true, true, true, true, false, false, true, false, false, false, false, false] rfl rfl (by kernel_rfl) (fun _ _ _ h => h) (Or.inl ⟨by rfl, fun w' h => run_load_row 55 _ rfl bn rfl 55 _ _ _ (h.held.get 0 rfl) Try.underlying55 rfl S9j.out⟩) hHeld ?_ ?_
        rotate_left
        · simp only [Act.put, List.setIfInBounds_toArray, List.set_cons_zero, List.set_cons_succ]
          rfl
        refine take_ (i := 15) (N := some 116) (v := .agg (vec row)) (a' := ?_) #[true, true, true, true, true, true, true, true, true, true, true, true, false, false, true, true, false, false, false, false] rfl rfl (by kernel_rfl) (fun _ _ _ h => h) (Or.inl ⟨by rfl, fun w' h => run_load_row 55 _ rfl bw rfl 55 _ _ _ (h.held.get 1 rfl) Try.underlying55 rfl S9.out⟩) hHeld ?_ ?_
        rotate_left
        · simp only [Act.put, List.setIfInBounds_toArray, List.set_cons_zero, List.set_cons_succ]
          rfl
        refine take_ (i := 16) (N := some 117) (v := .bool (!qe)) (a' := ?_) #[true, true, true, true, true, true, true, true, true, true, true, true, false, false, true, true, true, false, false, false] rfl rfl (by kernel_rfl) (fun _ _ _ h => h) (Or.inl ⟨by rfl, fun w' h => by have heq := HEN.out; go_simp⟩) hHeld ?_ ?_
        rotate_left
        · simp only [Act.put, List.setIfInBounds_toArray, List.set_cons_zero, List.set_cons_succ]
          rfl
        refine one_ (i := 12) (N := some 113) #[true, true, true, true, true, true, true, true, true, true, true, true, true, false, true, true, true, false, false, false] rfl rfl (by kernel_rfl) (by decide) (fun K hK => ?_)
        refine goes_ Try.func30 (by kernel_rfl) rfl #[.agg (vec r)] (by rfl) rfl rfl (by (try simp only [List.map_toArray, List.map_cons, List.map_nil]); first | done | rfl) ?_
        (with_reducible refine (HMd.out _).mono ?_)
        rintro e wr10 ⟨rfl, hr10⟩
        refine ⟨_, rfl, ?_⟩
        refine hK.out _ _ (hHeld.call hr10) (fun hHeld => ?_)
        clear hK K
        refine norm_ (a' := ?_) ?_ ?_
        rotate_left
        · show Act.put _ (some 113) _ = _
          simp only [Act.put, List.setIfInBounds_toArray, List.set_cons_zero, List.set_cons_succ]
          rfl
        refine one_ (i := 13) (N := some 114) #[true, true, true, true, true, true, true, true, true, true, true, true, true, true, true, true, true, false, false, false] rfl rfl (by kernel_rfl) (by decide) (fun K hK => ?_)
        refine goes_ Try.func37 (by kernel_rfl) rfl #[.pointer (some ⟨bm, 0, none⟩), .int .i64 rep, .agg (vec r)] (by rfl) rfl rfl (by (try simp only [List.map_toArray, List.map_cons, List.map_nil]); first | done | rfl) ?_
        (with_reducible refine (HLk.out _ hHeld).mono ?_)
        rintro e wr11 ⟨rfl, hr11⟩
        refine ⟨_, rfl, ?_⟩
        refine hK.out _ _ (hHeld.call hr11) (fun hHeld => ?_)
        clear hK K
        refine norm_ (a' := ?_) ?_ ?_
        rotate_left
        · show Act.put _ (some 114) _ = _
          simp only [Act.put, List.setIfInBounds_toArray, List.set_cons_zero, List.set_cons_succ]
          rfl
        refine take_ (i := 17) (N := some 118) (v := .bool true) (a' := ?_) #[true, true, true, true, true, true, true, true, true, true, true, true, true, true, true, true, true, true, false, false] rfl rfl (by kernel_rfl) (fun _ _ _ h => h) (Or.inl ⟨by rfl, fun w' h => by cases qe <;> go_simp⟩) hHeld ?_ ?_
        rotate_left
        · simp only [Act.put, List.setIfInBounds_toArray, List.set_cons_zero, List.set_cons_succ]
          rfl
        refine pure_ (i := 18) (N := some 119) (v := ?_) (a' := ?_) #[true, true, true, true, true, true, true, true, true, true, true, true, true, true, true, true, true, true, true, false] rfl rfl (by kernel_rfl) (fun _ _ _ h => h) (Or.inl ⟨by rfl, ?_⟩) ?_ ?_
        rotate_left
        · intro w_
          go_simp
          try with_reducible rfl
        rotate_left
        · simp only [Act.put, List.setIfInBounds_toArray, List.set_cons_zero, List.set_cons_succ]
          rfl
        refine pure_ (i := 19) (N := some 8) (v := ?_) (a' := ?_) #[true, true, true, true, true, true, true, true, true, true, true, true, true, true, true, true, true, true, true, true] rfl rfl (by kernel_rfl) (fun _ _ _ h => h) (Or.inl ⟨by rfl, ?_⟩) ?_ ?_
        rotate_left
        · intro w_
          go_simp
          try with_reducible rfl
        rotate_left
        · simp only [Act.put, List.setIfInBounds_toArray, List.set_cons_zero, List.set_cons_succ]
          rfl
        refine done_ (by kernel_rfl) ?_
        go_wp2_with fail
        go_ret
        exact ⟨rfl, hHeld.held.2⟩
theorem law_MatrixPlays {v vr : Value} {A : Option Addr} {len cap : Nat} {l : List (Int × List Int)} {r : List Int} {w : World} (n : Int) (hn : (Lit.int .i64 n).wf = true) (hv : AreTells w v A len cap l) (rep : Int) (hrep : (Lit.int .i64 rep).wf = true) (hr : IsRow vr r) :
    Calls Try.prog 8 #[.int .i64 n, v, .int .i64 rep, vr] w fun e w' => e = .returned (.bool true) ∧ Below w.heap.size w w' := by
  obtain ⟨rfl, hr9, -⟩ := hr
  by_cases h : 1 ≤ n ∧ n ≤ 8
  · obtain ⟨m, rfl⟩ : ∃ m : Nat, n = (m : Int) := ⟨n.toNat, by omega⟩
    exact law_on m (by omega) (by omega) hv rep hr9
  · exact law_off n (by omega) hv rep hr9
end Go.Proofs.Ytkjlakjihjfjdaa.matrixPlays
