/- The document's vectors: Tick, Take: their contracts. -/
import Derived.Test.YtfcopeecgbgljaaVecRef2
namespace Go.Proofs.Ytfcopeecgbgljaa
open Go.RowKit Go.Proofs.YtfcopeecgbgljaaW.PrintWords Go.Proofs.YtfcopeecgbgljaaW.PrintLast Go.Proofs.YtfcopeecgbgljaaW.PrintMore Pk
set_option linter.unusedVariables false
set_option linter.unusedSimpArgs false

set_option maxHeartbeats 1000000 in
set_option maxRecDepth 100000 in
theorem ref_vecTick_off (v : List Int) (n : Int) (hv : v.length = 8) (hr : repB n = false) (w : World) :
    Calls Try.prog 28 #[.agg (vec v), .int .i64 n] w fun e w' => e = .returned (.tuple #[.agg (vec v), .int .i64 0]) ∧ Below w.heap.size w w' := by
  have H0 := Hd.mk (Holds.start2 w (.cells (vec v) 22) (.cells (vec zero8) 22))
  have S1 := Hd.mk (show (Try.prog.info? 22).map (·.size) = some (vec v).size by rw [vec_size, hv]; exact size_eight)
  have S2 := Hd.mk (show (vec zero8).size = (vec v).size by rw [vec_size, vec_size, hv]; rfl)
  have z8 : ∀ w : World, (zeroValue 22).run Try.prog w = .ok (.agg (vec zero8)) w := fun w => by kernel_rfl
  have hn : n < 0 ∨ (0 ≤ n ∧ 7 < n) := by
    unfold repB at hr
    simp at hr
    by_cases h : 0 ≤ n
    · right; exact ⟨h, by have := hr h; omega⟩
    · left; omega
  clear hv hr
  rcases hn with h | ⟨h, h'⟩
  · go_enter Try.func28, Try.ntmps28
    go_upto_region 1 with (fail)
    clear z8
    generalize (w.alloc (.cells (vec v) 22)).alloc (.cells (vec zero8) 22) = W at *
    go_wp2_with (first | ((with_reducible refine gate_load (t := 22) rfl ?_); refine wpList_load_row rfl _ _ rfl w.heap.size rfl 22 (vec v) (0, 0) _ (H0.out.get 1 rfl) Try.underlying22 rfl S1.out ?_) | ((with_reducible refine gate_store (t := 22) rfl ?_); refine wpList_store_row rfl _ _ _ rfl (w.heap.size + 1) (vec v) rfl rfl 22 (vec zero8) (H0.out.get 0 rfl) S1.out S2.out (vec_one _) ?_))
    exact bodyPost_ret (results_cell_tmp (p := 4) (q := 5) rfl _ _ (w.heap.size + 1) 22 (vec v) (0, 0) _ rfl (setRow_heap _ _ _ _ _ _ (H0.out.get 0 rfl)) Try.underlying22 rfl S1.out) rfl ⟨rfl, below_setRow H0.out.2 (by omega) _⟩
  · go_enter Try.func28, Try.ntmps28
    go_upto_region 1 with (fail)
    clear z8
    generalize (w.alloc (.cells (vec v) 22)).alloc (.cells (vec zero8) 22) = W at *
    go_wp2_with (first | ((with_reducible refine gate_load (t := 22) rfl ?_); refine wpList_load_row rfl _ _ rfl w.heap.size rfl 22 (vec v) (0, 0) _ (H0.out.get 1 rfl) Try.underlying22 rfl S1.out ?_) | ((with_reducible refine gate_store (t := 22) rfl ?_); refine wpList_store_row rfl _ _ _ rfl (w.heap.size + 1) (vec v) rfl rfl 22 (vec zero8) (H0.out.get 0 rfl) S1.out S2.out (vec_one _) ?_))
    exact bodyPost_ret (results_cell_tmp (p := 4) (q := 5) rfl _ _ (w.heap.size + 1) 22 (vec v) (0, 0) _ rfl (setRow_heap _ _ _ _ _ _ (H0.out.get 0 rfl)) Try.underlying22 rfl S1.out) rfl ⟨rfl, below_setRow H0.out.2 (by omega) _⟩

set_option maxHeartbeats 1000000 in
set_option maxRecDepth 100000 in
theorem ref_vecTick (v : List Int) (k : Nat) (hk : k < 8) (hv : v.length = 8) (w : World) :
    Calls Try.prog 28 #[.agg (vec v), .int .i64 (k : Int)] w fun e w' => e = .returned (.tuple #[.agg (vec (upV v k)), .int .i64 (wrap64 (nth v k + 1))]) ∧ Below w.heap.size w w' := by
  have H0 := Hd.mk (Holds.start2 w (.cells (vec v) 22) (.cells (vec zero8) 22))
  have S0 := Hd.mk (show (Try.prog.info? 22).map (·.size) = some (vec v).size by rw [vec_size, hv]; exact size_eight)
  have S3 := Hd.mk (show (vec zero8).size = (vec v).size by rw [vec_size, vec_size, hv]; rfl)
  have S1 := Hd.mk (show (Try.prog.info? 22).map (·.size) = some (vec (upV v k)).size by rw [vec_size, upV_len, hv]; exact size_eight)
  have S2 := Hd.mk (show (vec zero8).size = (vec (upV v k)).size by rw [vec_size, vec_size, upV_len, hv]; rfl)
  have z8 : ∀ w : World, (zeroValue 22).run Try.prog w = .ok (.agg (vec zero8)) w := fun w => by kernel_rfl
  have hn1 : 0 ≤ (k : Int) := by omega
  have hn2 : (k : Int) < 8 := by omega
  have hn3 : (k : Int) ≤ 7 := by omega
  have HX := Hd.mk (vec_at (nth_at hv hk))
  have HU : Hd ((vec v).setIfInBounds k (.int .i64 (wrap64 (nth v k + 1))) = vec (upV v k)) := ⟨vec_set _ _ _⟩
  clear hv
  generalize nth v (k : Int) = x at *
  generalize upV v k = u at *
  go_enter Try.func28, Try.ntmps28
  go_upto_region 1 with (fail)
  generalize (w.alloc (.cells (vec v) 22)).alloc (.cells (vec zero8) 22) = W at *
  have H1n := Hd.mk (H0.out.fresh (.cells (vec zero8) 22))
  have H1 := Hd.mk (H1n.out.set (vec v))
  have F1 := Hd.mk (⟨H1n.out.2.1, fun p hp => Nat.ne_of_lt (H1n.out.2.2 p hp)⟩ : _ ∧ _)
  clear H1n
  go_upto_region 4 with (first | ((with_reducible refine gate_dst (N := 14) rfl ?_); refine wpList_load_row rfl 22 _ rfl w.heap.size rfl 22 (vec v) (0, 0) _ (H0.out.get 1 rfl) Try.underlying22 rfl S0.out ?_) | ((with_reducible refine gate_store (t := 22) rfl ?_); refine wpList_store_row rfl _ _ _ rfl W.heap.size (vec v) rfl rfl 22 (vec zero8) (heap_alloc_new _ _) S0.out S3.out (vec_one _) ?_; generalize (W.alloc (.cells (vec zero8) 22)).setRow W.heap.size (vec v) = W1 at *; generalize W.heap.size = bo at *))
  clear H0 z8
  have hcv : W1.cell? ⟨w.heap.size, k, none⟩ = some (.int .i64 x) := by rw [cell_of_row _ _ k _ _ _ (H1.out.get 2 rfl)]; exact HX.out
  have hcx : W1.cell? ⟨bo, k, none⟩ = some (.int .i64 x) := by rw [cell_of_row _ _ k _ _ _ (H1.out.get 0 rfl)]; exact HX.out
  have hfz : W1.frozen? ⟨bo, k, none⟩ = false := frozen_of_row _ _ k _ _ (H1.out.get 0 rfl)
  have H2 := Hd.mk (Holds_cell H1.out k (.int .i64 (wrap64 (x + 1))) F1.out.1 F1.out.2)
  rw [HU.out] at H2
  go_upto_region 5 with (fail)
  clear H1 hcv hcx hfz
  generalize W1.setCell ⟨bo, k, none⟩ (.int .i64 (wrap64 (x + 1))) = W2 at *
  have hne : bo ≠ w.heap.size + 1 := (F1.out.2 _ List.mem_cons_self).symm
  refine start_ (n := 7) (S := fun W_ => Holds w [(bo, .cells (vec u) 22 (0, 0)), (w.heap.size, .cells (vec v) 22 (0, 0))] W_) (ds := []) #[false, false, false, false, false, false, false] (by kernel_rfl) rfl rfl (⟨fun p hp => H2.out.drew.1 p (by rcases List.mem_cons.1 hp with rfl | hp; exact List.mem_cons_self; exact List.mem_cons_of_mem _ (List.mem_cons_of_mem _ hp)), H2.out.drew.2⟩) (fun hHeld => ?_)
  refine take_ (i := 0) (N := some 21) (v := .agg (vec u)) (a' := ?_) #[true, false, false, false, false, false, false] rfl rfl (by kernel_rfl) (fun _ _ _ h => h) (Or.inl ⟨by rfl, fun w' h => run_load_row 22 _ rfl bo rfl 22 _ _ _ (h.get 0 rfl) Try.underlying22 rfl S1.out⟩) hHeld ?_ ?_
  rotate_left
  · simp only [Act.put, List.setIfInBounds_toArray, List.set_cons_zero, List.set_cons_succ]
    rfl
  refine pure_ (i := 1) (N := some 22) (v := ?_) (a' := ?_) #[true, true, false, false, false, false, false] rfl rfl (by kernel_rfl) (fun _ _ _ h => h) (Or.inl ⟨by rfl, ?_⟩) ?_ ?_
  rotate_left
  · intro w_
    go_simp
    try with_reducible rfl
  rotate_left
  · simp only [Act.put, List.setIfInBounds_toArray, List.set_cons_zero, List.set_cons_succ]
    rfl
  refine pure_ (i := 2) (N := some 23) (v := ?_) (a' := ?_) #[true, true, true, false, false, false, false] rfl rfl (by kernel_rfl) (fun _ _ _ h => h) (Or.inl ⟨by rfl, ?_⟩) ?_ ?_
  rotate_left
  · intro w_
    go_simp
    try with_reducible rfl
  rotate_left
  · simp only [Act.put, List.setIfInBounds_toArray, List.set_cons_zero, List.set_cons_succ]
    rfl
  refine take_ (i := 3) (N := some 24) (v := .int .i64 x) (a' := ?_) #[true, true, true, true, false, false, false] rfl rfl (by kernel_rfl) (fun _ _ _ h => h) (Or.inl ⟨by rfl, fun w' h => by have hc : w'.cell? ⟨w.heap.size, k, none⟩ = some (.int .i64 x) := (by rw [cell_of_row w' _ k _ _ _ (h.get 1 rfl)]; exact HX.out); go_simp⟩) hHeld ?_ ?_
  rotate_left
  · simp only [Act.put, List.setIfInBounds_toArray, List.set_cons_zero, List.set_cons_succ]
    rfl
  refine pure_ (i := 4) (N := some 25) (v := ?_) (a' := ?_) #[true, true, true, true, true, false, false] rfl rfl (by kernel_rfl) (fun _ _ _ h => h) (Or.inl ⟨by rfl, ?_⟩) ?_ ?_
  rotate_left
  · intro w_
    go_simp
    try with_reducible rfl
  rotate_left
  · simp only [Act.put, List.setIfInBounds_toArray, List.set_cons_zero, List.set_cons_succ]
    rfl
  refine one_ (i := 5) (N := none) #[true, true, true, true, true, true, false] rfl rfl (by kernel_rfl) (by decide) (fun K hK => ?_)
  refine skip_ (by rfl) rfl (run_store_row _ _ _ rfl (w.heap.size + 1) (vec u) rfl rfl 22 (vec zero8) (H2.out.drew.get 1 rfl) S1.out S2.out (vec_one _)) ?_
  refine hK.out _ _ (⟨fun p hp => (setRow_other _ _ _ _ (by rcases List.mem_cons.1 hp with rfl | hp; exact hne; obtain rfl := List.mem_singleton.1 hp; simp)).trans (hHeld.1 p hp), below_setRow hHeld.2 (by omega) _⟩) (fun hHeld => ?_)
  clear hK K
  refine pure_ (i := 6) (N := some 5) (v := ?_) (a' := ?_) #[true, true, true, true, true, true, true] rfl rfl (by kernel_rfl) (fun _ _ _ h => h) (Or.inl ⟨by rfl, ?_⟩) ?_ ?_
  rotate_left
  · intro w_
    go_simp
    try with_reducible rfl
  rotate_left
  · simp only [Act.put, List.setIfInBounds_toArray, List.set_cons_zero, List.set_cons_succ]
    rfl
  refine done_ (by kernel_rfl) ?_
  go_wp2_with fail
  exact bodyPost_ret (results_cell_tmp (p := 4) (q := 5) rfl _ _ (w.heap.size + 1) 22 (vec u) (0, 0) _ rfl (setRow_heap _ _ _ _ _ _ (H2.out.drew.get 1 rfl)) Try.underlying22 rfl S1.out) rfl ⟨by first | rfl | (simp [i64_w]; done) | simp [IntKind.wrap_i64, wrap64], hHeld.2⟩

theorem mayV_app (f v : List Int) : mayV (f ++ v) = (mayV f && mayV v) := by unfold mayV; rw [List.all_append]
theorem fin_bad {f : List Int} {x : Int} (h : ¬ (0 ≤ x ∧ x ≤ 1073741824)) (o : Option (List Int × List UInt8)) : fin (f ++ [x]) o = none := by
  cases o with
  | none => rfl
  | some p =>
    obtain ⟨v, q⟩ := p
    have h1 : mayV [x] = false := by unfold mayV; simp; omega
    show (if mayV (f ++ [x] ++ v) = true then some (f ++ [x] ++ v, q) else none) = none
    rw [mayV_app, mayV_app, h1]; simp

set_option maxHeartbeats 2000000 in
set_option maxRecDepth 100000 in
theorem ref_vecTake (s0 : ByteArray) (hs0 : s0.size ≤ 140737488355328) (w : World) :
    Calls Try.prog 29 #[.string s0] w fun e w' => e = .returned (tvV (tkV s0.data.toList)) ∧ Below w.heap.size w w' := by
  have S0 : Hd ((Try.prog.info? 22).map (·.size) = some (vec zero8).size) := ⟨by rw [vec_size]; exact size_eight⟩
  have z8 : ∀ w : World, (zeroValue 22).run Try.prog w = .ok (.agg (vec zero8)) w := fun w => by kernel_rfl
  have K0 := Hd.mk (Holds.start1 w (.cells (vec zero8) 22))
  have HS0 := Hd.mk hs0
  clear hs0
  go_enter Try.func29, Try.ntmps29
  go_upto_region 1 with (fail)
  generalize w.alloc (.cells (vec zero8) 22) = W at *
  have K1n := Hd.mk (K0.out.fresh (.cells (vec zero8) 22))
  have H0 := Hd.mk (K1n.out.set (vec zero8))
  have F1 := Hd.mk (⟨K1n.out.2.1, fun p hp => Nat.ne_of_lt (K1n.out.2.2 p hp)⟩ : _ ∧ _)
  clear K0 K1n
  go_upto_region 2 with (first | ((with_reducible refine gate_store (t := 22) rfl ?_); refine wpList_store_row rfl _ _ _ rfl W.heap.size (vec zero8) rfl rfl 22 (vec zero8) (heap_alloc_new _ _) S0.out rfl (vec_one _) ?_; generalize (W.alloc (.cells (vec zero8) 22)).setRow W.heap.size (vec zero8) = W1 at *; generalize W.heap.size = bo at *))
  go_wp2_with fail
  go_loopg [0, 6] 8 (fun kq v0 v6 w' => ∃ (k : Nat) (s : ByteArray) (d : List Int), k ≤ 8 ∧ v6 = .int .i64 (k : Int) ∧ v0 = .string s ∧ Hd (kq + k = 8) ∧ Hd (s.size ≤ s0.size) ∧ Hd (d.length = 8) ∧ Hd (Holds w [(bo, .cells (vec d) 22 (0, 0)), (w.heap.size, .cells (vec zero8) 22 (0, 0))] w') ∧ Hd (tkV s0.data.toList = fin (d.take k) (tkN (8 - k) s.data.toList)) ∧ Hd (mayV (d.take k) = true))
  case atStart => exact ⟨0, s0, zero8, by omega, rfl, rfl, ⟨rfl⟩, ⟨Nat.le_refl _⟩, ⟨rfl⟩, H0, ⟨rfl⟩, ⟨rfl⟩⟩
  case round =>
    clear H0
    obtain ⟨k, s, d, hk, rfl, rfl, HK, HL, HD, HH, HT, HY⟩ := hrel
    by_cases hlt : k < 8
    · have E1 := ref_TakeInt s (by have := HL.out; have := HS0.out; omega)
      cases hT : tk s.data.toList 0 0 with
      | none =>
        have HV : Hd (tkV s0.data.toList = none) := ⟨by rw [HT.out, show 8 - k = (7 - k) + 1 from by omega]; exact fin_none hT⟩
        rw [hT] at E1
        simp only [tiV] at E1
        have H1 := Hd.mk E1
        clear E1 hT HT HL HD HK HY
        go_wp2_with fail
        refine (H1.out _).mono ?_; rintro e w5 ⟨rfl, h5⟩
        have H5 := Hd.mk (HH.out.call h5)
        clear h5 HH
        go_wp2_with (first | ((with_reducible refine gate_store (t := 22) rfl ?_); refine wpList_store_row rfl _ _ _ rfl w.heap.size (vec zero8) rfl rfl 22 (vec zero8) (H5.out.get 1 rfl) S0.out rfl (vec_one _) ?_))
        exact bodyPost_ret (results_cell_tmp2 (p := 2) (q := 3) (r := 4) rfl _ _ w.heap.size 22 (vec zero8) (0, 0) _ rfl (setRow_heap _ _ _ _ _ _ (H5.out.get 1 rfl)) Try.underlying22 rfl S0.out) rfl ⟨by rw [HV.out]; rfl, below_setRow H5.out.2 (Nat.le_refl _) _⟩
      | some p =>
        obtain ⟨m, r⟩ := p
        have hrl := tk_len _ _ _ _ _ hT
        have hsl : s.data.toList.length = s.size := rfl
        have HL2 : Hd ((⟨r.toArray⟩ : ByteArray).size ≤ s0.size) := ⟨by rw [size_of]; have := HL.out; omega⟩
        have hkd : k < d.length := by rw [HD.out]; exact hlt
        have tk1 : (d.set k (unzig m)).take (k + 1) = d.take k ++ [unzig m] := by
          rw [List.take_add_one, List.getElem?_set_self hkd, List.take_set_of_le (by omega)]; rfl
        have e2 : tkV s0.data.toList = fin (d.take k ++ [unzig m]) (tkN (7 - k) r) := by
          rw [HT.out, show 8 - k = (7 - k) + 1 from by omega, fin_some hT]
        rw [hT] at E1
        simp only [tiV] at E1
        have H1 := Hd.mk E1
        by_cases hr1 : 0 ≤ unzig m
        · by_cases hr2 : unzig m ≤ 1073741824
          · have HT2 : Hd (tkV s0.data.toList = fin ((d.set k (unzig m)).take (k + 1)) (tkN (8 - (k + 1)) (⟨r.toArray⟩ : ByteArray).data.toList)) := ⟨by
              rw [e2, tk1, mk_list, show 8 - (k + 1) = 7 - k from by omega]⟩
            have HY2 : Hd (mayV ((d.set k (unzig m)).take (k + 1)) = true) := ⟨by rw [tk1, mayV_app, HY.out]; unfold mayV; simp [hr1, hr2]⟩
            obtain ⟨z, hz0⟩ : ∃ z, d[k]? = some z := ⟨_, List.getElem?_eq_getElem hkd⟩
            have Z0 := Hd.mk (vec_at hz0)
            have HD2 : Hd ((d.set k (unzig m)).length = 8) := ⟨by rw [List.length_set]; exact HD.out⟩
            have HU : Hd ((vec d).setIfInBounds k (.int .i64 (unzig m)) = vec (d.set k (unzig m))) := ⟨vec_set _ _ _⟩
            have hn1 : 0 ≤ (k : Int) := by omega
            have hn2 : (k : Int) < 8 := by omega
            have g1 : ¬ unzig m < 0 := by omega
            have g2 : ¬ 1073741824 < unzig m := by omega
            have hwz : IntKind.i64.wrap (unzig m) = unzig m := by
              rw [i64_w]; unfold wrap64; omega
            clear E1 hT HT HL HD hrl hsl hz0 tk1 e2 hkd HY
            generalize d.set k (unzig m) = d2 at *
            generalize unzig m = x at *
            generalize (⟨r.toArray⟩ : ByteArray) = s2 at *
            go_wp2_with fail
            refine (H1.out _).mono ?_; rintro e w5 ⟨rfl, h5⟩
            have H5 := Hd.mk (HH.out.call h5)
            clear h5 HH
            have hcx : w5.cell? ⟨bo, k, none⟩ = some (.int .i64 z) := by rw [cell_of_row _ _ k _ _ _ (H5.out.get 0 rfl)]; exact Z0.out
            have hfz : w5.frozen? ⟨bo, k, none⟩ = false := frozen_of_row _ _ k _ _ (H5.out.get 0 rfl)
            go_wp2_with fail
            go_roundg (7 - k)
            case measure => have := HK.out; omega
            case rel => exact ⟨k + 1, s2, d2, by omega, by first | rfl | congr 1, rfl, ⟨by have := HK.out; omega⟩, HL2, HD2, ⟨by rw [← HU.out]; exact Holds_cell H5.out k _ F1.out.1 F1.out.2⟩, HT2, HY2⟩
          · have HV : Hd (tkV s0.data.toList = none) := ⟨by rw [e2]; exact fin_bad (by omega) _⟩
            have g1 : ¬ unzig m < 0 := by omega
            have g2 : 1073741824 < unzig m := by omega
            clear E1 hT HT HL HD HK HY tk1 e2 hkd hrl hsl hr1 hr2 HL2
            generalize unzig m = x at *
            go_wp2_with fail
            refine (H1.out _).mono ?_; rintro e w5 ⟨rfl, h5⟩
            have H5 := Hd.mk (HH.out.call h5)
            clear h5 HH
            go_wp2_with (first | ((with_reducible refine gate_store (t := 22) rfl ?_); refine wpList_store_row rfl _ _ _ rfl w.heap.size (vec zero8) rfl rfl 22 (vec zero8) (H5.out.get 1 rfl) S0.out rfl (vec_one _) ?_))
            exact bodyPost_ret (results_cell_tmp2 (p := 2) (q := 3) (r := 4) rfl _ _ w.heap.size 22 (vec zero8) (0, 0) _ rfl (setRow_heap _ _ _ _ _ _ (H5.out.get 1 rfl)) Try.underlying22 rfl S0.out) rfl ⟨by rw [HV.out]; rfl, below_setRow H5.out.2 (Nat.le_refl _) _⟩
        · have HV : Hd (tkV s0.data.toList = none) := ⟨by rw [e2]; exact fin_bad (by omega) _⟩
          have g1 : unzig m < 0 := by omega
          clear E1 hT HT HL HD HK HY tk1 e2 hkd hrl hsl hr1 HL2
          generalize unzig m = x at *
          go_wp2_with fail
          refine (H1.out _).mono ?_; rintro e w5 ⟨rfl, h5⟩
          have H5 := Hd.mk (HH.out.call h5)
          clear h5 HH
          go_wp2_with (first | ((with_reducible refine gate_store (t := 22) rfl ?_); refine wpList_store_row rfl _ _ _ rfl w.heap.size (vec zero8) rfl rfl 22 (vec zero8) (H5.out.get 1 rfl) S0.out rfl (vec_one _) ?_))
          exact bodyPost_ret (results_cell_tmp2 (p := 2) (q := 3) (r := 4) rfl _ _ w.heap.size 22 (vec zero8) (0, 0) _ rfl (setRow_heap _ _ _ _ _ _ (H5.out.get 1 rfl)) Try.underlying22 rfl S0.out) rfl ⟨by rw [HV.out]; rfl, below_setRow H5.out.2 (Nat.le_refl _) _⟩
    · obtain rfl : k = 8 := by omega
      have hd8 : d.take 8 = d := List.take_of_length_le (by rw [HD.out]; omega)
      have HT3 : Hd (tkV s0.data.toList = some (d, s.data.toList)) := ⟨by
        have hy := HY.out
        rw [hd8] at hy
        rw [HT.out, hd8]
        show (if mayV (d ++ []) = true then some (d ++ [], s.data.toList) else none) = _
        rw [List.append_nil, if_pos hy]⟩
      have S1 := Hd.mk (show (Try.prog.info? 22).map (·.size) = some (vec d).size by rw [vec_size, HD.out]; exact size_eight)
      have S2 := Hd.mk (show (vec zero8).size = (vec d).size by rw [vec_size, vec_size, HD.out]; rfl)
      clear hd8 HT HL HD HK HY
      go_wp2_with (first | ((with_reducible refine gate_dst (N := 36) rfl ?_); refine wpList_load_row rfl 22 _ rfl bo rfl 22 (vec d) (0, 0) _ (HH.out.get 0 rfl) Try.underlying22 rfl S1.out ?_) | ((with_reducible refine gate_store (t := 22) rfl ?_); refine wpList_store_row rfl _ _ _ rfl w.heap.size (vec d) rfl rfl 22 (vec zero8) (HH.out.get 1 rfl) S1.out S2.out (vec_one _) ?_))
      exact bodyPost_ret (results_cell_tmp2 (p := 2) (q := 3) (r := 4) rfl _ _ w.heap.size 22 (vec d) (0, 0) _ rfl (setRow_heap _ _ _ _ _ _ (HH.out.get 1 rfl)) Try.underlying22 rfl S1.out) rfl ⟨by rw [HT3.out]; rfl, below_setRow HH.out.2 (Nat.le_refl _) _⟩
end Go.Proofs.Ytfcopeecgbgljaa
