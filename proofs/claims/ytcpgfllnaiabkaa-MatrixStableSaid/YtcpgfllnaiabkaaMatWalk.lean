/- matrix: MayRow, Merge, in, New, Row: their contracts; made, same. -/
import Derived.Test.YtcpgfllnaiabkaaMatPlain
import Derived.Test.YtcpgfllnaiabkaaVecMay
namespace Go.Proofs.Ytcpgfllnaiabkaa
open Go.RowKit Go.Proofs.YtcpgfllnaiabkaaW.PrintWords Go.Proofs.YtcpgfllnaiabkaaW.PrintLast Go.Proofs.YtcpgfllnaiabkaaW.PrintMore
attribute [local go_sem] max2_int min2_int max_two min_two
set_option linter.unusedVariables false
set_option linter.unusedSimpArgs false

theorem layL_full {C r : List Int} (h : r.length = C.length) : layL C 0 r = r := by
  unfold layL
  rw [List.take_zero, List.nil_append, Nat.zero_add, List.drop_eq_nil_of_le (by omega), List.append_nil]
theorem below_setCells {n b : Nat} {a w : World} (h : Below n a w) (hb : n ≤ b) (o : Nat) (vs : List Value) : Below n a (w.setCells b o vs) := by
  obtain ⟨h1, h2, h3, h4, h5⟩ := setCells_keep b vs o w
  exact h.trans ⟨h1, h2, h3, Nat.le_of_eq h4.symm, fun k hk => h5 k (by omega)⟩
theorem mayV_row (s : List Int) (t : Int) : mayV (s ++ [t]) = (mayV s && (decide (0 ≤ t) && decide (t ≤ 1073741824))) := by
  unfold mayV; simp
theorem app_at {s : List Int} (hs : s.length = 8) (t : Int) : (vec (s ++ [t]))[8]? = some (.int .i64 t) := vec_at (by rw [List.getElem?_append_right (by omega), hs]; rfl)
theorem app_take {s : List Int} (hs : s.length = 8) (t : Int) : ((s ++ [t]).drop 0).take 8 = s := by rw [List.drop_zero, ← hs, List.take_left]
theorem app_len {s : List Int} (hs : s.length = 8) (t : Int) : (s ++ [t]).length = 9 := by simp [hs]

set_option maxHeartbeats 1000000 in
set_option maxRecDepth 100000 in
theorem row_May (r : List Int) (hr : r.length = 9) (w : World) :
    Calls Try.prog 26 #[.agg (vec r)] w fun e w' => e = .returned (.bool (mayV r)) ∧ Below w.heap.size w w' := by
  obtain ⟨s, t, hs, rfl⟩ := nine hr
  rw [mayV_row]
  have H0 := Hd.mk (Holds.start1 w (.cells (vec (s ++ [t])) 38))
  have HM := Hd.mk (vec_May s hs)
  have HA := Hd.mk (app_at hs t)
  have HT := Hd.mk (app_take hs t)
  have HL := Hd.mk (app_len hs t)
  clear hr hs
  generalize mayV s = q at *
  go_enter Try.func26, Try.ntmps26
  go_upto_region 1 with (fail)
  generalize w.alloc (.cells (vec (s ++ [t])) 38) = W at *
  go_wp2_with (first | ((with_reducible refine gate_load (t := 27) rfl ?_); refine wpList_load_vec rfl _ _ rfl w.heap.size 0 8 rfl (s ++ [t]) 38 (0, 0) (H0.out.get 0 rfl) _ Try.underlying27 rfl size_vec (by rw [HL.out]; omega) ?_; simp only [HT.out]))
  refine (HM.out _).mono ?_; rintro e w1 ⟨rfl, h1⟩
  have H1 := Hd.mk (H0.out.call h1)
  have hc : w1.cell? ⟨w.heap.size, 8, none⟩ = some (.int .i64 t) := by rw [cell_of_row w1 _ 8 _ _ _ (H1.out.get 0 rfl)]; exact HA.out
  clear H0 h1
  cases q with
  | false =>
    go_wp2_with fail
    go_ret
    exact ⟨rfl, H1.out.2⟩
  | true =>
    by_cases h0 : 0 ≤ t
    · by_cases h1 : t ≤ 1073741824
      · go_wp2_with fail
        go_ret
        exact ⟨by first | rfl | simp [h0, h1], H1.out.2⟩
      · go_wp2_with fail
        go_ret
        exact ⟨by first | rfl | simp [h0, h1], H1.out.2⟩
    · go_wp2_with fail
      go_ret
      exact ⟨by first | rfl | (simp [h0]; done) | (simp; omega), H1.out.2⟩

theorem bothL_app {f : Int → Int → Int} {s u : List Int} (hs : s.length = 8) (hu : u.length = 8) (x y : Int) : bothL f (s ++ [x]) (u ++ [y]) = bothL f s u ++ [f x y] := by
  unfold bothL
  rw [List.zipWith_append (by omega)]; rfl
theorem mx_eq (x y : Int) : (if x < y then y else x) = mx x y := rfl
set_option maxHeartbeats 1000000 in
set_option maxRecDepth 100000 in
theorem row_Merge (a b : List Int) (ha : a.length = 9) (hb : b.length = 9) (w : World) :
    Calls Try.prog 13 #[.agg (vec a), .agg (vec b)] w fun e w' => e = .returned (.agg (vec (joinL a b))) ∧ Below w.heap.size w w' := by
  obtain ⟨s, x, hs, rfl⟩ := nine ha
  obtain ⟨u, y, hu, rfl⟩ := nine hb
  have hz := zeroRow
  have H0 := Hd.mk (Holds.start3 w (.cells (vec (s ++ [x])) 38) (.cells (vec (u ++ [y])) 38) (.cells (vec zero9) 38))
  have HJ := Hd.mk (vec_Join s u hs hu)
  have HX := Hd.mk (app_at hs x)
  have HY := Hd.mk (app_at hu y)
  have HTs := Hd.mk (app_take hs x)
  have HTu := Hd.mk (app_take hu y)
  have HLs := Hd.mk (app_len hs x)
  have HLu := Hd.mk (app_len hu y)
  have HBL : Hd ((joinL s u).length = 8) := ⟨bothL_len hs hu⟩
  have HBR := Hd.mk (build_row (s := joinL s u) HBL.out (mx x y))
  have e : joinL (s ++ [x]) (u ++ [y]) = joinL s u ++ [mx x y] := bothL_app hs hu x y
  rw [e]
  have HL9 : Hd ((joinL s u ++ [mx x y]).length = 9) := ⟨app_len HBL.out _⟩
  clear e ha hb hs hu
  generalize joinL s u = j at *
  go_enter Try.func13, Try.ntmps13
  go_upto_region 1 with (fail)
  clear hz
  generalize ((w.alloc (.cells (vec (s ++ [x])) 38)).alloc (.cells (vec (u ++ [y])) 38)).alloc (.cells (vec zero9) 38) = W at *
  refine start_ (n := 12) (S := fun W_ => Holds w [(w.heap.size + 1 + 1, .cells (vec zero9) 38 (0, 0)), (w.heap.size + 1, .cells (vec (u ++ [y])) 38 (0, 0)), (w.heap.size, .cells (vec (s ++ [x])) 38 (0, 0))] W_) (ds := [11]) #[false, false, false, false, false, false, false, false, false, false, false, false] (by kernel_rfl) rfl rfl (H0.out.drew) (fun hHeld => ?_)
  refine pure_ (i := 0) (N := some 5) (v := ?_) (a' := ?_) #[true, false, false, false, false, false, false, false, false, false, false, false] rfl rfl (by kernel_rfl) (fun _ _ _ h => h) (Or.inl ⟨by rfl, ?_⟩) ?_ ?_
  rotate_left
  · intro w_
    go_simp
    try with_reducible rfl
  rotate_left
  · simp only [Act.put, List.setIfInBounds_toArray, List.set_cons_zero, List.set_cons_succ]
    rfl
  refine take_ (i := 1) (N := some 6) (v := .agg (vec s)) (a' := ?_) #[true, true, false, false, false, false, false, false, false, false, false, false] rfl rfl (by kernel_rfl) (fun _ _ _ h => h) (Or.inl ⟨by rfl, fun w' h => by rw [← HTs.out]; exact run_load_vec 27 _ rfl w.heap.size 0 8 rfl (s ++ [x]) 38 (0, 0) (h.get 2 rfl) _ Try.underlying27 rfl size_vec (by rw [HLs.out]; omega)⟩) hHeld ?_ ?_
  rotate_left
  · simp only [Act.put, List.setIfInBounds_toArray, List.set_cons_zero, List.set_cons_succ]
    rfl
  refine pure_ (i := 2) (N := some 7) (v := ?_) (a' := ?_) #[true, true, true, false, false, false, false, false, false, false, false, false] rfl rfl (by kernel_rfl) (fun _ _ _ h => h) (Or.inl ⟨by rfl, ?_⟩) ?_ ?_
  rotate_left
  · intro w_
    go_simp
    try with_reducible rfl
  rotate_left
  · simp only [Act.put, List.setIfInBounds_toArray, List.set_cons_zero, List.set_cons_succ]
    rfl
  refine take_ (i := 3) (N := some 8) (v := .agg (vec u)) (a' := ?_) #[true, true, true, true, false, false, false, false, false, false, false, false] rfl rfl (by kernel_rfl) (fun _ _ _ h => h) (Or.inl ⟨by rfl, fun w' h => by rw [← HTu.out]; exact run_load_vec 27 _ rfl (w.heap.size + 1) 0 8 rfl (u ++ [y]) 38 (0, 0) (h.get 1 rfl) _ Try.underlying27 rfl size_vec (by rw [HLu.out]; omega)⟩) hHeld ?_ ?_
  rotate_left
  · simp only [Act.put, List.setIfInBounds_toArray, List.set_cons_zero, List.set_cons_succ]
    rfl
  refine pure_ (i := 5) (N := some 10) (v := ?_) (a' := ?_) #[true, true, true, true, false, true, false, false, false, false, false, false] rfl rfl (by kernel_rfl) (fun _ _ _ h => h) (Or.inl ⟨by rfl, ?_⟩) ?_ ?_
  rotate_left
  · intro w_
    go_simp
    try with_reducible rfl
  rotate_left
  · simp only [Act.put, List.setIfInBounds_toArray, List.set_cons_zero, List.set_cons_succ]
    rfl
  refine take_ (i := 6) (N := some 11) (v := .int .i64 x) (a' := ?_) #[true, true, true, true, false, true, true, false, false, false, false, false] rfl rfl (by kernel_rfl) (fun _ _ _ h => h) (Or.inl ⟨by rfl, fun w' h => by have hc : w'.cell? ⟨w.heap.size, 8, none⟩ = some (.int .i64 x) := (by rw [cell_of_row w' _ 8 _ _ _ (h.get 2 rfl)]; exact HX.out); go_simp⟩) hHeld ?_ ?_
  rotate_left
  · simp only [Act.put, List.setIfInBounds_toArray, List.set_cons_zero, List.set_cons_succ]
    rfl
  refine pure_ (i := 7) (N := some 12) (v := ?_) (a' := ?_) #[true, true, true, true, false, true, true, true, false, false, false, false] rfl rfl (by kernel_rfl) (fun _ _ _ h => h) (Or.inl ⟨by rfl, ?_⟩) ?_ ?_
  rotate_left
  · intro w_
    go_simp
    try with_reducible rfl
  rotate_left
  · simp only [Act.put, List.setIfInBounds_toArray, List.set_cons_zero, List.set_cons_succ]
    rfl
  refine take_ (i := 8) (N := some 13) (v := .int .i64 y) (a' := ?_) #[true, true, true, true, false, true, true, true, true, false, false, false] rfl rfl (by kernel_rfl) (fun _ _ _ h => h) (Or.inl ⟨by rfl, fun w' h => by have hc : w'.cell? ⟨w.heap.size + 1, 8, none⟩ = some (.int .i64 y) := (by rw [cell_of_row w' _ 8 _ _ _ (h.get 1 rfl)]; exact HY.out); go_simp⟩) hHeld ?_ ?_
  rotate_left
  · simp only [Act.put, List.setIfInBounds_toArray, List.set_cons_zero, List.set_cons_succ]
    rfl
  refine take_ (i := 9) (N := some 14) (v := .int .i64 (mx x y)) (a' := ?_) #[true, true, true, true, false, true, true, true, true, true, false, false] rfl rfl (by kernel_rfl) (fun _ _ _ h => h) (Or.inl ⟨by rfl, fun w' h => by unfold mx; go_simp⟩) hHeld ?_ ?_
  rotate_left
  · simp only [Act.put, List.setIfInBounds_toArray, List.set_cons_zero, List.set_cons_succ]
    rfl
  refine one_ (i := 4) (N := some 9) #[true, true, true, true, true, true, true, true, true, true, false, false] rfl rfl (by kernel_rfl) (by decide) (fun K hK => ?_)
  refine goes_ Try.func11 (by kernel_rfl) rfl #[.agg (vec s), .agg (vec u)] (by rfl) rfl rfl (by (try simp only [List.map_toArray, List.map_cons, List.map_nil]); first | done | rfl) ?_
  (with_reducible refine (HJ.out _).mono ?_)
  rintro e wr1 ⟨rfl, hr1⟩
  refine ⟨_, rfl, ?_⟩
  refine hK.out _ _ (hHeld.call hr1) (fun hHeld => ?_)
  clear hK K
  refine norm_ (a' := ?_) ?_ ?_
  rotate_left
  · show Act.put _ (some 9) _ = _
    simp only [Act.put, List.setIfInBounds_toArray, List.set_cons_zero, List.set_cons_succ]
    rfl
  refine take_ (i := 10) (N := some 15) (v := .agg (vec (j ++ [mx x y]))) (a' := ?_) #[true, true, true, true, true, true, true, true, true, true, true, false] rfl rfl (by kernel_rfl) (fun _ _ _ h => h) (Or.inl ⟨by rfl, fun w' h => by have hb := HBR.out w'; unfold execOp; simp only [Act.eval]; simp [hb]⟩) hHeld ?_ ?_
  rotate_left
  · simp only [Act.put, List.setIfInBounds_toArray, List.set_cons_zero, List.set_cons_succ]
    rfl
  refine last_ (i := 11) (N := none) #[true, true, true, true, true, true, true, true, true, true, true, true] rfl rfl (by kernel_rfl) (by decide) (fun K hK => ?_)
  refine skip_ (by rfl) rfl (run_store_vec 38 _ _ rfl (w.heap.size + 1 + 1) 0 (j ++ [mx x y]) rfl rfl zero9 38 (hHeld.get 0 rfl) (by rw [HL9.out]; exact size_row) (by rw [HL9.out]; exact Nat.le_refl _)) ?_
  refine hK.out _ _ ?_
  clear hK K
  refine done_ (by kernel_rfl) ?_
  go_wp2_with fail
  exact bodyPost_ret (results_cell_row (p := 4) rfl _ _ (w.heap.size + 1 + 1) 38 (vec (j ++ [mx x y])) (0, 0) _ rfl (by rw [setCells_vec _ _ _ _ _ (hHeld.get 0 rfl) (by rw [HL9.out]; exact Nat.le_refl _), layL_full (by rw [HL9.out]; rfl)]) Try.underlying38 rfl (by rw [vec_size, HL9.out]; exact size_row)) rfl ⟨rfl, below_setCells hHeld.2 (by omega) _ _⟩
end Go.Proofs.Ytcpgfllnaiabkaa
