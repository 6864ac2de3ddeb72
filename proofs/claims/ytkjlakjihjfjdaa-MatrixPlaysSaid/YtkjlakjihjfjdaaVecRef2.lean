/- The document's vectors: Put, Join, Meet: their contracts. -/
import Derived.Test.YtkjlakjihjfjdaaVecRef
import Derived.Test.YtkjlakjihjfjdaaRefAll
namespace Go.Proofs.Ytkjlakjihjfjdaa
open Go.RowKit Go.Proofs.YtkjlakjihjfjdaaW.PrintWords Go.Proofs.YtkjlakjihjfjdaaW.PrintLast Go.Proofs.YtkjlakjihjfjdaaW.PrintMore Pk
set_option linter.unusedVariables false
set_option linter.unusedSimpArgs false

set_option maxHeartbeats 1000000 in
set_option maxRecDepth 100000 in
theorem ref_vecPut (v : List Int) (hv : v.length = 8) (hb : Fits64 v) (w : World) :
    Calls Try.prog 65 #[.agg (vec v)] w fun e w' => e = .returned (.string (putV v)) ∧ Below w.heap.size w w' := by
  have H0 := Hd.mk (Holds.start1 w (.cells (vec v) 34))
  have HV := Hd.mk hv
  have HB := Hd.mk hb
  clear hv hb
  go_enter Try.func65, Try.ntmps65
  go_upto_region 1 with (fail)
  generalize w.alloc (.cells (vec v) 34) = W at *
  go_wp2_with fail
  go_loopg [3, 4] 8 (fun kq v3 v4 w' => ∃ (k : Nat) (s : ByteArray), k ≤ 8 ∧ v4 = .int .i64 (k : Int) ∧ v3 = .string s ∧ Hd (kq + k = 8) ∧ Hd (Holds w [(w.heap.size, .cells (vec v) 34 (0, 0))] w') ∧ Hd (s = putV (v.take k)))
  case atStart => exact ⟨0, ⟨#[]⟩, by omega, rfl, rfl, ⟨rfl⟩, H0, ⟨rfl⟩⟩
  case round =>
    clear H0
    obtain ⟨k, s, hk, rfl, rfl, HK, HL, HS⟩ := hrel
    by_cases hlt : k < 8
    · obtain ⟨x, hx⟩ := at8 HV.out hlt
      have hcx : wr.cell? ⟨w.heap.size, k, none⟩ = some (.int .i64 x) := by rw [cell_of_row _ _ k _ _ _ (HL.out.get 0 rfl)]; exact vec_at hx
      have hxb := HB.out x (List.mem_of_getElem? hx)
      have H1 := Hd.mk (ref_Int x hxb.1 hxb.2)
      have HM := Hd.mk (putV_more hx)
      rw [← HS.out] at HM
      have z1 := num_size (zig_lt hxb.1 hxb.2)
      have z2 : s.size ≤ 80 := by
        rw [HS.out]
        have := putV_size (v.take k) (fun y hy => HB.out y (List.mem_of_mem_take hy))
        rw [List.length_take] at this; omega
      have hn1 : 0 ≤ (k : Int) := by omega
      have hn2 : (k : Int) < 8 := by omega
      generalize strOfNums (num (zig x)) = t at *
      have z3 : s.size + t.size ≤ 9223372036854775807 := by omega
      clear hx hxb z1 z2
      go_wp2_with fail
      refine (H1.out _).mono ?_; rintro e w5 ⟨rfl, h5⟩
      have HL5 := Hd.mk (HL.out.call h5)
      clear h5 HL
      go_wp2_with fail
      go_roundg (7 - k)
      case measure => have := HK.out; omega
      case rel => exact ⟨k + 1, _, by omega, by first | rfl | congr 1, rfl, ⟨by have := HK.out; omega⟩, HL5, HM⟩
    · obtain rfl : k = 8 := by omega
      have HE : Hd (s = putV v) := ⟨by rw [HS.out, List.take_of_length_le (by rw [HV.out]; omega)]⟩
      go_wp2_with fail
      go_ret
      exact ⟨by rw [← HE.out]; rfl, HL.out.2⟩


set_option maxHeartbeats 2000000 in
set_option maxRecDepth 100000 in
theorem ref_vecJoin (a b : List Int) (ha : a.length = 8) (hb : b.length = 8) (w : World) :
    Calls Try.prog 55 #[.agg (vec a), .agg (vec b)] w fun e w' => e = .returned (.agg (vec (joinL a b))) ∧ Below w.heap.size w w' := by
  have H0 := Hd.mk (Holds.start3 w (.cells (vec a) 34) (.cells (vec b) 34) (.cells (vec zero8) 34))
  have HA := Hd.mk (⟨ha, hb⟩ : _ ∧ _)
  have S1 := Hd.mk (show (Try.prog.info? 34).map (·.size) = some (vec a).size by rw [vec_size, ha]; exact size_eight)
  have S2 := Hd.mk (show (vec zero8).size = (vec a).size by rw [vec_size, vec_size, ha]; rfl)
  have z8 : ∀ w : World, (zeroValue 34).run Try.prog w = .ok (.agg (vec zero8)) w := fun w => by kernel_rfl
  clear ha hb
  go_enter Try.func55, Try.ntmps55
  go_upto_region 1 with (fail)
  generalize ((w.alloc (.cells (vec a) 34)).alloc (.cells (vec b) 34)).alloc (.cells (vec zero8) 34) = W at *
  have H1n := Hd.mk (H0.out.fresh (.cells (vec zero8) 34))
  have H1 := Hd.mk (H1n.out.set (vec a))
  have F1 := Hd.mk (⟨H1n.out.2.1, fun p hp => Nat.ne_of_lt (H1n.out.2.2 p hp)⟩ : _ ∧ _)
  clear H1n
  go_upto_region 2 with (first | ((with_reducible refine gate_dst (N := 7) rfl ?_); refine wpList_load_row rfl 34 _ rfl w.heap.size rfl 34 (vec a) (0, 0) _ (H0.out.get 2 rfl) Try.underlying34 rfl S1.out ?_) | ((with_reducible refine gate_store (t := 34) rfl ?_); refine wpList_store_row rfl _ _ _ rfl W.heap.size (vec a) rfl rfl 34 (vec zero8) (heap_alloc_new _ _) S1.out S2.out (vec_one _) ?_; generalize (W.alloc (.cells (vec zero8) 34)).setRow W.heap.size (vec a) = W1 at *; generalize W.heap.size = bo at *))
  clear H0 z8
  go_wp2_with fail
  go_loopg [6] 8 (fun kq v6 w' => ∃ k : Nat, k ≤ 8 ∧ v6 = .int .i64 (k : Int) ∧ Hd (kq + k = 8) ∧ Hd (Holds w [(bo, .cells (vec (mixL mx a b k)) 34 (0, 0)), (w.heap.size + 1 + 1, .cells (vec zero8) 34 (0, 0)), (w.heap.size + 1, .cells (vec b) 34 (0, 0)), (w.heap.size, .cells (vec a) 34 (0, 0))] w'))
  case atStart => exact ⟨0, by omega, rfl, ⟨rfl⟩, ⟨by rw [mixL_zero]; exact H1.out⟩⟩
  case round =>
    clear H1
    obtain ⟨k, hk, rfl, HK, HB⟩ := hrel
    by_cases hlt : k < 8
    · obtain ⟨x, hx⟩ := at8 HA.out.1 hlt
      obtain ⟨y, hy⟩ := at8 HA.out.2 hlt
      have X := Hd.mk (vec_at hx)
      have Y := Hd.mk (vec_at hy)
      have X2 := Hd.mk (vec_at (show (mixL mx a b k)[k]? = some x by rw [mixL_at HA.out.1 HA.out.2 hlt]; exact hx))
      have HS := Hd.mk (mixL_set (f := mx) HA.out.1 HA.out.2 hlt hx hy)
      have hn1 : 0 ≤ (k : Int) := by omega
      have hn2 : (k : Int) < 8 := by omega
      have hm := Hd.mk (mx_def x y)
      clear hx hy
      go_upto_region 5 with (fail)
      refine start_ (n := 7) (S := fun W_ => Holds w [(bo, .cells (vec (mixL mx a b k)) 34 (0, 0)), (w.heap.size + 1 + 1, .cells (vec zero8) 34 (0, 0)), (w.heap.size + 1, .cells (vec b) 34 (0, 0)), (w.heap.size, .cells (vec a) 34 (0, 0))] W_) (ds := []) #[false, false, false, false, false, false, false] (by kernel_rfl) rfl rfl (HB.out.drew) (fun hHeld => ?_)
      refine pure_ (i := 0) (N := some 12) (v := ?_) (a' := ?_) #[true, false, false, false, false, false, false] rfl rfl (by kernel_rfl) (fun _ _ _ h => h) (Or.inl ⟨by rfl, ?_⟩) ?_ ?_
      rotate_left
      · intro w_
        go_simp
        try with_reducible rfl
      rotate_left
      · simp only [Act.put, List.setIfInBounds_toArray, List.set_cons_zero, List.set_cons_succ]
        rfl
      refine pure_ (i := 1) (N := some 13) (v := ?_) (a' := ?_) #[true, true, false, false, false, false, false] rfl rfl (by kernel_rfl) (fun _ _ _ h => h) (Or.inl ⟨by rfl, ?_⟩) ?_ ?_
      rotate_left
      · intro w_
        go_simp
        try with_reducible rfl
      rotate_left
      · simp only [Act.put, List.setIfInBounds_toArray, List.set_cons_zero, List.set_cons_succ]
        rfl
      refine take_ (i := 2) (N := some 14) (v := .int .i64 y) (a' := ?_) #[true, true, true, false, false, false, false] rfl rfl (by kernel_rfl) (fun _ _ _ h => h) (Or.inl ⟨by rfl, fun w' h => by have hc : w'.cell? ⟨w.heap.size + 1, k, none⟩ = some (.int .i64 y) := (by rw [cell_of_row w' _ k _ _ _ (h.get 2 rfl)]; exact Y.out); go_simp⟩) hHeld ?_ ?_
      rotate_left
      · simp only [Act.put, List.setIfInBounds_toArray, List.set_cons_zero, List.set_cons_succ]
        rfl
      refine pure_ (i := 3) (N := some 15) (v := ?_) (a' := ?_) #[true, true, true, true, false, false, false] rfl rfl (by kernel_rfl) (fun _ _ _ h => h) (Or.inl ⟨by rfl, ?_⟩) ?_ ?_
      rotate_left
      · intro w_
        go_simp
        try with_reducible rfl
      rotate_left
      · simp only [Act.put, List.setIfInBounds_toArray, List.set_cons_zero, List.set_cons_succ]
        rfl
      refine pure_ (i := 4) (N := some 16) (v := ?_) (a' := ?_) #[true, true, true, true, true, false, false] rfl rfl (by kernel_rfl) (fun _ _ _ h => h) (Or.inl ⟨by rfl, ?_⟩) ?_ ?_
      rotate_left
      · intro w_
        go_simp
        try with_reducible rfl
      rotate_left
      · simp only [Act.put, List.setIfInBounds_toArray, List.set_cons_zero, List.set_cons_succ]
        rfl
      refine take_ (i := 5) (N := some 17) (v := .int .i64 x) (a' := ?_) #[true, true, true, true, true, true, false] rfl rfl (by kernel_rfl) (fun _ _ _ h => h) (Or.inl ⟨by rfl, fun w' h => by have hc : w'.cell? ⟨w.heap.size, k, none⟩ = some (.int .i64 x) := (by rw [cell_of_row w' _ k _ _ _ (h.get 3 rfl)]; exact X.out); go_simp⟩) hHeld ?_ ?_
      rotate_left
      · simp only [Act.put, List.setIfInBounds_toArray, List.set_cons_zero, List.set_cons_succ]
        rfl
      refine pure_ (i := 6) (N := some 18) (v := ?_) (a' := ?_) #[true, true, true, true, true, true, true] rfl rfl (by kernel_rfl) (fun _ _ _ h => h) (Or.inl ⟨by rfl, ?_⟩) ?_ ?_
      rotate_left
      · intro w_
        go_simp
        try with_reducible rfl
      rotate_left
      · simp only [Act.put, List.setIfInBounds_toArray, List.set_cons_zero, List.set_cons_succ]
        rfl
      refine done_ (by kernel_rfl) ?_
      have HB2 := Hd.mk hHeld
      clear hHeld HB
      by_cases h : x < y
      · have HM : Hd (mx x y = y) := ⟨by rw [hm.out]; omega⟩
        have hcy : wr.drew.cell? ⟨w.heap.size + 1, k, none⟩ = some (.int .i64 y) := by rw [cell_of_row _ _ k _ _ _ (HB2.out.get 2 rfl)]; exact Y.out
        have hcx : wr.drew.cell? ⟨bo, k, none⟩ = some (.int .i64 x) := by rw [cell_of_row _ _ k _ _ _ (HB2.out.get 0 rfl)]; exact X2.out
        have hfz : wr.drew.frozen? ⟨bo, k, none⟩ = false := frozen_of_row _ _ k _ _ (HB2.out.get 0 rfl)
        generalize wr.drew = wz at *
        go_wp2_with fail
        go_roundg (7 - k)
        case measure => have := HK.out; omega
        case rel => exact ⟨k + 1, by omega, by first | rfl | congr 1, ⟨by have := HK.out; omega⟩, ⟨by rw [← HS.out, HM.out, ← vec_set]; exact Holds_cell HB2.out k _ F1.out.1 F1.out.2⟩⟩
      · have HM : Hd (mixL mx a b (k + 1) = mixL mx a b k) := ⟨by
          have e : mx x y = x := by rw [hm.out]; omega
          rw [← HS.out, e]
          apply List.ext_getElem?
          intro i
          rw [List.getElem?_set]
          split
          · next e2 =>
            subst e2
            split
            · next h8 =>
              have h9 := X2.out
              simp [vec] at h9
              rw [h9]
            · next h8 => rw [List.getElem?_eq_none (by omega)]
          · rfl⟩
        have h' : y ≤ x := by omega
        go_wp2_with fail
        go_roundg (7 - k)
        case measure => have := HK.out; omega
        case rel => exact ⟨k + 1, by omega, by first | rfl | congr 1, ⟨by have := HK.out; omega⟩, ⟨by rw [HM.out]; exact HB2.out⟩⟩
    · obtain rfl : k = 8 := by omega
      have hmf := mixL_full (f := mx) HA.out.1 HA.out.2
      have hl := bothL_len (f := mx) HA.out.1 HA.out.2
      rw [hmf] at HB
      have S3 := Hd.mk (show (Try.prog.info? 34).map (·.size) = some (vec (bothL mx a b)).size by rw [vec_size, hl]; exact size_eight)
      have S4 := Hd.mk (show (vec zero8).size = (vec (bothL mx a b)).size by rw [vec_size, vec_size, hl]; rfl)
      clear hmf hl
      go_wp2_with (first | ((with_reducible refine gate_dst (N := 24) rfl ?_); refine wpList_load_row rfl 34 _ rfl bo rfl 34 (vec (bothL mx a b)) (0, 0) _ (HB.out.get 0 rfl) Try.underlying34 rfl S3.out ?_) | ((with_reducible refine gate_store (t := 34) rfl ?_); refine wpList_store_row rfl _ _ _ rfl (w.heap.size + 1 + 1) (vec (bothL mx a b)) rfl rfl 34 (vec zero8) (HB.out.get 1 rfl) S3.out S4.out (vec_one _) ?_))
      exact bodyPost_ret (v := .agg (vec (joinL a b))) (results_cell_row (p := 4) rfl _ _ (w.heap.size + 1 + 1) 34 (vec (bothL mx a b)) (0, 0) _ rfl (setRow_heap _ _ _ _ _ _ (HB.out.get 1 rfl)) Try.underlying34 rfl S3.out) rfl ⟨rfl, below_setRow HB.out.2 (by omega) _⟩

end Go.Proofs.Ytkjlakjihjfjdaa
