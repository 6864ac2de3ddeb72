/- The document's vectors: May, Covers: their contracts. -/
import Derived.Test.YtfcopeecgbgljaaVecTake
import Derived.Test.YtfcopeecgbgljaaVecLaw
import Derived.Test.YtfcopeecgbgljaaVecOpen
namespace Go.Proofs.Ytfcopeecgbgljaa
open Go.RowKit Go.Proofs.YtfcopeecgbgljaaW.PrintWords Go.Proofs.YtfcopeecgbgljaaW.PrintLast Go.Proofs.YtfcopeecgbgljaaW.PrintMore
set_option linter.unusedVariables false
set_option linter.unusedSimpArgs false

set_option maxHeartbeats 1000000 in
set_option maxRecDepth 100000 in
theorem ref_vecMay (v : List Int) (hv : v.length = 8) (w : World) :
    Calls Try.prog 30 #[.agg (vec v)] w fun e w' => e = .returned (.bool (mayV v)) ∧ Below w.heap.size w w' := by
  have H0 := Hd.mk (Holds.start1 w (.cells (vec v) 22))
  have HV := Hd.mk hv
  clear hv
  go_enter Try.func30, Try.ntmps30
  go_upto_region 1 with (fail)
  generalize w.alloc (.cells (vec v) 22) = W at *
  go_wp2_with fail
  go_loopg [3] 8 (fun kq v3 w' => ∃ k : Nat, k ≤ 8 ∧ v3 = .int .i64 (k : Int) ∧ Hd (kq + k = 8) ∧ Hd (Holds w [(w.heap.size, .cells (vec v) 22 (0, 0))] w') ∧ Hd (mayV (v.drop k) = mayV v))
  case atStart => exact ⟨0, by omega, rfl, ⟨rfl⟩, H0, ⟨rfl⟩⟩
  case round =>
    clear H0
    obtain ⟨k, hk, rfl, HK, HB, HM⟩ := hrel
    by_cases hlt : k < 8
    · obtain ⟨x, hx⟩ : ∃ x, v[k]? = some x := ⟨_, List.getElem?_eq_getElem (by rw [HV.out]; exact hlt)⟩
      have hcx : wr.cell? ⟨w.heap.size, k, none⟩ = some (.int .i64 x) := by rw [cell_of_row _ _ k _ _ _ (HB.out.get 0 rfl)]; exact vec_at hx
      have hd : v.drop k = x :: v.drop (k + 1) := by
        have h1 : k < v.length := by rw [HV.out]; exact hlt
        rw [List.drop_eq_getElem_cons h1]
        rw [List.getElem?_eq_getElem h1] at hx
        rw [Option.some.inj hx]
      have hm : mayV v = ((decide (0 ≤ x) && decide (x ≤ 1073741824)) && mayV (v.drop (k + 1))) := by rw [← HM.out, hd, mayV_cons]
      have HN := Hd.mk hm
      have hn1 : 0 ≤ (k : Int) := by omega
      have hn2 : (k : Int) < 8 := by omega
      clear hx hd hm
      by_cases h0 : 0 ≤ x
      · have g0 : ¬ x < 0 := by omega
        by_cases h1 : x ≤ 1073741824
        · have g1 : ¬ 1073741824 < x := by omega
          have HQ := Hd.mk (show mayV (v.drop (k + 1)) = mayV v by rw [HN.out]; simp [h0, h1])
          clear HN
          go_wp2_with fail
          go_roundg (7 - k)
          case measure => have := HK.out; omega
          case rel => exact ⟨k + 1, by omega, by first | rfl | congr 1, ⟨by have := HK.out; omega⟩, HB, HQ⟩
        · have g1 : 1073741824 < x := by omega
          have HQ := Hd.mk (show mayV v = false by rw [HN.out]; simp [h0, h1])
          clear HN
          go_wp2_with fail
          go_ret
          exact ⟨by rw [HQ.out]; rfl, HB.out.2⟩
      · have g0 : x < 0 := by omega
        have HQ := Hd.mk (show mayV v = false by rw [HN.out]; simp [h0])
        clear HN
        go_wp2_with fail
        go_ret
        exact ⟨by rw [HQ.out]; rfl, HB.out.2⟩
    · obtain rfl : k = 8 := by omega
      have HQ := Hd.mk (show mayV v = true by rw [← HM.out, List.drop_eq_nil_of_le (by rw [HV.out]; omega)]; rfl)
      go_wp2_with fail
      go_ret
      exact ⟨by rw [HQ.out]; rfl, HB.out.2⟩

set_option maxHeartbeats 1000000 in
set_option maxRecDepth 100000 in
theorem ref_vecCovers (a b : List Int) (ha : a.length = 8) (hb : b.length = 8) (w : World) :
    Calls Try.prog 31 #[.agg (vec a), .agg (vec b)] w fun e w' => e = .returned (.bool (covL a b)) ∧ Below w.heap.size w w' := by
  have H0 := Hd.mk (Holds.start2 w (.cells (vec a) 22) (.cells (vec b) 22))
  have HA := Hd.mk (⟨ha, hb⟩ : _ ∧ _)
  clear ha hb
  go_enter Try.func31, Try.ntmps31
  go_upto_region 1 with (fail)
  generalize (w.alloc (.cells (vec a) 22)).alloc (.cells (vec b) 22) = W at *
  go_wp2_with fail
  go_loopg [5] 8 (fun kq v5 w' => ∃ k : Nat, k ≤ 8 ∧ v5 = .int .i64 (k : Int) ∧ Hd (kq + k = 8) ∧ Hd (Holds w [(w.heap.size + 1, .cells (vec b) 22 (0, 0)), (w.heap.size, .cells (vec a) 22 (0, 0))] w') ∧ Hd (∀ (i : Nat) (x y : Int), i < k → a[i]? = some x → b[i]? = some y → y ≤ x))
  case atStart => exact ⟨0, by omega, rfl, ⟨rfl⟩, H0, ⟨fun i x y h => by omega⟩⟩
  case round =>
    clear H0
    obtain ⟨k, hk, rfl, HK, HB, HM⟩ := hrel
    by_cases hlt : k < 8
    · obtain ⟨x, hx⟩ := at8 HA.out.1 hlt
      obtain ⟨y, hy⟩ := at8 HA.out.2 hlt
      have X := Hd.mk (vec_at hx)
      have Y := Hd.mk (vec_at hy)
      have XY := Hd.mk (⟨hx, hy⟩ : _ ∧ _)
      have hn1 : 0 ≤ (k : Int) := by omega
      have hn2 : (k : Int) < 8 := by omega
      clear hx hy
      go_upto_region 4 with (fail)
      refine start_ (n := 7) (S := fun W_ => Holds w [(w.heap.size + 1, .cells (vec b) 22 (0, 0)), (w.heap.size, .cells (vec a) 22 (0, 0))] W_) (ds := []) #[false, false, false, false, false, false, false] (by kernel_rfl) rfl rfl (HB.out.drew) (fun hHeld => ?_)
      refine pure_ (i := 0) (N := some 10) (v := ?_) (a' := ?_) #[true, false, false, false, false, false, false] rfl rfl (by kernel_rfl) (fun _ _ _ h => h) (Or.inl ⟨by rfl, ?_⟩) ?_ ?_
      rotate_left
      · intro w_
        go_simp
        try with_reducible rfl
      rotate_left
      · simp only [Act.put, List.setIfInBounds_toArray, List.set_cons_zero, List.set_cons_succ]
        rfl
      refine pure_ (i := 1) (N := some 11) (v := ?_) (a' := ?_) #[true, true, false, false, false, false, false] rfl rfl (by kernel_rfl) (fun _ _ _ h => h) (Or.inl ⟨by rfl, ?_⟩) ?_ ?_
      rotate_left
      · intro w_
        go_simp
        try with_reducible rfl
      rotate_left
      · simp only [Act.put, List.setIfInBounds_toArray, List.set_cons_zero, List.set_cons_succ]
        rfl
      refine take_ (i := 2) (N := some 12) (v := .int .i64 x) (a' := ?_) #[true, true, true, false, false, false, false] rfl rfl (by kernel_rfl) (fun _ _ _ h => h) (Or.inl ⟨by rfl, fun w' h => by have hc : w'.cell? ⟨w.heap.size, k, none⟩ = some (.int .i64 x) := (by rw [cell_of_row w' _ k _ _ _ (h.get 1 rfl)]; exact X.out); go_simp⟩) hHeld ?_ ?_
      rotate_left
      · simp only [Act.put, List.setIfInBounds_toArray, List.set_cons_zero, List.set_cons_succ]
        rfl
      refine pure_ (i := 3) (N := some 13) (v := ?_) (a' := ?_) #[true, true, true, true, false, false, false] rfl rfl (by kernel_rfl) (fun _ _ _ h => h) (Or.inl ⟨by rfl, ?_⟩) ?_ ?_
      rotate_left
      · intro w_
        go_simp
        try with_reducible rfl
      rotate_left
      · simp only [Act.put, List.setIfInBounds_toArray, List.set_cons_zero, List.set_cons_succ]
        rfl
      refine pure_ (i := 4) (N := some 14) (v := ?_) (a' := ?_) #[true, true, true, true, true, false, false] rfl rfl (by kernel_rfl) (fun _ _ _ h => h) (Or.inl ⟨by rfl, ?_⟩) ?_ ?_
      rotate_left
      · intro w_
        go_simp
        try with_reducible rfl
      rotate_left
      · simp only [Act.put, List.setIfInBounds_toArray, List.set_cons_zero, List.set_cons_succ]
        rfl
      refine take_ (i := 5) (N := some 15) (v := .int .i64 y) (a' := ?_) #[true, true, true, true, true, true, false] rfl rfl (by kernel_rfl) (fun _ _ _ h => h) (Or.inl ⟨by rfl, fun w' h => by have hc : w'.cell? ⟨w.heap.size + 1, k, none⟩ = some (.int .i64 y) := (by rw [cell_of_row w' _ k _ _ _ (h.get 0 rfl)]; exact Y.out); go_simp⟩) hHeld ?_ ?_
      rotate_left
      · simp only [Act.put, List.setIfInBounds_toArray, List.set_cons_zero, List.set_cons_succ]
        rfl
      refine pure_ (i := 6) (N := some 16) (v := ?_) (a' := ?_) #[true, true, true, true, true, true, true] rfl rfl (by kernel_rfl) (fun _ _ _ h => h) (Or.inl ⟨by rfl, ?_⟩) ?_ ?_
      rotate_left
      · intro w_
        go_simp
        try with_reducible rfl
      rotate_left
      · simp only [Act.put, List.setIfInBounds_toArray, List.set_cons_zero, List.set_cons_succ]
        rfl
      refine done_ (by kernel_rfl) ?_
      by_cases h : x < y
      · have HQ : Hd (covL a b = false) := ⟨by
          rcases hq : covL a b with _ | _
          · rfl
          · have := (covL_iff HA.out.1 HA.out.2).1 hq k y x XY.out.2 XY.out.1
            omega⟩
        go_wp2_with fail
        go_ret
        exact ⟨by rw [HQ.out]; rfl, hHeld.2⟩
      · have h' : y ≤ x := by omega
        have HN : Hd (∀ (i : Nat) (x y : Int), i < k + 1 → a[i]? = some x → b[i]? = some y → y ≤ x) := ⟨by
          intro i p q hi hp hq
          by_cases e : i = k
          · subst e
            rw [XY.out.1] at hp
            rw [XY.out.2] at hq
            have := Option.some.inj hp; have := Option.some.inj hq; omega
          · exact HM.out i p q (by omega) hp hq⟩
        go_wp2_with fail
        go_roundg (7 - k)
        case measure => have := HK.out; omega
        case rel => exact ⟨k + 1, by omega, by first | rfl | congr 1, ⟨by have := HK.out; omega⟩, ⟨hHeld⟩, HN⟩
    · obtain rfl : k = 8 := by omega
      have HQ : Hd (covL a b = true) := ⟨(covL_iff HA.out.1 HA.out.2).2 fun i x y hx hy => HM.out i y x (lt8 HA.out.1 hy) hy hx⟩
      go_wp2_with fail
      go_ret
      exact ⟨by rw [HQ.out]; rfl, HB.out.2⟩
end Go.Proofs.Ytfcopeecgbgljaa
