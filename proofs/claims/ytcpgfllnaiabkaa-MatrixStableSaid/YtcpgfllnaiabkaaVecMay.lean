/- vector.May: its contract. -/
import Derived.Test.YtcpgfllnaiabkaaVecCovers
import Derived.Test.YtcpgfllnaiabkaaHeld
namespace Go.Proofs.Ytcpgfllnaiabkaa
open Go.RowKit Go.Proofs.YtcpgfllnaiabkaaW.PrintWords Go.Proofs.YtcpgfllnaiabkaaW.PrintLast Go.Proofs.YtcpgfllnaiabkaaW.PrintMore
set_option linter.unusedVariables false
set_option linter.unusedSimpArgs false

/-- Whether a vector may be. -/
def mayV (v : List Int) : Bool := v.all fun x => decide (0 ≤ x) && decide (x ≤ 1073741824)
theorem mayV_cons (x : Int) (v : List Int) : mayV (x :: v) = ((decide (0 ≤ x) && decide (x ≤ 1073741824)) && mayV v) := rfl

set_option maxHeartbeats 1000000 in
set_option maxRecDepth 100000 in
theorem vec_May (v : List Int) (hv : v.length = 8) (w : World) :
    Calls Try.prog 39 #[.agg (vec v)] w fun e w' => e = .returned (.bool (mayV v)) ∧ Below w.heap.size w w' := by
  have H0 := Hd.mk (Holds.start1 w (.cells (vec v) 27))
  have HV := Hd.mk hv
  have S1 := Hd.mk (show (Try.prog.info? 27).map (·.size) = some (vec v).size by rw [vec_size, hv]; exact size_vec)
  clear hv
  go_enter Try.func39, Try.ntmps39
  go_upto_region 1 with (fail)
  generalize w.alloc (.cells (vec v) 27) = W at *
  go_wp2_with (first | ((with_reducible refine gate_load (t := 27) rfl ?_); refine wpList_load_row rfl _ _ rfl w.heap.size rfl 27 (vec v) (0, 0) _ (H0.out.get 0 rfl) Try.underlying27 rfl S1.out ?_))
  go_loopg [4, 6] 8 (fun kq v4 v6 w' => ∃ k : Nat, k ≤ 8 ∧ v6 = .int .i64 (k : Int) ∧ Hd (kq + k = 8) ∧ Hd (Below w.heap.size w w') ∧ Hd (mayV (v.drop k) = mayV v))
  case atStart => exact ⟨0, by omega, rfl, ⟨rfl⟩, ⟨H0.out.2⟩, ⟨rfl⟩⟩
  case round =>
    clear H0
    obtain ⟨k, hk, rfl, HK, HB, HM⟩ := hrel
    by_cases hlt : k < 8
    · obtain ⟨x, hx⟩ : ∃ x, v[k]? = some x := ⟨_, List.getElem?_eq_getElem (by rw [HV.out]; exact hlt)⟩
      have hix := index_vec HV.out hx
      have hd : v.drop k = x :: v.drop (k + 1) := by
        have h1 : k < v.length := by rw [HV.out]; exact hlt
        rw [List.drop_eq_getElem_cons h1]
        rw [List.getElem?_eq_getElem h1] at hx
        rw [Option.some.inj hx]
      have hm : mayV v = ((decide (0 ≤ x) && decide (x ≤ 1073741824)) && mayV (v.drop (k + 1))) := by rw [← HM.out, hd, mayV_cons]
      have HN := Hd.mk hm
      clear hx hd hm
      by_cases h0 : 0 ≤ x
      · have g0 : ¬ x < 0 := by omega
        by_cases h1 : x ≤ 1073741824
        · have g1 : ¬ 1073741824 < x := by omega
          have HQ := Hd.mk (show mayV (v.drop (k + 1)) = mayV v by rw [HN.out]; simp [h0, h1])
          clear HN
          go_wp2_with fail
          go_roundg (7 - k)
          case measure => have := HK.out; omega
          case rel => exact ⟨k + 1, by omega, by first | rfl | congr 1, ⟨by have := HK.out; omega⟩, HB, HQ⟩
        · have g1 : 1073741824 < x := by omega
          have HQ := Hd.mk (show mayV v = false by rw [HN.out]; simp [h0, h1])
          clear HN
          go_wp2_with fail
          go_ret
          exact ⟨by rw [HQ.out]; rfl, HB.out⟩
      · have g0 : x < 0 := by omega
        have HQ := Hd.mk (show mayV v = false by rw [HN.out]; simp [h0])
        clear HN
        go_wp2_with fail
        go_ret
        exact ⟨by rw [HQ.out]; rfl, HB.out⟩
    · obtain rfl : k = 8 := by omega
      have HQ := Hd.mk (show mayV v = true by rw [← HM.out, List.drop_eq_nil_of_le (by rw [HV.out]; omega)]; rfl)
      go_wp2_with fail
      go_ret
      exact ⟨by rw [HQ.out]; rfl, HB.out⟩
end Go.Proofs.Ytcpgfllnaiabkaa
