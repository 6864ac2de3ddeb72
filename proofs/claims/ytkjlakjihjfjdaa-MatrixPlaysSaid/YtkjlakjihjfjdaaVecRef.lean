/- The document's vectors: May, Covers: their contracts. -/
import Derived.Test.YtkjlakjihjfjdaaVecTake
import Derived.Test.YtkjlakjihjfjdaaVecLaw
import Derived.Test.YtkjlakjihjfjdaaVecOpen
namespace Go.Proofs.Ytkjlakjihjfjdaa
open Go.RowKit Go.Proofs.YtkjlakjihjfjdaaW.PrintWords Go.Proofs.YtkjlakjihjfjdaaW.PrintLast Go.Proofs.YtkjlakjihjfjdaaW.PrintMore
set_option linter.unusedVariables false
set_option linter.unusedSimpArgs false

set_option maxHeartbeats 1000000 in
set_option maxRecDepth 100000 in
theorem ref_vecMay (v : List Int) (hv : v.length = 8) (w : World) :
    Calls Try.prog 64 #[.agg (vec v)] w fun e w' => e = .returned (.bool (mayV v)) ∧ Below w.heap.size w w' := by
  have H0 := Hd.mk (Holds.start1 w (.cells (vec v) 34))
  have HV := Hd.mk hv
  clear hv
  go_enter Try.func64, Try.ntmps64
  go_upto_region 1 with (fail)
  generalize w.alloc (.cells (vec v) 34) = W at *
  go_wp2_with fail
  go_loopg [3] 8 (fun kq v3 w' => ∃ k : Nat, k ≤ 8 ∧ v3 = .int .i64 (k : Int) ∧ Hd (kq + k = 8) ∧ Hd (Holds w [(w.heap.size, .cells (vec v) 34 (0, 0))] w') ∧ Hd (mayV (v.drop k) = mayV v))
  case atStart => exact ⟨0, by omega, rfl, ⟨rfl⟩, H0, ⟨rfl⟩⟩
  case round =>
    clear H0
    obtain ⟨k, hk, rfl, HK, HB, HM⟩ := hrel
    by_cases hlt : k < 8
    · obtain ⟨x, hx⟩ : ∃ x, v[k]? = some x := ⟨_, List.getElem?_eq_getElem (by rw [HV.out]; exact hlt)⟩
      have hcx : wr.cell? ⟨w.heap.size, k, none⟩ = some (.int .i64 x) := by rw [cell_of_row _ _ k _ _ _ (HB.out.get 0 rfl)]; exact vec_at hx
      have hd : v.drop k = x :: v.drop (k + 1) := by
        have h1 : k < v.length := by rw [HV.out]; exact hlt
        rw [List.drop_eq_getElem_cons h1]
        rw [List.getElem?_eq_getElem h1] at hx
        rw [Option.some.inj hx]
      have hm : mayV v = ((decide (0 ≤ x) && decide (x ≤ 1073741824)) && mayV (v.drop (k + 1))) := by rw [← HM.out, hd, mayV_cons]
      have HN := Hd.mk hm
      have hn1 : 0 ≤ (k : Int) := by omega
      have hn2 : (k : Int) < 8 := by omega
      clear hx hd hm
      by_cases h0 : 0 ≤ x
      · have g0 : ¬ x < 0 := by omega
        by_cases h1 : x ≤ 1073741824
        · have g1 : ¬ 1073741824 < x := by omega
          have HQ := Hd.mk (show mayV (v.drop (k + 1)) = mayV v by rw [HN.out]; simp [h0, h1])
          clear HN
          go_wp2_with fail
          go_roundg (7 - k)
          case measure => have := HK.out; omega
          case rel => exact ⟨k + 1, by omega, by first | rfl | congr 1, ⟨by have := HK.out; omega⟩, HB, HQ⟩
        · have g1 : 1073741824 < x := by omega
          have HQ := Hd.mk (show mayV v = false by rw [HN.out]; simp [h0, h1])
          clear HN
          go_wp2_with fail
          go_ret
          exact ⟨by rw [HQ.out]; rfl, HB.out.2⟩
      · have g0 : x < 0 := by omega
        have HQ := Hd.mk (show mayV v = false by rw [HN.out]; simp [h0])
        clear HN
        go_wp2_with fail
        go_ret
        exact ⟨by rw [HQ.out]; rfl, HB.out.2⟩
    · obtain rfl : k = 8 := by omega
      have HQ := Hd.mk (show mayV v = true by rw [← HM.out, List.drop_eq_nil_of_le (by rw [HV.out]; omega)]; rfl)
      go_wp2_with fail
      go_ret
      exact ⟨by rw [HQ.out]; rfl, HB.out.2⟩

end Go.Proofs.Ytkjlakjihjfjdaa
