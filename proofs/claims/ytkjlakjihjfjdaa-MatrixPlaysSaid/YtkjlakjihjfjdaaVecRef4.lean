/- The document's vectors: Tick, Take: their contracts. -/
import Derived.Test.YtkjlakjihjfjdaaVecRef2
namespace Go.Proofs.Ytkjlakjihjfjdaa
open Go.RowKit Go.Proofs.YtkjlakjihjfjdaaW.PrintWords Go.Proofs.YtkjlakjihjfjdaaW.PrintLast Go.Proofs.YtkjlakjihjfjdaaW.PrintMore Pk
set_option linter.unusedVariables false
set_option linter.unusedSimpArgs false

theorem mayV_app (f v : List Int) : mayV (f ++ v) = (mayV f && mayV v) := by unfold mayV; rw [List.all_append]
theorem fin_bad {f : List Int} {x : Int} (h : ¬ (0 ≤ x ∧ x ≤ 1073741824)) (o : Option (List Int × List UInt8)) : fin (f ++ [x]) o = none := by
  cases o with
  | none => rfl
  | some p =>
    obtain ⟨v, q⟩ := p
    have h1 : mayV [x] = false := by unfold mayV; simp; omega
    show (if mayV (f ++ [x] ++ v) = true then some (f ++ [x] ++ v, q) else none) = none
    rw [mayV_app, mayV_app, h1]; simp

set_option maxHeartbeats 2000000 in
set_option maxRecDepth 100000 in
theorem ref_vecTake (s0 : ByteArray) (hs0 : s0.size ≤ 140737488355328) (w : World) :
    Calls Try.prog 59 #[.string s0] w fun e w' => e = .returned (tvV (tkV s0.data.toList)) ∧ Below w.heap.size w w' := by
  have S0 : Hd ((Try.prog.info? 34).map (·.size) = some (vec zero8).size) := ⟨by rw [vec_size]; exact size_eight⟩
  have z8 : ∀ w : World, (zeroValue 34).run Try.prog w = .ok (.agg (vec zero8)) w := fun w => by kernel_rfl
  have K0 := Hd.mk (Holds.start1 w (.cells (vec zero8) 34))
  have HS0 := Hd.mk hs0
  clear hs0
  go_enter Try.func59, Try.ntmps59
  go_upto_region 1 with (fail)
  generalize w.alloc (.cells (vec zero8) 34) = W at *
  have K1n := Hd.mk (K0.out.fresh (.cells (vec zero8) 34))
  have H0 := Hd.mk (K1n.out.set (vec zero8))
  have F1 := Hd.mk (⟨K1n.out.2.1, fun p hp => Nat.ne_of_lt (K1n.out.2.2 p hp)⟩ : _ ∧ _)
  clear K0 K1n
  go_upto_region 2 with (first | ((with_reducible refine gate_store (t := 34) rfl ?_); refine wpList_store_row rfl _ _ _ rfl W.heap.size (vec zero8) rfl rfl 34 (vec zero8) (heap_alloc_new _ _) S0.out rfl (vec_one _) ?_; generalize (W.alloc (.cells (vec zero8) 34)).setRow W.heap.size (vec zero8) = W1 at *; generalize W.heap.size = bo at *))
  go_wp2_with fail
  go_loopg [0, 6] 8 (fun kq v0 v6 w' => ∃ (k : Nat) (s : ByteArray) (d : List Int), k ≤ 8 ∧ v6 = .int .i64 (k : Int) ∧ v0 = .string s ∧ Hd (kq + k = 8) ∧ Hd (s.size ≤ s0.size) ∧ Hd (d.length = 8) ∧ Hd (Holds w [(bo, .cells (vec d) 34 (0, 0)), (w.heap.size, .cells (vec zero8) 34 (0, 0))] w') ∧ Hd (tkV s0.data.toList = fin (d.take k) (tkN (8 - k) s.data.toList)) ∧ Hd (mayV (d.take k) = true))
  case atStart => exact ⟨0, s0, zero8, by omega, rfl, rfl, ⟨rfl⟩, ⟨Nat.le_refl _⟩, ⟨rfl⟩, H0, ⟨rfl⟩, ⟨rfl⟩⟩
  case round =>
    clear H0
    obtain ⟨k, s, d, hk, rfl, rfl, HK, HL, HD, HH, HT, HY⟩ := hrel
    by_cases hlt : k < 8
    · have E1 := ref_TakeInt s (by have := HL.out; have := HS0.out; omega)
      cases hT : tk s.data.toList 0 0 with
      | none =>
        have HV : Hd (tkV s0.data.toList = none) := ⟨by rw [HT.out, show 8 - k = (7 - k) + 1 from by omega]; exact fin_none hT⟩
        rw [hT] at E1
        simp only [tiV] at E1
        have H1 := Hd.mk E1
        clear E1 hT HT HL HD HK HY
        go_wp2_with fail
        refine (H1.out _).mono ?_; rintro e w5 ⟨rfl, h5⟩
        have H5 := Hd.mk (HH.out.call h5)
        clear h5 HH
        go_wp2_with (first | ((with_reducible refine gate_store (t := 34) rfl ?_); refine wpList_store_row rfl _ _ _ rfl w.heap.size (vec zero8) rfl rfl 34 (vec zero8) (H5.out.get 1 rfl) S0.out rfl (vec_one _) ?_))
        exact bodyPost_ret (results_cell_tmp2 (p := 2) (q := 3) (r := 4) rfl _ _ w.heap.size 34 (vec zero8) (0, 0) _ rfl (setRow_heap _ _ _ _ _ _ (H5.out.get 1 rfl)) Try.underlying34 rfl S0.out) rfl ⟨by rw [HV.out]; rfl, below_setRow H5.out.2 (Nat.le_refl _) _⟩
      | some p =>
        obtain ⟨m, r⟩ := p
        have hrl := tk_len _ _ _ _ _ hT
        have hsl : s.data.toList.length = s.size := rfl
        have HL2 : Hd ((⟨r.toArray⟩ : ByteArray).size ≤ s0.size) := ⟨by rw [size_of]; have := HL.out; omega⟩
        have hkd : k < d.length := by rw [HD.out]; exact hlt
        have tk1 : (d.set k (unzig m)).take (k + 1) = d.take k ++ [unzig m] := by
          rw [List.take_add_one, List.getElem?_set_self hkd, List.take_set_of_le (by omega)]; rfl
        have e2 : tkV s0.data.toList = fin (d.take k ++ [unzig m]) (tkN (7 - k) r) := by
          rw [HT.out, show 8 - k = (7 - k) + 1 from by omega, fin_some hT]
        rw [hT] at E1
        simp only [tiV] at E1
        have H1 := Hd.mk E1
        by_cases hr1 : 0 ≤ unzig m
        · by_cases hr2 : unzig m ≤ 1073741824
          · have HT2 : Hd (tkV s0.data.toList = fin ((d.set k (unzig m)).take (k + 1)) (tkN (8 - (k + 1)) (⟨r.toArray⟩ : ByteArray).data.toList)) := ⟨by
              rw [e2, tk1, mk_list, show 8 - (k + 1) = 7 - k from by omega]⟩
            have HY2 : Hd (mayV ((d.set k (unzig m)).take (k + 1)) = true) := ⟨by rw [tk1, mayV_app, HY.out]; unfold mayV; simp [hr1, hr2]⟩
            obtain ⟨z, hz0⟩ : ∃ z, d[k]? = some z := ⟨_, List.getElem?_eq_getElem hkd⟩
            have Z0 := Hd.mk (vec_at hz0)
            have HD2 : Hd ((d.set k (unzig m)).length = 8) := ⟨by rw [List.length_set]; exact HD.out⟩
            have HU : Hd ((vec d).setIfInBounds k (.int .i64 (unzig m)) = vec (d.set k (unzig m))) := ⟨vec_set _ _ _⟩
            have hn1 : 0 ≤ (k : Int) := by omega
            have hn2 : (k : Int) < 8 := by omega
            have g1 : ¬ unzig m < 0 := by omega
            have g2 : ¬ 1073741824 < unzig m := by omega
            have hwz : IntKind.i64.wrap (unzig m) = unzig m := by
              rw [i64_w]; unfold wrap64; omega
            clear E1 hT HT HL HD hrl hsl hz0 tk1 e2 hkd HY
            generalize d.set k (unzig m) = d2 at *
            generalize unzig m = x at *
            generalize (⟨r.toArray⟩ : ByteArray) = s2 at *
            go_wp2_with fail
            refine (H1.out _).mono ?_; rintro e w5 ⟨rfl, h5⟩
            have H5 := Hd.mk (HH.out.call h5)
            clear h5 HH
            have hcx : w5.cell? ⟨bo, k, none⟩ = some (.int .i64 z) := by rw [cell_of_row _ _ k _ _ _ (H5.out.get 0 rfl)]; exact Z0.out
            have hfz : w5.frozen? ⟨bo, k, none⟩ = false := frozen_of_row _ _ k _ _ (H5.out.get 0 rfl)
            go_wp2_with fail
            go_roundg (7 - k)
            case measure => have := HK.out; omega
            case rel => exact ⟨k + 1, s2, d2, by omega, by first | rfl | congr 1, rfl, ⟨by have := HK.out; omega⟩, HL2, HD2, ⟨by rw [← HU.out]; exact Holds_cell H5.out k _ F1.out.1 F1.out.2⟩, HT2, HY2⟩
          · have HV : Hd (tkV s0.data.toList = none) := ⟨by rw [e2]; exact fin_bad (by omega) _⟩
            have g1 : ¬ unzig m < 0 := by omega
            have g2 : 1073741824 < unzig m := by omega
            clear E1 hT HT HL HD HK HY tk1 e2 hkd hrl hsl hr1 hr2 HL2
            generalize unzig m = x at *
            go_wp2_with fail
            refine (H1.out _).mono ?_; rintro e w5 ⟨rfl, h5⟩
            have H5 := Hd.mk (HH.out.call h5)
            clear h5 HH
            go_wp2_with (first | ((with_reducible refine gate_store (t := 34) rfl ?_); refine wpList_store_row rfl _ _ _ rfl w.heap.size (vec zero8) rfl rfl 34 (vec zero8) (H5.out.get 1 rfl) S0.out rfl (vec_one _) ?_))
            exact bodyPost_ret (results_cell_tmp2 (p := 2) (q := 3) (r := 4) rfl _ _ w.heap.size 34 (vec zero8) (0, 0) _ rfl (setRow_heap _ _ _ _ _ _ (H5.out.get 1 rfl)) Try.underlying34 rfl S0.out) rfl ⟨by rw [HV.out]; rfl, below_setRow H5.out.2 (Nat.le_refl _) _⟩
        · have HV : Hd (tkV s0.data.toList = none) := ⟨by rw [e2]; exact fin_bad (by omega) _⟩
          have g1 : unzig m < 0 := by omega
          clear E1 hT HT HL HD HK HY tk1 e2 hkd hrl hsl hr1 HL2
          generalize unzig m = x at *
          go_wp2_with fail
          refine (H1.out _).mono ?_; rintro e w5 ⟨rfl, h5⟩
          have H5 := Hd.mk (HH.out.call h5)
          clear h5 HH
          go_wp2_with (first | ((with_reducible refine gate_store (t := 34) rfl ?_); refine wpList_store_row rfl _ _ _ rfl w.heap.size (vec zero8) rfl rfl 34 (vec zero8) (H5.out.get 1 rfl) S0.out rfl (vec_one _) ?_))
          exact bodyPost_ret (results_cell_tmp2 (p := 2) (q := 3) (r := 4) rfl _ _ w.heap.size 34 (vec zero8) (0, 0) _ rfl (setRow_heap _ _ _ _ _ _ (H5.out.get 1 rfl)) Try.underlying34 rfl S0.out) rfl ⟨by rw [HV.out]; rfl, below_setRow H5.out.2 (Nat.le_refl _) _⟩
    · obtain rfl : k = 8 := by omega
      have hd8 : d.take 8 = d := List.take_of_length_le (by rw [HD.out]; omega)
      have HT3 : Hd (tkV s0.data.toList = some (d, s.data.toList)) := ⟨by
        have hy := HY.out
        rw [hd8] at hy
        rw [HT.out, hd8]
        show (if mayV (d ++ []) = true then some (d ++ [], s.data.toList) else none) = _
        rw [List.append_nil, if_pos hy]⟩
      have S1 := Hd.mk (show (Try.prog.info? 34).map (·.size) = some (vec d).size by rw [vec_size, HD.out]; exact size_eight)
      have S2 := Hd.mk (show (vec zero8).size = (vec d).size by rw [vec_size, vec_size, HD.out]; rfl)
      clear hd8 HT HL HD HK HY
      go_wp2_with (first | ((with_reducible refine gate_dst (N := 36) rfl ?_); refine wpList_load_row rfl 34 _ rfl bo rfl 34 (vec d) (0, 0) _ (HH.out.get 0 rfl) Try.underlying34 rfl S1.out ?_) | ((with_reducible refine gate_store (t := 34) rfl ?_); refine wpList_store_row rfl _ _ _ rfl w.heap.size (vec d) rfl rfl 34 (vec zero8) (HH.out.get 1 rfl) S1.out S2.out (vec_one _) ?_))
      exact bodyPost_ret (results_cell_tmp2 (p := 2) (q := 3) (r := 4) rfl _ _ w.heap.size 34 (vec d) (0, 0) _ rfl (setRow_heap _ _ _ _ _ _ (HH.out.get 1 rfl)) Try.underlying34 rfl S1.out) rfl ⟨by rw [HT3.out]; rfl, below_setRow HH.out.2 (Nat.le_refl _) _⟩
end Go.Proofs.Ytkjlakjihjfjdaa
