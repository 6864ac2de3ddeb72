/- The document's disk: Crash: its contract. -/
import Derived.Test.YtkjlakjihjfjdaaDkRef2
namespace Go.Proofs.Ytkjlakjihjfjdaa
open Go.RowKit Go.Proofs.YtkjlakjihjfjdaaW.PrintWords Go.Proofs.YtkjlakjihjfjdaaW.PrintLast Go.Proofs.YtkjlakjihjfjdaaW.PrintMore
set_option linter.unusedVariables false
set_option linter.unusedSimpArgs false
set_option maxHeartbeats 1000000 in
set_option maxRecDepth 100000 in
theorem ref_Crash (room : Int) (snap safe rest : ByteArray) (hl : safe.size + rest.size ≤ 140737488355328) (keep : Int) (m : Nat) (hm : (m : Int) = min (max keep 0) rest.size) (w : World) :
    Calls Try.prog 44 #[.agg (rcells room snap safe rest), .int .i64 keep] w fun e w' => e = .returned (.agg (rcells room snap (safe ++ rest.extract 0 m) ⟨#[]⟩)) ∧ Below w.heap.size w w' := by
  have hz := zeroRef
  have H1 := Hd.mk (Two.start w room snap safe rest)
  have HL := Hd.mk hl
  have HM := Hd.mk hm
  clear hl hm
  go_enter Try.func44, Try.ntmps44
  go_upto_region 1 with (fail)
  generalize (w.alloc (.cells (rcells room snap safe rest) 74)).alloc (.cells (rcells 0 ⟨#[]⟩ ⟨#[]⟩ ⟨#[]⟩) 74) = W at *
  go_wp2_with fail
  go_loopg [5] m (fun kq v5 wr => ∃ k : Nat, k ≤ m ∧ v5 = .int .i64 (k : Int) ∧ Hd (kq + k = m) ∧ Hd (Two w room snap safe rest wr))
  case atStart => exact ⟨0, by omega, rfl, ⟨rfl⟩, H1⟩
  case round =>
    clear H1
    obtain ⟨k, hk, rfl, HK, H1⟩ := hrel
    obtain ⟨c0, c1, c2, c3, f2, f3⟩ := rcell H1.out.1
    by_cases hlt : k < m
    · have g1 : (k : Int) < (rest.size : Int) := by have := HM.out; omega
      have g2 : (k : Int) < keep := by have := HM.out; omega
      have hw1 : wrap64 ((k : Int) + 1) = ((k + 1 : Nat) : Int) := by have := HM.out; have := HL.out; unfold wrap64; omega
      have HLT := Hd.mk hlt
      clear hlt
      go_wp2_with fail
      go_roundg (m - k - 1)
      case measure => have := HK.out; have := HLT.out; omega
      case rel => exact ⟨k + 1, by have := HLT.out; omega, by first | rfl | congr 1, ⟨by have := HK.out; have := HLT.out; omega⟩, H1⟩
    · obtain rfl : k = m := by omega
      have hkr : (k : Int) ≤ (rest.size : Int) := by have := HM.out; omega
      have hc : ((k : Int) < (rest.size : Int) ∧ ¬ (k : Int) < keep) ∨ ¬ (k : Int) < (rest.size : Int) := by have := HM.out; omega
      have hcat : safe.size + (rest.extract 0 k).size ≤ 9223372036854775807 := by rw [ByteArray.size_extract]; have := HL.out; omega
      clear hlt
      rcases hc with ⟨g1, g2⟩ | g1
      · skip
        go_upto_region 4 with (fail)
        refine start_ (n := 9) (S := fun W_ => Two w room snap safe rest W_) (ds := [8]) #[false, false, false, false, false, false, false, false, false] (by kernel_rfl) rfl rfl (H1.out.call (Below.refl _ _).drew) (fun hHeld => ?_)
        refine pure_ (i := 0) (N := some 18) (v := ?_) (a' := ?_) #[true, false, false, false, false, false, false, false, false] rfl rfl (by kernel_rfl) (fun _ _ _ h => h) (Or.inl ⟨by rfl, ?_⟩) ?_ ?_
        rotate_left
        · intro w_
          go_simp
          try with_reducible rfl
        rotate_left
        · simp only [Act.put, List.setIfInBounds_toArray, List.set_cons_zero, List.set_cons_succ]
          rfl
        refine take_ (i := 1) (N := some 19) (v := .string safe) (a' := ?_) #[true, true, false, false, false, false, false, false, false] rfl rfl (by kernel_rfl) (fun _ _ _ h => h) (Or.inl ⟨by rfl, fun w' h => by obtain ⟨c0, c1, c2, c3, f2, f3⟩ := rcell h.1; go_simp⟩) hHeld ?_ ?_
        rotate_left
        · simp only [Act.put, List.setIfInBounds_toArray, List.set_cons_zero, List.set_cons_succ]
          rfl
        refine pure_ (i := 2) (N := some 20) (v := ?_) (a' := ?_) #[true, true, true, false, false, false, false, false, false] rfl rfl (by kernel_rfl) (fun _ _ _ h => h) (Or.inl ⟨by rfl, ?_⟩) ?_ ?_
        rotate_left
        · intro w_
          go_simp
          try with_reducible rfl
        rotate_left
        · simp only [Act.put, List.setIfInBounds_toArray, List.set_cons_zero, List.set_cons_succ]
          rfl
        refine take_ (i := 3) (N := some 21) (v := .string rest) (a' := ?_) #[true, true, true, true, false, false, false, false, false] rfl rfl (by kernel_rfl) (fun _ _ _ h => h) (Or.inl ⟨by rfl, fun w' h => by obtain ⟨c0, c1, c2, c3, f2, f3⟩ := rcell h.1; go_simp⟩) hHeld ?_ ?_
        rotate_left
        · simp only [Act.put, List.setIfInBounds_toArray, List.set_cons_zero, List.set_cons_succ]
          rfl
        refine pure_ (i := 4) (N := some 22) (v := ?_) (a' := ?_) #[true, true, true, true, true, false, false, false, false] rfl rfl (by kernel_rfl) (fun _ _ _ h => h) (Or.inl ⟨by rfl, ?_⟩) ?_ ?_
        rotate_left
        · intro w_
          go_simp
          try with_reducible rfl
        rotate_left
        · simp only [Act.put, List.setIfInBounds_toArray, List.set_cons_zero, List.set_cons_succ]
          rfl
        refine take_ (i := 5) (N := some 23) (v := .string (rest.extract 0 k)) (a' := ?_) #[true, true, true, true, true, true, false, false, false] rfl rfl (by kernel_rfl) (fun _ _ _ h => h) (Or.inl ⟨by rfl, fun w' h => by go_simp <;> (have := HL.out; omega)⟩) hHeld ?_ ?_
        rotate_left
        · simp only [Act.put, List.setIfInBounds_toArray, List.set_cons_zero, List.set_cons_succ]
          rfl
        refine take_ (i := 6) (N := some 24) (v := .string (safe ++ rest.extract 0 k)) (a' := ?_) #[true, true, true, true, true, true, true, false, false] rfl rfl (by kernel_rfl) (fun _ _ _ h => h) (Or.inl ⟨by rfl, fun w' h => by go_simp <;> (have := HL.out; omega)⟩) hHeld ?_ ?_
        rotate_left
        · simp only [Act.put, List.setIfInBounds_toArray, List.set_cons_zero, List.set_cons_succ]
          rfl
        refine pure_ (i := 7) (N := some 25) (v := ?_) (a' := ?_) #[true, true, true, true, true, true, true, true, false] rfl rfl (by kernel_rfl) (fun _ _ _ h => h) (Or.inl ⟨by rfl, ?_⟩) ?_ ?_
        rotate_left
        · intro w_
          go_simp
          try with_reducible rfl
        rotate_left
        · simp only [Act.put, List.setIfInBounds_toArray, List.set_cons_zero, List.set_cons_succ]
          rfl
        obtain ⟨d0, d1, d2, d3, f2', f3'⟩ := rcell hHeld.1
        refine last_ (i := 8) (N := none) #[true, true, true, true, true, true, true, true, true] rfl rfl (by kernel_rfl) (by decide) (fun K hK => ?_)
        refine skip_ (by rfl) rfl (show (execOp _ _).run Try.prog _ = .ok .skip (wr.drew.setCell ⟨w.heap.size, 2, none⟩ (.string (safe ++ rest.extract 0 k))) from (by go_simp)) ?_
        refine hK.out _ _ ?_
        clear hK K
        refine done_ (by kernel_rfl) ?_
        have H2 := Hd.mk (hHeld.set2 (safe ++ rest.extract 0 k))
        clear d0 d1 d2 d3 f2' f3' hHeld H1 c0 c1 c2 c3 f2 f3
        generalize wr.drew.setCell ⟨w.heap.size, 2, none⟩ (.string (safe ++ rest.extract 0 k)) = W2 at *
        obtain ⟨c0, c1, c2, c3, f2, f3⟩ := rcell H2.out.1
        go_upto_region 6 with (fail)
        have H1 := Hd.mk (H2.out.set3 ⟨#[]⟩)
        clear c0 c1 c2 c3 f2 f3 H2
        generalize W2.setCell ⟨w.heap.size, 3, none⟩ (.string ⟨#[]⟩) = W3 at *
        go_wp2_with (first | ((with_reducible refine gate_load (t := 74) rfl ?_); refine wpList_load_row rfl _ _ rfl w.heap.size rfl 74 (rcells room snap (safe ++ rest.extract 0 k) ⟨#[]⟩) (0, 0) _ H1.out.1 Try.underlying74 rfl size_ref ?_) | ((with_reducible refine gate_store (t := 74) rfl ?_); refine wpList_store_row rfl _ _ _ rfl (w.heap.size + 1) (rcells room snap (safe ++ rest.extract 0 k) ⟨#[]⟩) rfl rfl 74 (rcells 0 ⟨#[]⟩ ⟨#[]⟩ ⟨#[]⟩) H1.out.2.1 size_ref rfl (rcells_one _ _ _ _) ?_))
        exact bodyPost_ret (results_cell_row (p := 4) rfl _ _ (w.heap.size + 1) 74 (rcells room snap (safe ++ rest.extract 0 k) ⟨#[]⟩) (0, 0) _ rfl (setRow_heap _ _ _ _ _ _ H1.out.2.1) Try.underlying74 rfl size_ref) rfl ⟨rfl, below_setRow H1.out.2.2 (by omega) _⟩
      · skip
        go_upto_region 4 with (fail)
        refine start_ (n := 9) (S := fun W_ => Two w room snap safe rest W_) (ds := [8]) #[false, false, false, false, false, false, false, false, false] (by kernel_rfl) rfl rfl (H1.out.call (Below.refl _ _).drew) (fun hHeld => ?_)
        refine pure_ (i := 0) (N := some 18) (v := ?_) (a' := ?_) #[true, false, false, false, false, false, false, false, false] rfl rfl (by kernel_rfl) (fun _ _ _ h => h) (Or.inl ⟨by rfl, ?_⟩) ?_ ?_
        rotate_left
        · intro w_
          go_simp
          try with_reducible rfl
        rotate_left
        · simp only [Act.put, List.setIfInBounds_toArray, List.set_cons_zero, List.set_cons_succ]
          rfl
        refine take_ (i := 1) (N := some 19) (v := .string safe) (a' := ?_) #[true, true, false, false, false, false, false, false, false] rfl rfl (by kernel_rfl) (fun _ _ _ h => h) (Or.inl ⟨by rfl, fun w' h => by obtain ⟨c0, c1, c2, c3, f2, f3⟩ := rcell h.1; go_simp⟩) hHeld ?_ ?_
        rotate_left
        · simp only [Act.put, List.setIfInBounds_toArray, List.set_cons_zero, List.set_cons_succ]
          rfl
        refine pure_ (i := 2) (N := some 20) (v := ?_) (a' := ?_) #[true, true, true, false, false, false, false, false, false] rfl rfl (by kernel_rfl) (fun _ _ _ h => h) (Or.inl ⟨by rfl, ?_⟩) ?_ ?_
        rotate_left
        · intro w_
          go_simp
          try with_reducible rfl
        rotate_left
        · simp only [Act.put, List.setIfInBounds_toArray, List.set_cons_zero, List.set_cons_succ]
          rfl
        refine take_ (i := 3) (N := some 21) (v := .string rest) (a' := ?_) #[true, true, true, true, false, false, false, false, false] rfl rfl (by kernel_rfl) (fun _ _ _ h => h) (Or.inl ⟨by rfl, fun w' h => by obtain ⟨c0, c1, c2, c3, f2, f3⟩ := rcell h.1; go_simp⟩) hHeld ?_ ?_
        rotate_left
        · simp only [Act.put, List.setIfInBounds_toArray, List.set_cons_zero, List.set_cons_succ]
          rfl
        refine pure_ (i := 4) (N := some 22) (v := ?_) (a' := ?_) #[true, true, true, true, true, false, false, false, false] rfl rfl (by kernel_rfl) (fun _ _ _ h => h) (Or.inl ⟨by rfl, ?_⟩) ?_ ?_
        rotate_left
        · intro w_
          go_simp
          try with_reducible rfl
        rotate_left
        · simp only [Act.put, List.setIfInBounds_toArray, List.set_cons_zero, List.set_cons_succ]
          rfl
        refine take_ (i := 5) (N := some 23) (v := .string (rest.extract 0 k)) (a' := ?_) #[true, true, true, true, true, true, false, false, false] rfl rfl (by kernel_rfl) (fun _ _ _ h => h) (Or.inl ⟨by rfl, fun w' h => by go_simp <;> (have := HL.out; omega)⟩) hHeld ?_ ?_
        rotate_left
        · simp only [Act.put, List.setIfInBounds_toArray, List.set_cons_zero, List.set_cons_succ]
          rfl
        refine take_ (i := 6) (N := some 24) (v := .string (safe ++ rest.extract 0 k)) (a' := ?_) #[true, true, true, true, true, true, true, false, false] rfl rfl (by kernel_rfl) (fun _ _ _ h => h) (Or.inl ⟨by rfl, fun w' h => by go_simp <;> (have := HL.out; omega)⟩) hHeld ?_ ?_
        rotate_left
        · simp only [Act.put, List.setIfInBounds_toArray, List.set_cons_zero, List.set_cons_succ]
          rfl
        refine pure_ (i := 7) (N := some 25) (v := ?_) (a' := ?_) #[true, true, true, true, true, true, true, true, false] rfl rfl (by kernel_rfl) (fun _ _ _ h => h) (Or.inl ⟨by rfl, ?_⟩) ?_ ?_
        rotate_left
        · intro w_
          go_simp
          try with_reducible rfl
        rotate_left
        · simp only [Act.put, List.setIfInBounds_toArray, List.set_cons_zero, List.set_cons_succ]
          rfl
        obtain ⟨d0, d1, d2, d3, f2', f3'⟩ := rcell hHeld.1
        refine last_ (i := 8) (N := none) #[true, true, true, true, true, true, true, true, true] rfl rfl (by kernel_rfl) (by decide) (fun K hK => ?_)
        refine skip_ (by rfl) rfl (show (execOp _ _).run Try.prog _ = .ok .skip (wr.drew.setCell ⟨w.heap.size, 2, none⟩ (.string (safe ++ rest.extract 0 k))) from (by go_simp)) ?_
        refine hK.out _ _ ?_
        clear hK K
        refine done_ (by kernel_rfl) ?_
        have H2 := Hd.mk (hHeld.set2 (safe ++ rest.extract 0 k))
        clear d0 d1 d2 d3 f2' f3' hHeld H1 c0 c1 c2 c3 f2 f3
        generalize wr.drew.setCell ⟨w.heap.size, 2, none⟩ (.string (safe ++ rest.extract 0 k)) = W2 at *
        obtain ⟨c0, c1, c2, c3, f2, f3⟩ := rcell H2.out.1
        go_upto_region 6 with (fail)
        have H1 := Hd.mk (H2.out.set3 ⟨#[]⟩)
        clear c0 c1 c2 c3 f2 f3 H2
        generalize W2.setCell ⟨w.heap.size, 3, none⟩ (.string ⟨#[]⟩) = W3 at *
        go_wp2_with (first | ((with_reducible refine gate_load (t := 74) rfl ?_); refine wpList_load_row rfl _ _ rfl w.heap.size rfl 74 (rcells room snap (safe ++ rest.extract 0 k) ⟨#[]⟩) (0, 0) _ H1.out.1 Try.underlying74 rfl size_ref ?_) | ((with_reducible refine gate_store (t := 74) rfl ?_); refine wpList_store_row rfl _ _ _ rfl (w.heap.size + 1) (rcells room snap (safe ++ rest.extract 0 k) ⟨#[]⟩) rfl rfl 74 (rcells 0 ⟨#[]⟩ ⟨#[]⟩ ⟨#[]⟩) H1.out.2.1 size_ref rfl (rcells_one _ _ _ _) ?_))
        exact bodyPost_ret (results_cell_row (p := 4) rfl _ _ (w.heap.size + 1) 74 (rcells room snap (safe ++ rest.extract 0 k) ⟨#[]⟩) (0, 0) _ rfl (setRow_heap _ _ _ _ _ _ H1.out.2.1) Try.underlying74 rfl size_ref) rfl ⟨rfl, below_setRow H1.out.2.2 (by omega) _⟩
end Go.Proofs.Ytkjlakjihjfjdaa
