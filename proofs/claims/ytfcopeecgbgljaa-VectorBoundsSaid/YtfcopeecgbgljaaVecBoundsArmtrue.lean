/- The law VectorBounds: the walk. -/
import Derived.Test.YtfcopeecgbgljaaVecShown
import Derived.Test.YtfcopeecgbgljaaVecLaw
import Derived.Test.YtfcopeecgbgljaaVecOpen
import Derived.Test.YtfcopeecgbgljaaHeld
namespace Go.Proofs.Ytfcopeecgbgljaa
open Go.RowKit Go.Proofs.YtfcopeecgbgljaaW.PrintWords Go.Proofs.YtfcopeecgbgljaaW.PrintLast Go.Proofs.YtfcopeecgbgljaaW.PrintMore
set_option linter.unusedVariables false
set_option linter.unusedSimpArgs false

set_option maxHeartbeats 4000000 in
set_option maxRecDepth 100000 in
theorem bounds_true (a b c : List Int) (hq : covL c a = true) (ha : a.length = 8) (hb : b.length = 8) (hc : c.length = 8) (w : World) :
    Calls Try.prog 3 #[.agg (vec a), .agg (vec b), .agg (vec c)] w fun e w' => e = .returned (.bool true) ∧ Below w.heap.size w w' := by
  have H0 := Hd.mk (Holds.start3 w (.cells (vec a) 22) (.cells (vec b) 22) (.cells (vec c) 22))
  have HS := Hd.mk vec_shown
  have HJ := Hd.mk (vec_Join a b ha hb)
  have HM := Hd.mk (vec_Meet a b ha hb)
  have jl := join_len ha hb
  have ml := meet_len ha hb
  have C1 := Hd.mk (vec_Covers c a hc ha)
  have C2 := Hd.mk (vec_Covers c b hc hb)
  have C3 := Hd.mk (vec_Covers a c ha hc)
  have C4 := Hd.mk (vec_Covers b c hb hc)
  have D1 := Hd.mk (vec_Covers (joinL a b) a jl ha)
  have D2 := Hd.mk (vec_Covers (joinL a b) b jl hb)
  have D3 := Hd.mk (vec_Covers c (joinL a b) hc jl)
  have D4 := Hd.mk (vec_Covers a (meetL a b) ha ml)
  have D5 := Hd.mk (vec_Covers b (meetL a b) hb ml)
  have D6 := Hd.mk (vec_Covers (meetL a b) c ml hc)
  have D7 := Hd.mk (vec_Covers a b ha hb)
  have D8 := Hd.mk (vec_Covers b a hb ha)
  have HE := Hd.mk (fun w => eqEight 9998 ha hb w)
  rw [cov_join_left ha hb] at D1
  rw [cov_join_right ha hb] at D2
  rw [cov_of_join ha hb hc] at D3
  rw [cov_meet_left ha hb] at D4
  rw [cov_meet_right ha hb] at D5
  rw [cov_of_meet ha hb hc] at D6
  rw [← cov_both ha hb] at HE
  have S1 := Hd.mk (show (Try.prog.info? 22).map (·.size) = some (vec a).size by rw [vec_size, ha]; exact size_eight)
  have S2 := Hd.mk (show (Try.prog.info? 22).map (·.size) = some (vec b).size by rw [vec_size, hb]; exact size_eight)
  have S3 := Hd.mk (show (Try.prog.info? 22).map (·.size) = some (vec c).size by rw [vec_size, hc]; exact size_eight)
  have S4 := Hd.mk (show (Try.prog.info? 24).map (·.size) = some (vec (joinL a b)).size by rw [vec_size, jl]; exact size_vec)
  have S5 := Hd.mk (show (Try.prog.info? 24).map (·.size) = some (vec (meetL a b)).size by rw [vec_size, ml]; exact size_vec)
  have S6 := Hd.mk (show (vec zero8).size = (vec (joinL a b)).size by rw [vec_size, vec_size, jl]; rfl)
  have S7 := Hd.mk (show (vec zero8).size = (vec (meetL a b)).size by rw [vec_size, vec_size, ml]; rfl)
  have hz := zeroVec
  clear jl ml ha hb hc
  generalize joinL a b = j at *
  generalize meetL a b = m at *
  rw [hq] at C1 D3
  clear hq
  generalize covL c b = q2 at *
  generalize covL a c = q3 at *
  generalize covL b c = q4 at *
  generalize covL a b = q5 at *
  generalize covL b a = q6 at *
  go_enter Try.func3, Try.ntmps3
  go_upto_region 1 with (fail)
  generalize ((w.alloc (.cells (vec a) 22)).alloc (.cells (vec b) 22)).alloc (.cells (vec c) 22) = W at *
  go_wp2_with fail
  refine (HS.out _).mono ?_; rintro e w1 ⟨rfl, h1⟩
  have H1 := Hd.mk (H0.out.call h1)
  clear H0 h1
  go_wp2_with (first | ((with_reducible refine gate_dst (N := 13) rfl ?_); refine wpList_load_row rfl 22 _ rfl w.heap.size rfl 22 (vec a) (0, 0) _ (H1.out.get 2 rfl) Try.underlying22 rfl S1.out ?_) | ((with_reducible refine gate_dst (N := 14) rfl ?_); refine wpList_load_row rfl 22 _ rfl (w.heap.size + 1) rfl 22 (vec b) (0, 0) _ (H1.out.get 1 rfl) Try.underlying22 rfl S2.out ?_))
  refine (HJ.out _).mono ?_; rintro e w2 ⟨rfl, h1⟩
  have H2 := Hd.mk ((H1.out.call h1).made (vec zero8) (vec j) 24)
  clear H1 h1
  go_wp2_with (first | ((with_reducible refine gate_store (t := 24) rfl ?_); refine wpList_store_row rfl _ _ _ rfl w2.heap.size (vec j) rfl rfl 24 (vec zero8) (heap_alloc_new _ _) S4.out S6.out (vec_one _) ?_; generalize (w2.alloc (.cells (vec zero8) 24)).setRow w2.heap.size (vec j) = W2 at *; generalize w2.heap.size = bj at *) | ((with_reducible refine gate_dst (N := 16) rfl ?_); refine wpList_load_row rfl 22 _ rfl w.heap.size rfl 22 (vec a) (0, 0) _ (H2.out.get 3 rfl) Try.underlying22 rfl S1.out ?_) | ((with_reducible refine gate_dst (N := 17) rfl ?_); refine wpList_load_row rfl 22 _ rfl (w.heap.size + 1) rfl 22 (vec b) (0, 0) _ (H2.out.get 2 rfl) Try.underlying22 rfl S2.out ?_))
  refine (HM.out _).mono ?_; rintro e w3 ⟨rfl, h1⟩
  have H3 := Hd.mk ((H2.out.call h1).made (vec zero8) (vec m) 24)
  clear H2 h1
  go_wp2_with (first | ((with_reducible refine gate_store (t := 24) rfl ?_); refine wpList_store_row rfl _ _ _ rfl w3.heap.size (vec m) rfl rfl 24 (vec zero8) (heap_alloc_new _ _) S5.out S7.out (vec_one _) ?_; generalize (w3.alloc (.cells (vec zero8) 24)).setRow w3.heap.size (vec m) = W3 at *; generalize w3.heap.size = bm at *) | ((with_reducible refine gate_dst (N := 19) rfl ?_); refine wpList_load_row rfl 22 _ rfl (w.heap.size + 1 + 1) rfl 22 (vec c) (0, 0) _ (H3.out.get 2 rfl) Try.underlying22 rfl S3.out ?_) | ((with_reducible refine gate_dst (N := 20) rfl ?_); refine wpList_load_row rfl 22 _ rfl w.heap.size rfl 22 (vec a) (0, 0) _ (H3.out.get 4 rfl) Try.underlying22 rfl S1.out ?_))
  refine (C1.out _).mono ?_; rintro e w4 ⟨rfl, h1⟩
  have H4 := Hd.mk (H3.out.call h1)
  clear H3 h1
  rcases q3 with _ | _ <;> rcases q5 with _ | _
  all_goals
    simp only [Bool.true_and, Bool.false_and] at D3 D6 HE
    go_wp2_with (first | ((with_reducible refine gate_dst (N := 23) rfl ?_); refine gate_guard (by rfl) ?_; refine wpList_load_row rfl 22 _ rfl (w.heap.size + 1 + 1) rfl 22 (vec c) (0, 0) _ (H4.out.get 2 rfl) Try.underlying22 rfl S3.out ?_) | ((with_reducible refine gate_dst (N := 24) rfl ?_); refine gate_guard (by rfl) ?_; refine wpList_load_row rfl 22 _ rfl (w.heap.size + 1) rfl 22 (vec b) (0, 0) _ (H4.out.get 3 rfl) Try.underlying22 rfl S2.out ?_) | ((with_reducible refine gate_dst (N := 27) rfl ?_); refine wpList_load_row rfl 22 _ rfl w.heap.size rfl 22 (vec a) (0, 0) _ (H4.out.get 4 rfl) Try.underlying22 rfl S1.out ?_) | ((with_reducible refine gate_dst (N := 28) rfl ?_); refine wpList_load_row rfl 22 _ rfl (w.heap.size + 1 + 1) rfl 22 (vec c) (0, 0) _ (H4.out.get 2 rfl) Try.underlying22 rfl S3.out ?_) | ((with_reducible refine gate_dst (N := 31) rfl ?_); refine gate_guard (by rfl) ?_; refine wpList_load_row rfl 22 _ rfl (w.heap.size + 1) rfl 22 (vec b) (0, 0) _ (H4.out.get 3 rfl) Try.underlying22 rfl S2.out ?_) | ((with_reducible refine gate_dst (N := 32) rfl ?_); refine gate_guard (by rfl) ?_; refine wpList_load_row rfl 22 _ rfl (w.heap.size + 1 + 1) rfl 22 (vec c) (0, 0) _ (H4.out.get 2 rfl) Try.underlying22 rfl S3.out ?_))
    first
      | ((with_reducible refine (C2.out _).mono ?_); rintro e w5 ⟨rfl, h1⟩
         have H5 := Hd.mk (H4.out.call h1)
         clear H4 h1
         go_wp2_with (first | ((with_reducible refine gate_dst (N := 23) rfl ?_); refine gate_guard (by rfl) ?_; refine wpList_load_row rfl 22 _ rfl (w.heap.size + 1 + 1) rfl 22 (vec c) (0, 0) _ (H5.out.get 2 rfl) Try.underlying22 rfl S3.out ?_) | ((with_reducible refine gate_dst (N := 24) rfl ?_); refine gate_guard (by rfl) ?_; refine wpList_load_row rfl 22 _ rfl (w.heap.size + 1) rfl 22 (vec b) (0, 0) _ (H5.out.get 3 rfl) Try.underlying22 rfl S2.out ?_) | ((with_reducible refine gate_dst (N := 27) rfl ?_); refine wpList_load_row rfl 22 _ rfl w.heap.size rfl 22 (vec a) (0, 0) _ (H5.out.get 4 rfl) Try.underlying22 rfl S1.out ?_) | ((with_reducible refine gate_dst (N := 28) rfl ?_); refine wpList_load_row rfl 22 _ rfl (w.heap.size + 1 + 1) rfl 22 (vec c) (0, 0) _ (H5.out.get 2 rfl) Try.underlying22 rfl S3.out ?_) | ((with_reducible refine gate_dst (N := 31) rfl ?_); refine gate_guard (by rfl) ?_; refine wpList_load_row rfl 22 _ rfl (w.heap.size + 1) rfl 22 (vec b) (0, 0) _ (H5.out.get 3 rfl) Try.underlying22 rfl S2.out ?_) | ((with_reducible refine gate_dst (N := 32) rfl ?_); refine gate_guard (by rfl) ?_; refine wpList_load_row rfl 22 _ rfl (w.heap.size + 1 + 1) rfl 22 (vec c) (0, 0) _ (H5.out.get 2 rfl) Try.underlying22 rfl S3.out ?_)))
      | (have H5 := H4
         clear H4)
    refine (C3.out _).mono ?_; rintro e w6 ⟨rfl, h1⟩
    have H6 := Hd.mk (H5.out.call h1)
    clear H5 h1
    first
      | (go_wp2_with (first | ((with_reducible refine gate_dst (N := 23) rfl ?_); refine gate_guard (by rfl) ?_; refine wpList_load_row rfl 22 _ rfl (w.heap.size + 1 + 1) rfl 22 (vec c) (0, 0) _ (H6.out.get 2 rfl) Try.underlying22 rfl S3.out ?_) | ((with_reducible refine gate_dst (N := 24) rfl ?_); refine gate_guard (by rfl) ?_; refine wpList_load_row rfl 22 _ rfl (w.heap.size + 1) rfl 22 (vec b) (0, 0) _ (H6.out.get 3 rfl) Try.underlying22 rfl S2.out ?_) | ((with_reducible refine gate_dst (N := 27) rfl ?_); refine wpList_load_row rfl 22 _ rfl w.heap.size rfl 22 (vec a) (0, 0) _ (H6.out.get 4 rfl) Try.underlying22 rfl S1.out ?_) | ((with_reducible refine gate_dst (N := 28) rfl ?_); refine wpList_load_row rfl 22 _ rfl (w.heap.size + 1 + 1) rfl 22 (vec c) (0, 0) _ (H6.out.get 2 rfl) Try.underlying22 rfl S3.out ?_) | ((with_reducible refine gate_dst (N := 31) rfl ?_); refine gate_guard (by rfl) ?_; refine wpList_load_row rfl 22 _ rfl (w.heap.size + 1) rfl 22 (vec b) (0, 0) _ (H6.out.get 3 rfl) Try.underlying22 rfl S2.out ?_) | ((with_reducible refine gate_dst (N := 32) rfl ?_); refine gate_guard (by rfl) ?_; refine wpList_load_row rfl 22 _ rfl (w.heap.size + 1 + 1) rfl 22 (vec c) (0, 0) _ (H6.out.get 2 rfl) Try.underlying22 rfl S3.out ?_))
         (with_reducible refine (C4.out _).mono ?_); rintro e w7 ⟨rfl, h1⟩
         have H7 := Hd.mk (H6.out.call h1)
         clear H6 h1
         go_upto_region 6 with (fail))
      | (go_upto_region 6 with (fail)
         have H7 := H6
         clear H6)
    have heq := HE.out
    refine start_ (n := 50) (S := fun W_ => Holds w [(bm, .cells (vec m) 24 (0, 0)), (bj, .cells (vec j) 24 (0, 0)), (w.heap.size + 1 + 1, .cells (vec c) 22 (0, 0)), (w.heap.size + 1, .cells (vec b) 22 (0, 0)), (w.heap.size, .cells (vec a) 22 (0, 0))] W_) (ds := []) #[false, false, false, false, false, false, false, false, false, false, false, false, false, false, false, false, false, false, false, false, false, false, false, false, false, false, false, false, false, false, false, false, false, false, false, false, false, false, false, false, false, false, false, false, false, false, false, false, false, false] (by kernel_rfl) rfl rfl (H7.out.drew) (fun hHeld => ?_)
    refine pure_ (i := 0) (N := some 35) (v := ?_) (a' := ?_) #[true, false, false, false, false, false, false, false, false, false, false, false, false, false, false, false, false, false, false, false, false, false, false, false, false, false, false, false, false, false, false, false, false, false, false, false, false, false, false, false, false, false, false, false, false, false, false, false, false, false] rfl rfl (by kernel_rfl) (fun _ _ _ h => h) (Or.inl ⟨by rfl, ?_⟩) ?_ ?_
    rotate_left
    · intro w_
      go_simp
      try with_reducible rfl
    rotate_left
    · simp only [Act.put, List.setIfInBounds_toArray, List.set_cons_zero, List.set_cons_succ]
      rfl
    refine pure_ (i := 1) (N := some 36) (v := ?_) (a' := ?_) #[true, true, false, false, false, false, false, false, false, false, false, false, false, false, false, false, false, false, false, false, false, false, false, false, false, false, false, false, false, false, false, false, false, false, false, false, false, false, false, false, false, false, false, false, false, false, false, false, false, false] rfl rfl (by kernel_rfl) (fun _ _ _ h => h) (Or.inl ⟨by rfl, ?_⟩) ?_ ?_
    rotate_left
    · intro w_
      go_simp
      try with_reducible rfl
    rotate_left
    · simp only [Act.put, List.setIfInBounds_toArray, List.set_cons_zero, List.set_cons_succ]
      rfl
    refine take_ (i := 2) (N := some 37) (v := .agg (vec j)) (a' := ?_) #[true, true, true, false, false, false, false, false, false, false, false, false, false, false, false, false, false, false, false, false, false, false, false, false, false, false, false, false, false, false, false, false, false, false, false, false, false, false, false, false, false, false, false, false, false, false, false, false, false, false] rfl rfl (by kernel_rfl) (fun _ _ _ h => h) (Or.inl ⟨by rfl, fun w' h => run_load_row 24 _ rfl bj rfl 24 _ _ _ (h.get 1 rfl) Try.underlying24 rfl S4.out⟩) hHeld ?_ ?_
    rotate_left
    · simp only [Act.put, List.setIfInBounds_toArray, List.set_cons_zero, List.set_cons_succ]
      rfl
    refine take_ (i := 3) (N := some 38) (v := .agg (vec a)) (a' := ?_) #[true, true, true, true, false, false, false, false, false, false, false, false, false, false, false, false, false, false, false, false, false, false, false, false, false, false, false, false, false, false, false, false, false, false, false, false, false, false, false, false, false, false, false, false, false, false, false, false, false, false] rfl rfl (by kernel_rfl) (fun _ _ _ h => h) (Or.inl ⟨by rfl, fun w' h => run_load_row 22 _ rfl w.heap.size rfl 22 _ _ _ (h.get 4 rfl) Try.underlying22 rfl S1.out⟩) hHeld ?_ ?_
    rotate_left
    · simp only [Act.put, List.setIfInBounds_toArray, List.set_cons_zero, List.set_cons_succ]
      rfl
    refine one_ (i := 4) (N := some 39) #[true, true, true, true, true, false, false, false, false, false, false, false, false, false, false, false, false, false, false, false, false, false, false, false, false, false, false, false, false, false, false, false, false, false, false, false, false, false, false, false, false, false, false, false, false, false, false, false, false, false] rfl rfl (by kernel_rfl) (by decide) (fun K hK => ?_)
    refine goes_ Try.func17 (by kernel_rfl) rfl #[.agg (vec j), .agg (vec a)] (by rfl) rfl rfl (by (try simp only [List.map_toArray, List.map_cons, List.map_nil]); first | done | rfl) ?_
    (with_reducible refine (D1.out _).mono ?_)
    rintro e wr1 ⟨rfl, hr1⟩
    refine ⟨_, rfl, ?_⟩
    refine hK.out _ _ (hHeld.call hr1) (fun hHeld => ?_)
    clear hK K
    refine norm_ (a' := ?_) ?_ ?_
    rotate_left
    · show Act.put _ (some 39) _ = _
      simp only [Act.put, List.setIfInBounds_toArray, List.set_cons_zero, List.set_cons_succ]
      rfl
    refine pure_ (i := 5) (N := some 40) (v := ?_) (a' := ?_) #[true, true, true, true, true, true, false, false, false, false, false, false, false, false, false, false, false, false, false, false, false, false, false, false, false, false, false, false, false, false, false, false, false, false, false, false, false, false, false, false, false, false, false, false, false, false, false, false, false, false] rfl rfl (by kernel_rfl) (fun _ _ _ h => h) (Or.inl ⟨by rfl, ?_⟩) ?_ ?_
    rotate_left
    · intro w_
      go_simp
      try with_reducible rfl
    rotate_left
    · simp only [Act.put, List.setIfInBounds_toArray, List.set_cons_zero, List.set_cons_succ]
      rfl
    refine pure_ (i := 6) (N := some 41) (v := ?_) (a' := ?_) #[true, true, true, true, true, true, true, false, false, false, false, false, false, false, false, false, false, false, false, false, false, false, false, false, false, false, false, false, false, false, false, false, false, false, false, false, false, false, false, false, false, false, false, false, false, false, false, false, false, false] rfl rfl (by kernel_rfl) (fun _ _ _ h => h) (Or.inl ⟨by rfl, ?_⟩) ?_ ?_
    rotate_left
    · intro w_
      go_simp
      try with_reducible rfl
    rotate_left
    · simp only [Act.put, List.setIfInBounds_toArray, List.set_cons_zero, List.set_cons_succ]
      rfl
    refine take_ (i := 7) (N := some 42) (v := .agg (vec j)) (a' := ?_) #[true, true, true, true, true, true, true, true, false, false, false, false, false, false, false, false, false, false, false, false, false, false, false, false, false, false, false, false, false, false, false, false, false, false, false, false, false, false, false, false, false, false, false, false, false, false, false, false, false, false] rfl rfl (by kernel_rfl) (fun _ _ _ h => h) (Or.inl ⟨by rfl, fun w' h => run_load_row 24 _ rfl bj rfl 24 _ _ _ (h.get 1 rfl) Try.underlying24 rfl S4.out⟩) hHeld ?_ ?_
    rotate_left
    · simp only [Act.put, List.setIfInBounds_toArray, List.set_cons_zero, List.set_cons_succ]
      rfl
    refine take_ (i := 8) (N := some 43) (v := .agg (vec b)) (a' := ?_) #[true, true, true, true, true, true, true, true, true, false, false, false, false, false, false, false, false, false, false, false, false, false, false, false, false, false, false, false, false, false, false, false, false, false, false, false, false, false, false, false, false, false, false, false, false, false, false, false, false, false] rfl rfl (by kernel_rfl) (fun _ _ _ h => h) (Or.inl ⟨by rfl, fun w' h => run_load_row 22 _ rfl (w.heap.size + 1) rfl 22 _ _ _ (h.get 3 rfl) Try.underlying22 rfl S2.out⟩) hHeld ?_ ?_
    rotate_left
    · simp only [Act.put, List.setIfInBounds_toArray, List.set_cons_zero, List.set_cons_succ]
      rfl
    refine one_ (i := 9) (N := some 44) #[true, true, true, true, true, true, true, true, true, true, false, false, false, false, false, false, false, false, false, false, false, false, false, false, false, false, false, false, false, false, false, false, false, false, false, false, false, false, false, false, false, false, false, false, false, false, false, false, false, false] rfl rfl (by kernel_rfl) (by decide) (fun K hK => ?_)
    refine goes_ Try.func17 (by kernel_rfl) rfl #[.agg (vec j), .agg (vec b)] (by rfl) rfl rfl (by (try simp only [List.map_toArray, List.map_cons, List.map_nil]); first | done | rfl) ?_
    (with_reducible refine (D2.out _).mono ?_)
    rintro e wr2 ⟨rfl, hr2⟩
    refine ⟨_, rfl, ?_⟩
    refine hK.out _ _ (hHeld.call hr2) (fun hHeld => ?_)
    clear hK K
    refine norm_ (a' := ?_) ?_ ?_
    rotate_left
    · show Act.put _ (some 44) _ = _
      simp only [Act.put, List.setIfInBounds_toArray, List.set_cons_zero, List.set_cons_succ]
      rfl
    refine pure_ (i := 10) (N := some 45) (v := ?_) (a' := ?_) #[true, true, true, true, true, true, true, true, true, true, true, false, false, false, false, false, false, false, false, false, false, false, false, false, false, false, false, false, false, false, false, false, false, false, false, false, false, false, false, false, false, false, false, false, false, false, false, false, false, false] rfl rfl (by kernel_rfl) (fun _ _ _ h => h) (Or.inl ⟨by rfl, ?_⟩) ?_ ?_
    rotate_left
    · intro w_
      go_simp
      try with_reducible rfl
    rotate_left
    · simp only [Act.put, List.setIfInBounds_toArray, List.set_cons_zero, List.set_cons_succ]
      rfl
    refine pure_ (i := 11) (N := some 46) (v := ?_) (a' := ?_) #[true, true, true, true, true, true, true, true, true, true, true, true, false, false, false, false, false, false, false, false, false, false, false, false, false, false, false, false, false, false, false, false, false, false, false, false, false, false, false, false, false, false, false, false, false, false, false, false, false, false] rfl rfl (by kernel_rfl) (fun _ _ _ h => h) (Or.inl ⟨by rfl, ?_⟩) ?_ ?_
    rotate_left
    · intro w_
      go_simp
      try with_reducible rfl
    rotate_left
    · simp only [Act.put, List.setIfInBounds_toArray, List.set_cons_zero, List.set_cons_succ]
      rfl
    refine pure_ (i := 12) (N := some 47) (v := ?_) (a' := ?_) #[true, true, true, true, true, true, true, true, true, true, true, true, true, false, false, false, false, false, false, false, false, false, false, false, false, false, false, false, false, false, false, false, false, false, false, false, false, false, false, false, false, false, false, false, false, false, false, false, false, false] rfl rfl (by kernel_rfl) (fun _ _ _ h => h) (Or.inl ⟨by rfl, ?_⟩) ?_ ?_
    rotate_left
    · intro w_
      go_simp
      try with_reducible rfl
    rotate_left
    · simp only [Act.put, List.setIfInBounds_toArray, List.set_cons_zero, List.set_cons_succ]
      rfl
    refine take_ (i := 13) (N := some 48) (v := .agg (vec c)) (a' := ?_) #[true, true, true, true, true, true, true, true, true, true, true, true, true, true, false, false, false, false, false, false, false, false, false, false, false, false, false, false, false, false, false, false, false, false, false, false, false, false, false, false, false, false, false, false, false, false, false, false, false, false] rfl rfl (by kernel_rfl) (fun _ _ _ h => h) (Or.inl ⟨by rfl, fun w' h => run_load_row 22 _ rfl (w.heap.size + 1 + 1) rfl 22 _ _ _ (h.get 2 rfl) Try.underlying22 rfl S3.out⟩) hHeld ?_ ?_
    rotate_left
    · simp only [Act.put, List.setIfInBounds_toArray, List.set_cons_zero, List.set_cons_succ]
      rfl
    refine take_ (i := 14) (N := some 49) (v := .agg (vec j)) (a' := ?_) #[true, true, true, true, true, true, true, true, true, true, true, true, true, true, true, false, false, false, false, false, false, false, false, false, false, false, false, false, false, false, false, false, false, false, false, false, false, false, false, false, false, false, false, false, false, false, false, false, false, false] rfl rfl (by kernel_rfl) (fun _ _ _ h => h) (Or.inl ⟨by rfl, fun w' h => run_load_row 24 _ rfl bj rfl 24 _ _ _ (h.get 1 rfl) Try.underlying24 rfl S4.out⟩) hHeld ?_ ?_
    rotate_left
    · simp only [Act.put, List.setIfInBounds_toArray, List.set_cons_zero, List.set_cons_succ]
      rfl
    refine one_ (i := 15) (N := some 50) #[true, true, true, true, true, true, true, true, true, true, true, true, true, true, true, true, false, false, false, false, false, false, false, false, false, false, false, false, false, false, false, false, false, false, false, false, false, false, false, false, false, false, false, false, false, false, false, false, false, false] rfl rfl (by kernel_rfl) (by decide) (fun K hK => ?_)
    refine goes_ Try.func17 (by kernel_rfl) rfl #[.agg (vec c), .agg (vec j)] (by rfl) rfl rfl (by (try simp only [List.map_toArray, List.map_cons, List.map_nil]); first | done | rfl) ?_
    (with_reducible refine (D3.out _).mono ?_)
    rintro e wr3 ⟨rfl, hr3⟩
    refine ⟨_, rfl, ?_⟩
    refine hK.out _ _ (hHeld.call hr3) (fun hHeld => ?_)
    clear hK K
    refine norm_ (a' := ?_) ?_ ?_
    rotate_left
    · show Act.put _ (some 50) _ = _
      simp only [Act.put, List.setIfInBounds_toArray, List.set_cons_zero, List.set_cons_succ]
      rfl
    refine pure_ (i := 16) (N := some 51) (v := ?_) (a' := ?_) #[true, true, true, true, true, true, true, true, true, true, true, true, true, true, true, true, true, false, false, false, false, false, false, false, false, false, false, false, false, false, false, false, false, false, false, false, false, false, false, false, false, false, false, false, false, false, false, false, false, false] rfl rfl (by kernel_rfl) (fun _ _ _ h => h) (Or.inl ⟨by rfl, ?_⟩) ?_ ?_
    rotate_left
    · intro w_
      go_simp
      try with_reducible rfl
    rotate_left
    · simp only [Act.put, List.setIfInBounds_toArray, List.set_cons_zero, List.set_cons_succ]
      rfl
    refine pure_ (i := 17) (N := some 52) (v := ?_) (a' := ?_) #[true, true, true, true, true, true, true, true, true, true, true, true, true, true, true, true, true, true, false, false, false, false, false, false, false, false, false, false, false, false, false, false, false, false, false, false, false, false, false, false, false, false, false, false, false, false, false, false, false, false] rfl rfl (by kernel_rfl) (fun _ _ _ h => h) (Or.inl ⟨by rfl, ?_⟩) ?_ ?_
    rotate_left
    · intro w_
      go_simp
      try with_reducible rfl
    rotate_left
    · simp only [Act.put, List.setIfInBounds_toArray, List.set_cons_zero, List.set_cons_succ]
      rfl
    refine pure_ (i := 18) (N := some 53) (v := ?_) (a' := ?_) #[true, true, true, true, true, true, true, true, true, true, true, true, true, true, true, true, true, true, true, false, false, false, false, false, false, false, false, false, false, false, false, false, false, false, false, false, false, false, false, false, false, false, false, false, false, false, false, false, false, false] rfl rfl (by kernel_rfl) (fun _ _ _ h => h) (Or.inl ⟨by rfl, ?_⟩) ?_ ?_
    rotate_left
    · intro w_
      go_simp
      try with_reducible rfl
    rotate_left
    · simp only [Act.put, List.setIfInBounds_toArray, List.set_cons_zero, List.set_cons_succ]
      rfl
    refine take_ (i := 19) (N := some 54) (v := .agg (vec a)) (a' := ?_) #[true, true, true, true, true, true, true, true, true, true, true, true, true, true, true, true, true, true, true, true, false, false, false, false, false, false, false, false, false, false, false, false, false, false, false, false, false, false, false, false, false, false, false, false, false, false, false, false, false, false] rfl rfl (by kernel_rfl) (fun _ _ _ h => h) (Or.inl ⟨by rfl, fun w' h => run_load_row 22 _ rfl w.heap.size rfl 22 _ _ _ (h.get 4 rfl) Try.underlying22 rfl S1.out⟩) hHeld ?_ ?_
    rotate_left
    · simp only [Act.put, List.setIfInBounds_toArray, List.set_cons_zero, List.set_cons_succ]
      rfl
    refine take_ (i := 20) (N := some 55) (v := .agg (vec m)) (a' := ?_) #[true, true, true, true, true, true, true, true, true, true, true, true, true, true, true, true, true, true, true, true, true, false, false, false, false, false, false, false, false, false, false, false, false, false, false, false, false, false, false, false, false, false, false, false, false, false, false, false, false, false] rfl rfl (by kernel_rfl) (fun _ _ _ h => h) (Or.inl ⟨by rfl, fun w' h => run_load_row 24 _ rfl bm rfl 24 _ _ _ (h.get 0 rfl) Try.underlying24 rfl S5.out⟩) hHeld ?_ ?_
    rotate_left
    · simp only [Act.put, List.setIfInBounds_toArray, List.set_cons_zero, List.set_cons_succ]
      rfl
    refine one_ (i := 21) (N := some 56) #[true, true, true, true, true, true, true, true, true, true, true, true, true, true, true, true, true, true, true, true, true, true, false, false, false, false, false, false, false, false, false, false, false, false, false, false, false, false, false, false, false, false, false, false, false, false, false, false, false, false] rfl rfl (by kernel_rfl) (by decide) (fun K hK => ?_)
    refine goes_ Try.func17 (by kernel_rfl) rfl #[.agg (vec a), .agg (vec m)] (by rfl) rfl rfl (by (try simp only [List.map_toArray, List.map_cons, List.map_nil]); first | done | rfl) ?_
    (with_reducible refine (D4.out _).mono ?_)
    rintro e wr4 ⟨rfl, hr4⟩
    refine ⟨_, rfl, ?_⟩
    refine hK.out _ _ (hHeld.call hr4) (fun hHeld => ?_)
    clear hK K
    refine norm_ (a' := ?_) ?_ ?_
    rotate_left
    · show Act.put _ (some 56) _ = _
      simp only [Act.put, List.setIfInBounds_toArray, List.set_cons_zero, List.set_cons_succ]
      rfl
    refine pure_ (i := 22) (N := some 57) (v := ?_) (a' := ?_) #[true, true, true, true, true, true, true, true, true, true, true, true, true, true, true, true, true, true, true, true, true, true, true, false, false, false, false, false, false, false, false, false, false, false, false, false, false, false, false, false, false, false, false, false, false, false, false, false, false, false] rfl rfl (by kernel_rfl) (fun _ _ _ h => h) (Or.inl ⟨by rfl, ?_⟩) ?_ ?_
    rotate_left
    · intro w_
      go_simp
      try with_reducible rfl
    rotate_left
    · simp only [Act.put, List.setIfInBounds_toArray, List.set_cons_zero, List.set_cons_succ]
      rfl
    refine pure_ (i := 23) (N := some 58) (v := ?_) (a' := ?_) #[true, true, true, true, true, true, true, true, true, true, true, true, true, true, true, true, true, true, true, true, true, true, true, true, false, false, false, false, false, false, false, false, false, false, false, false, false, false, false, false, false, false, false, false, false, false, false, false, false, false] rfl rfl (by kernel_rfl) (fun _ _ _ h => h) (Or.inl ⟨by rfl, ?_⟩) ?_ ?_
    rotate_left
    · intro w_
      go_simp
      try with_reducible rfl
    rotate_left
    · simp only [Act.put, List.setIfInBounds_toArray, List.set_cons_zero, List.set_cons_succ]
      rfl
    refine take_ (i := 24) (N := some 59) (v := .agg (vec b)) (a' := ?_) #[true, true, true, true, true, true, true, true, true, true, true, true, true, true, true, true, true, true, true, true, true, true, true, true, true, false, false, false, false, false, false, false, false, false, false, false, false, false, false, false, false, false, false, false, false, false, false, false, false, false] rfl rfl (by kernel_rfl) (fun _ _ _ h => h) (Or.inl ⟨by rfl, fun w' h => run_load_row 22 _ rfl (w.heap.size + 1) rfl 22 _ _ _ (h.get 3 rfl) Try.underlying22 rfl S2.out⟩) hHeld ?_ ?_
    rotate_left
    · simp only [Act.put, List.setIfInBounds_toArray, List.set_cons_zero, List.set_cons_succ]
      rfl
    refine take_ (i := 25) (N := some 60) (v := .agg (vec m)) (a' := ?_) #[true, true, true, true, true, true, true, true, true, true, true, true, true, true, true, true, true, true, true, true, true, true, true, true, true, true, false, false, false, false, false, false, false, false, false, false, false, false, false, false, false, false, false, false, false, false, false, false, false, false] rfl rfl (by kernel_rfl) (fun _ _ _ h => h) (Or.inl ⟨by rfl, fun w' h => run_load_row 24 _ rfl bm rfl 24 _ _ _ (h.get 0 rfl) Try.underlying24 rfl S5.out⟩) hHeld ?_ ?_
    rotate_left
    · simp only [Act.put, List.setIfInBounds_toArray, List.set_cons_zero, List.set_cons_succ]
      rfl
    refine one_ (i := 26) (N := some 61) #[true, true, true, true, true, true, true, true, true, true, true, true, true, true, true, true, true, true, true, true, true, true, true, true, true, true, true, false, false, false, false, false, false, false, false, false, false, false, false, false, false, false, false, false, false, false, false, false, false, false] rfl rfl (by kernel_rfl) (by decide) (fun K hK => ?_)
    refine goes_ Try.func17 (by kernel_rfl) rfl #[.agg (vec b), .agg (vec m)] (by rfl) rfl rfl (by (try simp only [List.map_toArray, List.map_cons, List.map_nil]); first | done | rfl) ?_
    (with_reducible refine (D5.out _).mono ?_)
    rintro e wr5 ⟨rfl, hr5⟩
    refine ⟨_, rfl, ?_⟩
    refine hK.out _ _ (hHeld.call hr5) (fun hHeld => ?_)
    clear hK K
    refine norm_ (a' := ?_) ?_ ?_
    rotate_left
    · show Act.put _ (some 61) _ = _
      simp only [Act.put, List.setIfInBounds_toArray, List.set_cons_zero, List.set_cons_succ]
      rfl
    refine pure_ (i := 27) (N := some 62) (v := ?_) (a' := ?_) #[true, true, true, true, true, true, true, true, true, true, true, true, true, true, true, true, true, true, true, true, true, true, true, true, true, true, true, true, false, false, false, false, false, false, false, false, false, false, false, false, false, false, false, false, false, false, false, false, false, false] rfl rfl (by kernel_rfl) (fun _ _ _ h => h) (Or.inl ⟨by rfl, ?_⟩) ?_ ?_
    rotate_left
    · intro w_
      go_simp
      try with_reducible rfl
    rotate_left
    · simp only [Act.put, List.setIfInBounds_toArray, List.set_cons_zero, List.set_cons_succ]
      rfl
    refine pure_ (i := 28) (N := some 63) (v := ?_) (a' := ?_) #[true, true, true, true, true, true, true, true, true, true, true, true, true, true, true, true, true, true, true, true, true, true, true, true, true, true, true, true, true, false, false, false, false, false, false, false, false, false, false, false, false, false, false, false, false, false, false, false, false, false] rfl rfl (by kernel_rfl) (fun _ _ _ h => h) (Or.inl ⟨by rfl, ?_⟩) ?_ ?_
    rotate_left
    · intro w_
      go_simp
      try with_reducible rfl
    rotate_left
    · simp only [Act.put, List.setIfInBounds_toArray, List.set_cons_zero, List.set_cons_succ]
      rfl
    refine pure_ (i := 29) (N := some 64) (v := ?_) (a' := ?_) #[true, true, true, true, true, true, true, true, true, true, true, true, true, true, true, true, true, true, true, true, true, true, true, true, true, true, true, true, true, true, false, false, false, false, false, false, false, false, false, false, false, false, false, false, false, false, false, false, false, false] rfl rfl (by kernel_rfl) (fun _ _ _ h => h) (Or.inl ⟨by rfl, ?_⟩) ?_ ?_
    rotate_left
    · intro w_
      go_simp
      try with_reducible rfl
    rotate_left
    · simp only [Act.put, List.setIfInBounds_toArray, List.set_cons_zero, List.set_cons_succ]
      rfl
    refine take_ (i := 30) (N := some 65) (v := .agg (vec m)) (a' := ?_) #[true, true, true, true, true, true, true, true, true, true, true, true, true, true, true, true, true, true, true, true, true, true, true, true, true, true, true, true, true, true, true, false, false, false, false, false, false, false, false, false, false, false, false, false, false, false, false, false, false, false] rfl rfl (by kernel_rfl) (fun _ _ _ h => h) (Or.inl ⟨by rfl, fun w' h => run_load_row 24 _ rfl bm rfl 24 _ _ _ (h.get 0 rfl) Try.underlying24 rfl S5.out⟩) hHeld ?_ ?_
    rotate_left
    · simp only [Act.put, List.setIfInBounds_toArray, List.set_cons_zero, List.set_cons_succ]
      rfl
    refine take_ (i := 31) (N := some 66) (v := .agg (vec c)) (a' := ?_) #[true, true, true, true, true, true, true, true, true, true, true, true, true, true, true, true, true, true, true, true, true, true, true, true, true, true, true, true, true, true, true, true, false, false, false, false, false, false, false, false, false, false, false, false, false, false, false, false, false, false] rfl rfl (by kernel_rfl) (fun _ _ _ h => h) (Or.inl ⟨by rfl, fun w' h => run_load_row 22 _ rfl (w.heap.size + 1 + 1) rfl 22 _ _ _ (h.get 2 rfl) Try.underlying22 rfl S3.out⟩) hHeld ?_ ?_
    rotate_left
    · simp only [Act.put, List.setIfInBounds_toArray, List.set_cons_zero, List.set_cons_succ]
      rfl
    refine one_ (i := 32) (N := some 67) #[true, true, true, true, true, true, true, true, true, true, true, true, true, true, true, true, true, true, true, true, true, true, true, true, true, true, true, true, true, true, true, true, true, false, false, false, false, false, false, false, false, false, false, false, false, false, false, false, false, false] rfl rfl (by kernel_rfl) (by decide) (fun K hK => ?_)
    refine goes_ Try.func17 (by kernel_rfl) rfl #[.agg (vec m), .agg (vec c)] (by rfl) rfl rfl (by (try simp only [List.map_toArray, List.map_cons, List.map_nil]); first | done | rfl) ?_
    (with_reducible refine (D6.out _).mono ?_)
    rintro e wr6 ⟨rfl, hr6⟩
    refine ⟨_, rfl, ?_⟩
    refine hK.out _ _ (hHeld.call hr6) (fun hHeld => ?_)
    clear hK K
    refine norm_ (a' := ?_) ?_ ?_
    rotate_left
    · show Act.put _ (some 67) _ = _
      simp only [Act.put, List.setIfInBounds_toArray, List.set_cons_zero, List.set_cons_succ]
      rfl
    refine pure_ (i := 33) (N := some 68) (v := ?_) (a' := ?_) #[true, true, true, true, true, true, true, true, true, true, true, true, true, true, true, true, true, true, true, true, true, true, true, true, true, true, true, true, true, true, true, true, true, true, false, false, false, false, false, false, false, false, false, false, false, false, false, false, false, false] rfl rfl (by kernel_rfl) (fun _ _ _ h => h) (Or.inl ⟨by rfl, ?_⟩) ?_ ?_
    rotate_left
    · intro w_
      go_simp
      try with_reducible rfl
    rotate_left
    · simp only [Act.put, List.setIfInBounds_toArray, List.set_cons_zero, List.set_cons_succ]
      rfl
    refine pure_ (i := 34) (N := some 69) (v := ?_) (a' := ?_) #[true, true, true, true, true, true, true, true, true, true, true, true, true, true, true, true, true, true, true, true, true, true, true, true, true, true, true, true, true, true, true, true, true, true, true, false, false, false, false, false, false, false, false, false, false, false, false, false, false, false] rfl rfl (by kernel_rfl) (fun _ _ _ h => h) (Or.inl ⟨by rfl, ?_⟩) ?_ ?_
    rotate_left
    · intro w_
      go_simp
      try with_reducible rfl
    rotate_left
    · simp only [Act.put, List.setIfInBounds_toArray, List.set_cons_zero, List.set_cons_succ]
      rfl
    refine pure_ (i := 35) (N := some 70) (v := ?_) (a' := ?_) #[true, true, true, true, true, true, true, true, true, true, true, true, true, true, true, true, true, true, true, true, true, true, true, true, true, true, true, true, true, true, true, true, true, true, true, true, false, false, false, false, false, false, false, false, false, false, false, false, false, false] rfl rfl (by kernel_rfl) (fun _ _ _ h => h) (Or.inl ⟨by rfl, ?_⟩) ?_ ?_
    rotate_left
    · intro w_
      go_simp
      try with_reducible rfl
    rotate_left
    · simp only [Act.put, List.setIfInBounds_toArray, List.set_cons_zero, List.set_cons_succ]
      rfl
    refine take_ (i := 36) (N := some 71) (v := .agg (vec a)) (a' := ?_) #[true, true, true, true, true, true, true, true, true, true, true, true, true, true, true, true, true, true, true, true, true, true, true, true, true, true, true, true, true, true, true, true, true, true, true, true, true, false, false, false, false, false, false, false, false, false, false, false, false, false] rfl rfl (by kernel_rfl) (fun _ _ _ h => h) (Or.inl ⟨by rfl, fun w' h => run_load_row 22 _ rfl w.heap.size rfl 22 _ _ _ (h.get 4 rfl) Try.underlying22 rfl S1.out⟩) hHeld ?_ ?_
    rotate_left
    · simp only [Act.put, List.setIfInBounds_toArray, List.set_cons_zero, List.set_cons_succ]
      rfl
    refine take_ (i := 37) (N := some 72) (v := .agg (vec b)) (a' := ?_) #[true, true, true, true, true, true, true, true, true, true, true, true, true, true, true, true, true, true, true, true, true, true, true, true, true, true, true, true, true, true, true, true, true, true, true, true, true, true, false, false, false, false, false, false, false, false, false, false, false, false] rfl rfl (by kernel_rfl) (fun _ _ _ h => h) (Or.inl ⟨by rfl, fun w' h => run_load_row 22 _ rfl (w.heap.size + 1) rfl 22 _ _ _ (h.get 3 rfl) Try.underlying22 rfl S2.out⟩) hHeld ?_ ?_
    rotate_left
    · simp only [Act.put, List.setIfInBounds_toArray, List.set_cons_zero, List.set_cons_succ]
      rfl
    refine take_ (i := 44) (N := some 79) (v := .agg (vec a)) (a' := ?_) #[true, true, true, true, true, true, true, true, true, true, true, true, true, true, true, true, true, true, true, true, true, true, true, true, true, true, true, true, true, true, true, true, true, true, true, true, true, true, false, false, false, false, false, false, true, false, false, false, false, false] rfl rfl (by kernel_rfl) (fun _ _ _ h => h) (Or.inl ⟨by rfl, fun w' h => run_load_row 22 _ rfl w.heap.size rfl 22 _ _ _ (h.get 4 rfl) Try.underlying22 rfl S1.out⟩) hHeld ?_ ?_
    rotate_left
    · simp only [Act.put, List.setIfInBounds_toArray, List.set_cons_zero, List.set_cons_succ]
      rfl
    refine take_ (i := 45) (N := some 80) (v := .agg (vec b)) (a' := ?_) #[true, true, true, true, true, true, true, true, true, true, true, true, true, true, true, true, true, true, true, true, true, true, true, true, true, true, true, true, true, true, true, true, true, true, true, true, true, true, false, false, false, false, false, false, true, true, false, false, false, false] rfl rfl (by kernel_rfl) (fun _ _ _ h => h) (Or.inl ⟨by rfl, fun w' h => run_load_row 22 _ rfl (w.heap.size + 1) rfl 22 _ _ _ (h.get 3 rfl) Try.underlying22 rfl S2.out⟩) hHeld ?_ ?_
    rotate_left
    · simp only [Act.put, List.setIfInBounds_toArray, List.set_cons_zero, List.set_cons_succ]
      rfl
    refine pure_ (i := 46) (N := some 81) (v := ?_) (a' := ?_) #[true, true, true, true, true, true, true, true, true, true, true, true, true, true, true, true, true, true, true, true, true, true, true, true, true, true, true, true, true, true, true, true, true, true, true, true, true, true, false, false, false, false, false, false, true, true, true, false, false, false] rfl rfl (by kernel_rfl) (fun _ _ _ h => h) (Or.inl ⟨by rfl, ?_⟩) ?_ ?_
    rotate_left
    · intro w_
      go_simp
      try with_reducible rfl
    rotate_left
    · simp only [Act.put, List.setIfInBounds_toArray, List.set_cons_zero, List.set_cons_succ]
      rfl
    refine one_ (i := 38) (N := some 73) #[true, true, true, true, true, true, true, true, true, true, true, true, true, true, true, true, true, true, true, true, true, true, true, true, true, true, true, true, true, true, true, true, true, true, true, true, true, true, true, false, false, false, false, false, true, true, true, false, false, false] rfl rfl (by kernel_rfl) (by decide) (fun K hK => ?_)
    refine goes_ Try.func17 (by kernel_rfl) rfl #[.agg (vec a), .agg (vec b)] (by rfl) rfl rfl (by (try simp only [List.map_toArray, List.map_cons, List.map_nil]); first | done | rfl) ?_
    (with_reducible refine (D7.out _).mono ?_)
    rintro e wr7 ⟨rfl, hr7⟩
    refine ⟨_, rfl, ?_⟩
    refine hK.out _ _ (hHeld.call hr7) (fun hHeld => ?_)
    clear hK K
    refine norm_ (a' := ?_) ?_ ?_
    rotate_left
    · show Act.put _ (some 73) _ = _
      simp only [Act.put, List.setIfInBounds_toArray, List.set_cons_zero, List.set_cons_succ]
      rfl
    refine pure_ (i := 39) (N := some 74) (v := ?_) (a' := ?_) #[true, true, true, true, true, true, true, true, true, true, true, true, true, true, true, true, true, true, true, true, true, true, true, true, true, true, true, true, true, true, true, true, true, true, true, true, true, true, true, true, false, false, false, false, true, true, true, false, false, false] rfl rfl (by kernel_rfl) (fun _ _ _ h => h) (Or.inl ⟨by rfl, ?_⟩) ?_ ?_
    rotate_left
    · intro w_
      go_simp
      try with_reducible rfl
    rotate_left
    · simp only [Act.put, List.setIfInBounds_toArray, List.set_cons_zero, List.set_cons_succ]
      rfl
    first
      | (refine take_ (i := 40) (N := some 75) (v := .agg (vec b)) (a' := ?_) #[true, true, true, true, true, true, true, true, true, true, true, true, true, true, true, true, true, true, true, true, true, true, true, true, true, true, true, true, true, true, true, true, true, true, true, true, true, true, true, true, true, false, false, false, true, true, true, false, false, false] rfl rfl (by kernel_rfl) (fun _ _ _ h => h) (Or.inl ⟨by rfl, fun w' h => run_load_row 22 _ rfl (w.heap.size + 1) rfl 22 _ _ _ (h.get 3 rfl) Try.underlying22 rfl S2.out⟩) hHeld ?_ ?_
         rotate_left
         · simp only [Act.put, List.setIfInBounds_toArray, List.set_cons_zero, List.set_cons_succ]
           rfl)
      | (refine pure_ (i := 40) (N := some 75) (v := undef) (a' := ?_) #[true, true, true, true, true, true, true, true, true, true, true, true, true, true, true, true, true, true, true, true, true, true, true, true, true, true, true, true, true, true, true, true, true, true, true, true, true, true, true, true, true, false, false, false, true, true, true, false, false, false] rfl rfl (by kernel_rfl) (fun _ _ _ h => h) (Or.inr ⟨by rfl, rfl⟩) ?_ ?_
         rotate_left
         · simp only [Act.put, List.setIfInBounds_toArray, List.set_cons_zero, List.set_cons_succ]
           rfl)
    first
      | (refine take_ (i := 41) (N := some 76) (v := .agg (vec a)) (a' := ?_) #[true, true, true, true, true, true, true, true, true, true, true, true, true, true, true, true, true, true, true, true, true, true, true, true, true, true, true, true, true, true, true, true, true, true, true, true, true, true, true, true, true, true, false, false, true, true, true, false, false, false] rfl rfl (by kernel_rfl) (fun _ _ _ h => h) (Or.inl ⟨by rfl, fun w' h => run_load_row 22 _ rfl w.heap.size rfl 22 _ _ _ (h.get 4 rfl) Try.underlying22 rfl S1.out⟩) hHeld ?_ ?_
         rotate_left
         · simp only [Act.put, List.setIfInBounds_toArray, List.set_cons_zero, List.set_cons_succ]
           rfl)
      | (refine pure_ (i := 41) (N := some 76) (v := undef) (a' := ?_) #[true, true, true, true, true, true, true, true, true, true, true, true, true, true, true, true, true, true, true, true, true, true, true, true, true, true, true, true, true, true, true, true, true, true, true, true, true, true, true, true, true, true, false, false, true, true, true, false, false, false] rfl rfl (by kernel_rfl) (fun _ _ _ h => h) (Or.inr ⟨by rfl, rfl⟩) ?_ ?_
         rotate_left
         · simp only [Act.put, List.setIfInBounds_toArray, List.set_cons_zero, List.set_cons_succ]
           rfl)
    first
      | (refine one_ (i := 42) (N := some 77) #[true, true, true, true, true, true, true, true, true, true, true, true, true, true, true, true, true, true, true, true, true, true, true, true, true, true, true, true, true, true, true, true, true, true, true, true, true, true, true, true, true, true, true, false, true, true, true, false, false, false] rfl rfl (by kernel_rfl) (by decide) (fun K hK => ?_)
         refine goes_ Try.func17 (by kernel_rfl) rfl #[.agg (vec b), .agg (vec a)] (by rfl) rfl rfl (by (try simp only [List.map_toArray, List.map_cons, List.map_nil]); first | done | rfl) ?_
         (with_reducible refine (D8.out _).mono ?_)
         rintro e wr8 ⟨rfl, hr8⟩
         refine ⟨_, rfl, ?_⟩
         refine hK.out _ _ (hHeld.call hr8) (fun hHeld => ?_)
         clear hK K
         refine norm_ (a' := ?_) ?_ ?_
         rotate_left
         · show Act.put _ (some 77) _ = _
           simp only [Act.put, List.setIfInBounds_toArray, List.set_cons_zero, List.set_cons_succ]
           rfl)
      | (refine pure_ (i := 42) (N := some 77) (v := undef) (a' := ?_) #[true, true, true, true, true, true, true, true, true, true, true, true, true, true, true, true, true, true, true, true, true, true, true, true, true, true, true, true, true, true, true, true, true, true, true, true, true, true, true, true, true, true, true, false, true, true, true, false, false, false] rfl rfl (by kernel_rfl) (fun _ _ _ h => h) (Or.inr ⟨by rfl, rfl⟩) ?_ ?_
         rotate_left
         · simp only [Act.put, List.setIfInBounds_toArray, List.set_cons_zero, List.set_cons_succ]
           rfl)
    refine pure_ (i := 43) (N := some 78) (v := ?_) (a' := ?_) #[true, true, true, true, true, true, true, true, true, true, true, true, true, true, true, true, true, true, true, true, true, true, true, true, true, true, true, true, true, true, true, true, true, true, true, true, true, true, true, true, true, true, true, true, true, true, true, false, false, false] rfl rfl (by kernel_rfl) (fun _ _ _ h => h) (Or.inl ⟨by rfl, ?_⟩) ?_ ?_
    rotate_left
    · intro w_
      go_simp
      try with_reducible rfl
    rotate_left
    · simp only [Act.put, List.setIfInBounds_toArray, List.set_cons_zero, List.set_cons_succ]
      rfl
    refine pure_ (i := 47) (N := some 82) (v := ?_) (a' := ?_) #[true, true, true, true, true, true, true, true, true, true, true, true, true, true, true, true, true, true, true, true, true, true, true, true, true, true, true, true, true, true, true, true, true, true, true, true, true, true, true, true, true, true, true, true, true, true, true, true, false, false] rfl rfl (by kernel_rfl) (fun _ _ _ h => h) (Or.inl ⟨by rfl, ?_⟩) ?_ ?_
    rotate_left
    · intro w_
      go_simp
      try with_reducible rfl
    rotate_left
    · simp only [Act.put, List.setIfInBounds_toArray, List.set_cons_zero, List.set_cons_succ]
      rfl
    refine pure_ (i := 48) (N := some 83) (v := ?_) (a' := ?_) #[true, true, true, true, true, true, true, true, true, true, true, true, true, true, true, true, true, true, true, true, true, true, true, true, true, true, true, true, true, true, true, true, true, true, true, true, true, true, true, true, true, true, true, true, true, true, true, true, true, false] rfl rfl (by kernel_rfl) (fun _ _ _ h => h) (Or.inl ⟨by rfl, ?_⟩) ?_ ?_
    rotate_left
    · intro w_
      go_simp
      try with_reducible rfl
    rotate_left
    · simp only [Act.put, List.setIfInBounds_toArray, List.set_cons_zero, List.set_cons_succ]
      rfl
    refine pure_ (i := 49) (N := some 6) (v := ?_) (a' := ?_) #[true, true, true, true, true, true, true, true, true, true, true, true, true, true, true, true, true, true, true, true, true, true, true, true, true, true, true, true, true, true, true, true, true, true, true, true, true, true, true, true, true, true, true, true, true, true, true, true, true, true] rfl rfl (by kernel_rfl) (fun _ _ _ h => h) (Or.inl ⟨by rfl, ?_⟩) ?_ ?_
    rotate_left
    · intro w_
      go_simp
      try with_reducible rfl
    rotate_left
    · simp only [Act.put, List.setIfInBounds_toArray, List.set_cons_zero, List.set_cons_succ]
      rfl
    refine done_ (by kernel_rfl) ?_
    go_wp2_with fail
    go_ret
    exact ⟨by first | rfl | simp, hHeld.2⟩
end Go.Proofs.Ytfcopeecgbgljaa
