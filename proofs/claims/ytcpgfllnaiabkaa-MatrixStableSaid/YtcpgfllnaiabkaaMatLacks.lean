/- matrix: Row where there is none, Lacks; nobody's matrix: their contracts. -/
import Derived.Test.YtcpgfllnaiabkaaMatTell
namespace Go.Proofs.Ytcpgfllnaiabkaa
open Go.RowKit Go.Proofs.YtcpgfllnaiabkaaW.PrintWords Go.Proofs.YtcpgfllnaiabkaaW.PrintLast Go.Proofs.YtcpgfllnaiabkaaW.PrintMore
set_option linter.unusedVariables false
set_option linter.unusedSimpArgs false

/-- What Row tells. -/
def rowAt (n : Int) (L : List Int) (rep : Int) : List Int := if inM n rep then rowM L rep.toNat else zero9
theorem rowAt_len {n : Int} {L : List Int} (hL : L.length = 72) (hn : n ≤ 8) (rep : Int) : (rowAt n L rep).length = 9 := by
  unfold rowAt
  split
  · rename_i h
    simp [inM] at h
    exact rowM_len hL (by omega)
  · rfl
set_option maxHeartbeats 1000000 in
set_option maxRecDepth 100000 in
theorem mat_Row_off {b : Nat} {n : Int} {L : List Int} {w : World} (h : MatIs b n L w) (rep : Int) (hi : inM n rep = false) :
    Calls Try.prog 15 #[.pointer (some ⟨b, 0, none⟩), .int .i64 rep] w fun e w' => e = .returned (.agg (vec zero9)) ∧ Below w.heap.size w w' := by
  have hz := zeroRow
  have hlt := (Array.getElem?_eq_some_iff.1 h).1
  have H0 := Hd.mk (Holds.start1 w (.cells (vec zero9) 38))
  have HI := Hd.mk (fun (w' : World) (h' : MatIs b n L w') => mat_in rep h')
  rw [hi] at HI
  have HM := Hd.mk ((heap_alloc_old w (.cells (vec zero9) 38) hlt).trans h)
  clear h hlt hi
  go_enter Try.func15, Try.ntmps15
  go_upto_region 1 with (fail)
  clear hz
  generalize w.alloc (.cells (vec zero9) 38) = W at *
  go_wp2_with fail
  refine (HI.out _ HM.out).mono ?_; rintro e w1 ⟨rfl, h1⟩
  have H1 := Hd.mk (H0.out.call h1)
  clear H0 h1 HI HM
  go_wp2_with (first | ((with_reducible refine gate_dst (N := 9) rfl ?_); refine wpList_build rfl _ _ rfl #[] (by simp) (.agg (vec zero9)) (build_none _) ?_) | ((with_reducible refine gate_store (t := 38) rfl ?_); refine wpList_store_row rfl _ _ _ rfl w.heap.size (vec zero9) rfl rfl 38 (vec zero9) (H1.out.get 0 rfl) size_row rfl (vec_one _) ?_))
  exact bodyPost_ret (results_cell_row (p := 4) rfl _ _ w.heap.size 38 (vec zero9) (0, 0) _ rfl (setRow_heap _ _ _ _ _ _ (H1.out.get 0 rfl)) Try.underlying38 rfl size_row) rfl ⟨rfl, below_setRow H1.out.2 (Nat.le_refl _) _⟩
set_option maxHeartbeats 1000000 in
set_option maxRecDepth 100000 in
theorem nil_Row (rep : Int) (w : World) :
    Calls Try.prog 15 #[.pointer none, .int .i64 rep] w fun e w' => e = .returned (.agg (vec zero9)) ∧ Below w.heap.size w w' := by
  have hz := zeroRow
  have H0 := Hd.mk (Holds.start1 w (.cells (vec zero9) 38))
  have HI := Hd.mk (nil_in rep)
  go_enter Try.func15, Try.ntmps15
  go_upto_region 1 with (fail)
  clear hz
  generalize w.alloc (.cells (vec zero9) 38) = W at *
  go_wp2_with fail
  refine (HI.out _).mono ?_; rintro e w1 ⟨rfl, h1⟩
  have H1 := Hd.mk (H0.out.call h1)
  clear H0 h1 HI
  go_wp2_with (first | ((with_reducible refine gate_dst (N := 9) rfl ?_); refine wpList_build rfl _ _ rfl #[] (by simp) (.agg (vec zero9)) (build_none _) ?_) | ((with_reducible refine gate_store (t := 38) rfl ?_); refine wpList_store_row rfl _ _ _ rfl w.heap.size (vec zero9) rfl rfl 38 (vec zero9) (H1.out.get 0 rfl) size_row rfl (vec_one _) ?_))
  exact bodyPost_ret (results_cell_row (p := 4) rfl _ _ w.heap.size 38 (vec zero9) (0, 0) _ rfl (setRow_heap _ _ _ _ _ _ (H1.out.get 0 rfl)) Try.underlying38 rfl size_row) rfl ⟨rfl, below_setRow H1.out.2 (Nat.le_refl _) _⟩
theorem mat_RowAt {b : Nat} {n : Int} {L : List Int} {w : World} (h : MatIs b n L w) (hL : L.length = 72) (hn : n ≤ 8) (rep : Int) :
    Calls Try.prog 15 #[.pointer (some ⟨b, 0, none⟩), .int .i64 rep] w fun e w' => e = .returned (.agg (vec (rowAt n L rep))) ∧ Below w.heap.size w w' := by
  unfold rowAt
  cases hi : inM n rep with
  | false => simpa using mat_Row_off h rep hi
  | true =>
    simp [inM] at hi
    obtain ⟨k, rfl⟩ : ∃ k : Nat, rep = (k : Int) := ⟨rep.toNat, by omega⟩
    simpa using mat_Row h hL k hi.2 (by omega)

set_option maxHeartbeats 1000000 in
set_option maxRecDepth 100000 in
theorem mat_Lacks {b : Nat} {n : Int} {L r : List Int} {w : World} (h : MatIs b n L w) (hL : L.length = 72) (hn : n ≤ 8) (rep : Int) (hr : r.length = 9) :
    Calls Try.prog 21 #[.pointer (some ⟨b, 0, none⟩), .int .i64 rep, .agg (vec r)] w fun e w' => e = .returned (.bool (!(eqV (joinL (rowAt n L rep) r) (rowAt n L rep)))) ∧ Below w.heap.size w w' := by
  have hlt := (Array.getElem?_eq_some_iff.1 h).1
  have H0 := Hd.mk (Holds.start1 w (.cells (vec r) 38))
  have HM := Hd.mk ((heap_alloc_old w (.cells (vec r) 38) hlt).trans h)
  have HR := Hd.mk (fun (w' : World) (h' : Holds w [(w.heap.size, .cells (vec r) 38 (0, 0))] w' ∧ MatIs b n L w') => mat_RowAt h'.2 hL hn rep)
  have h9 := rowAt_len hL hn (n := n) rep
  have HJ := Hd.mk (row_Merge (rowAt n L rep) r h9 hr)
  have HE := Hd.mk (fun w => eqRow 9997 (join9 h9 hr) h9 w)
  have HR9 := Hd.mk (show (Try.prog.info? 38).map (·.size) = some (vec r).size by rw [vec_size, hr]; exact size_row)
  clear h hlt hL hn hr h9
  generalize joinL (rowAt n L rep) r = j at *
  generalize rowAt n L rep = row at *
  generalize eqV j row = q at *
  go_enter Try.func21, Try.ntmps21
  go_upto_region 1 with (fail)
  generalize w.alloc (.cells (vec r) 38) = W at *
  refine start_ (n := 10) (S := fun W_ => Holds w [(w.heap.size, .cells (vec r) 38 (0, 0))] W_ ∧ MatIs b n L W_) (ds := []) #[false, false, false, false, false, false, false, false, false, false] (by kernel_rfl) rfl rfl (⟨H0.out.drew, HM.out⟩) (fun hHeld => ?_)
  refine pure_ (i := 0) (N := some 7) (v := ?_) (a' := ?_) #[true, false, false, false, false, false, false, false, false, false] rfl rfl (by kernel_rfl) (fun _ _ _ h => h) (Or.inl ⟨by rfl, ?_⟩) ?_ ?_
  rotate_left
  · intro w_
    go_simp
    try with_reducible rfl
  rotate_left
  · simp only [Act.put, List.setIfInBounds_toArray, List.set_cons_zero, List.set_cons_succ]
    rfl
  refine pure_ (i := 1) (N := some 8) (v := ?_) (a' := ?_) #[true, true, false, false, false, false, false, false, false, false] rfl rfl (by kernel_rfl) (fun _ _ _ h => h) (Or.inl ⟨by rfl, ?_⟩) ?_ ?_
  rotate_left
  · intro w_
    go_simp
    try with_reducible rfl
  rotate_left
  · simp only [Act.put, List.setIfInBounds_toArray, List.set_cons_zero, List.set_cons_succ]
    rfl
  refine take_ (i := 3) (N := some 10) (v := .agg (vec r)) (a' := ?_) #[true, true, false, true, false, false, false, false, false, false] rfl rfl (by kernel_rfl) (fun _ _ _ h => h) (Or.inl ⟨by rfl, fun w' h => run_load_row 38 _ rfl w.heap.size rfl 38 _ _ _ (h.1.get 0 rfl) Try.underlying38 rfl HR9.out⟩) hHeld ?_ ?_
  rotate_left
  · simp only [Act.put, List.setIfInBounds_toArray, List.set_cons_zero, List.set_cons_succ]
    rfl
  refine pure_ (i := 5) (N := some 12) (v := ?_) (a' := ?_) #[true, true, false, true, false, true, false, false, false, false] rfl rfl (by kernel_rfl) (fun _ _ _ h => h) (Or.inl ⟨by rfl, ?_⟩) ?_ ?_
  rotate_left
  · intro w_
    go_simp
    try with_reducible rfl
  rotate_left
  · simp only [Act.put, List.setIfInBounds_toArray, List.set_cons_zero, List.set_cons_succ]
    rfl
  refine pure_ (i := 6) (N := some 13) (v := ?_) (a' := ?_) #[true, true, false, true, false, true, true, false, false, false] rfl rfl (by kernel_rfl) (fun _ _ _ h => h) (Or.inl ⟨by rfl, ?_⟩) ?_ ?_
  rotate_left
  · intro w_
    go_simp
    try with_reducible rfl
  rotate_left
  · simp only [Act.put, List.setIfInBounds_toArray, List.set_cons_zero, List.set_cons_succ]
    rfl
  refine one_ (i := 2) (N := some 9) #[true, true, true, true, false, true, true, false, false, false] rfl rfl (by kernel_rfl) (by decide) (fun K hK => ?_)
  refine goes_ Try.func15 (by kernel_rfl) rfl #[.pointer (some ⟨b, 0, none⟩), .int .i64 rep] (by rfl) rfl rfl (by (try simp only [List.map_toArray, List.map_cons, List.map_nil]); first | done | rfl) ?_
  (with_reducible refine (HR.out _ hHeld).mono ?_)
  rintro e wr1 ⟨rfl, hr1⟩
  refine ⟨_, rfl, ?_⟩
  refine hK.out _ _ (⟨hHeld.1.call hr1, (hr1.block _ (Array.getElem?_eq_some_iff.1 hHeld.2).1).trans hHeld.2⟩) (fun hHeld => ?_)
  clear hK K
  refine norm_ (a' := ?_) ?_ ?_
  rotate_left
  · show Act.put _ (some 9) _ = _
    simp only [Act.put, List.setIfInBounds_toArray, List.set_cons_zero, List.set_cons_succ]
    rfl
  refine one_ (i := 4) (N := some 11) #[true, true, true, true, true, true, true, false, false, false] rfl rfl (by kernel_rfl) (by decide) (fun K hK => ?_)
  refine goes_ Try.func13 (by kernel_rfl) rfl #[.agg (vec row), .agg (vec r)] (by rfl) rfl rfl (by (try simp only [List.map_toArray, List.map_cons, List.map_nil]); first | done | rfl) ?_
  (with_reducible refine (HJ.out _).mono ?_)
  rintro e wr2 ⟨rfl, hr2⟩
  refine ⟨_, rfl, ?_⟩
  refine hK.out _ _ (⟨hHeld.1.call hr2, (hr2.block _ (Array.getElem?_eq_some_iff.1 hHeld.2).1).trans hHeld.2⟩) (fun hHeld => ?_)
  clear hK K
  refine norm_ (a' := ?_) ?_ ?_
  rotate_left
  · show Act.put _ (some 11) _ = _
    simp only [Act.put, List.setIfInBounds_toArray, List.set_cons_zero, List.set_cons_succ]
    rfl
  refine one_ (i := 7) (N := some 14) #[true, true, true, true, true, true, true, true, false, false] rfl rfl (by kernel_rfl) (by decide) (fun K hK => ?_)
  refine goes_ Try.func15 (by kernel_rfl) rfl #[.pointer (some ⟨b, 0, none⟩), .int .i64 rep] (by rfl) rfl rfl (by (try simp only [List.map_toArray, List.map_cons, List.map_nil]); first | done | rfl) ?_
  (with_reducible refine (HR.out _ hHeld).mono ?_)
  rintro e wr3 ⟨rfl, hr3⟩
  refine ⟨_, rfl, ?_⟩
  refine hK.out _ _ (⟨hHeld.1.call hr3, (hr3.block _ (Array.getElem?_eq_some_iff.1 hHeld.2).1).trans hHeld.2⟩) (fun hHeld => ?_)
  clear hK K
  refine norm_ (a' := ?_) ?_ ?_
  rotate_left
  · show Act.put _ (some 14) _ = _
    simp only [Act.put, List.setIfInBounds_toArray, List.set_cons_zero, List.set_cons_succ]
    rfl
  refine take_ (i := 8) (N := some 15) (v := .bool (!q)) (a' := ?_) #[true, true, true, true, true, true, true, true, true, false] rfl rfl (by kernel_rfl) (fun _ _ _ h => h) (Or.inl ⟨by rfl, fun w' h => by have heq := HE.out; go_simp⟩) hHeld ?_ ?_
  rotate_left
  · simp only [Act.put, List.setIfInBounds_toArray, List.set_cons_zero, List.set_cons_succ]
    rfl
  refine pure_ (i := 9) (N := some 6) (v := ?_) (a' := ?_) #[true, true, true, true, true, true, true, true, true, true] rfl rfl (by kernel_rfl) (fun _ _ _ h => h) (Or.inl ⟨by rfl, ?_⟩) ?_ ?_
  rotate_left
  · intro w_
    go_simp
    try with_reducible rfl
  rotate_left
  · simp only [Act.put, List.setIfInBounds_toArray, List.set_cons_zero, List.set_cons_succ]
    rfl
  refine done_ (by kernel_rfl) ?_
  go_wp2
  go_ret
  exact ⟨rfl, hHeld.1.2⟩

set_option maxRecDepth 100000 in
theorem nil_Tell (rep : Int) (r : List Int) (w : World) :
    Calls Try.prog 12 #[.pointer none, .int .i64 rep, .agg (vec r)] w fun e w' => e = .returned (.bool false) ∧ Below w.heap.size w w' := by
  have H0 := Hd.mk (Holds.start1 w (.cells (vec r) 38))
  have HI := Hd.mk (nil_in rep)
  go_enter Try.func12, Try.ntmps12
  go_upto_region 1 with (fail)
  generalize w.alloc (.cells (vec r) 38) = W at *
  go_wp2_with fail
  refine (HI.out _).mono ?_; rintro e w1 ⟨rfl, h1⟩
  have H1 := Hd.mk (H0.out.call h1)
  clear H0 h1 HI
  go_wp2_with fail
  go_ret
  exact ⟨rfl, H1.out.2⟩
theorem nil_Stable (w : World) :
    Calls Try.prog 10 #[.pointer none] w fun e w' => e = .returned (.int .i64 0) ∧ Below w.heap.size w w' := by
  go_enter Try.func10, Try.ntmps10
  go_wp2_with fail
  go_ret
  exact ⟨rfl, Below.refl _ _⟩
end Go.Proofs.Ytcpgfllnaiabkaa
