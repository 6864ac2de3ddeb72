/- matrix: Tell, Lacks: their contracts; nobody's matrix. -/
import Derived.Test.YtcpgfllnaiabkaaMatRow
namespace Go.Proofs.Ytcpgfllnaiabkaa
open Go.RowKit Go.Proofs.YtcpgfllnaiabkaaW.PrintWords Go.Proofs.YtcpgfllnaiabkaaW.PrintLast Go.Proofs.YtcpgfllnaiabkaaW.PrintMore
set_option linter.unusedVariables false
set_option linter.unusedSimpArgs false

/-- Nothing has turned but one block. -/
structure But (b : Nat) (w w' : World) : Prop where
  os : w'.os = w.os
  tape : w'.tape = w.tape
  output : w'.output = w.output
  size : w.heap.size ≤ w'.heap.size
  block : ∀ k, k < w.heap.size → k ≠ b → w'.heap[k]? = w.heap[k]?
theorem but_of {b : Nat} {w W : World} (h : Below w.heap.size w W) (hb : b < w.heap.size) (o : Nat) (vs : List Value) : But b w (W.setCells b o vs) := by
  obtain ⟨h1, h2, h3, h4, h5⟩ := setCells_keep b vs o W
  exact ⟨h1.trans h.os, h2.trans h.tape, h3.trans h.output, Nat.le_trans h.size (Nat.le_of_eq h4.symm), fun k hk hne => (h5 k hne).trans (h.block k hk)⟩
theorem But.below {b n : Nat} {a w w' : World} (h : But b w w') (hb : Below n a w) (hn : n ≤ b) (hs : n ≤ w.heap.size) : Below n a w' :=
  hb.trans ⟨h.os, h.tape, h.output, h.size, fun k hk => h.block k (by omega) (by omega)⟩
/-- Blocks that are held, and a matrix that is none of them. -/
structure MH (w : World) (l : List (Nat × Obj)) (b : Nat) (n : Int) (L : List Int) (W : World) : Prop where
  held : Holds w l W
  mat : MatIs b n L W
  ne : ∀ p ∈ l, p.1 ≠ b
  out : w.heap.size ≤ b
theorem MH.call {w : World} {l : List (Nat × Obj)} {b : Nat} {n : Int} {L : List Int} {W W' : World} (h : MH w l b n L W) (hb : Below W.heap.size W W') : MH w l b n L W' :=
  ⟨h.held.call hb, (hb.block _ (Array.getElem?_eq_some_iff.1 h.mat).1).trans h.mat, h.ne, h.out⟩
theorem MH.tell {w : World} {l : List (Nat × Obj)} {b : Nat} {n : Int} {L L' : List Int} {W W' : World} (h : MH w l b n L W) (hb : But b W W') (hm : MatIs b n L' W') : MH w l b n L' W' :=
  ⟨⟨fun p hp => (hb.block _ (Array.getElem?_eq_some_iff.1 (h.held.1 p hp)).1 (h.ne p hp)).trans (h.held.1 p hp), hb.below h.held.2 h.out h.held.2.size⟩, hm, h.ne, h.out⟩
theorem MH.drew {w : World} {l : List (Nat × Obj)} {b : Nat} {n : Int} {L : List Int} {W : World} (h : MH w l b n L W) : MH w l b n L W.drew := ⟨h.held.drew, h.mat, h.ne, h.out⟩
theorem NewHolds.mh {w : World} {b : Nat} {n : Int} {L : List Int} {l : List (Nat × Obj)} {W : World} (h : NewHolds w b (.cells (vec (n :: L)) 71 (0, 0)) l W) : MH w l b n L W :=
  ⟨h.tail, h.1.get 0 rfl, fun p hp => Nat.ne_of_lt (h.2.2 p hp), h.2.1⟩

/-- A replica's row says more. -/
def tellM (L : List Int) (k : Nat) (r : List Int) : List Int := layL L (9 * k) (joinL (rowM L k) r)
theorem tellM_len {L r : List Int} {k : Nat} (hL : L.length = 72) (hk : k < 8) (hr : r.length = 9) : (tellM L k r).length = 72 := by
  unfold tellM
  have h : (joinL (rowM L k) r).length = 9 := by unfold joinL bothL; rw [List.length_zipWith, rowM_len hL hk, hr]; rfl
  rw [layL_len (by rw [h]; omega)]; exact hL
theorem join9 {a r : List Int} (ha : a.length = 9) (hr : r.length = 9) : (joinL a r).length = 9 := by unfold joinL bothL; rw [List.length_zipWith, ha, hr]; rfl
set_option maxHeartbeats 2000000 in
set_option maxRecDepth 100000 in
theorem mat_Tell {b : Nat} {n : Int} {L r : List Int} {w : World} (h : MatIs b n L w) (hL : L.length = 72) (k : Nat) (hk : (k : Int) < n) (hk8 : k < 8) (hr : r.length = 9) (hm : mayV r = true) :
    Calls Try.prog 12 #[.pointer (some ⟨b, 0, none⟩), .int .i64 (k : Int), .agg (vec r)] w fun e w' => e = .returned (.bool true) ∧ But b w w' ∧ MatIs b n (tellM L k r) w' := by
  have hlt := (Array.getElem?_eq_some_iff.1 h).1
  have H0 := Hd.mk (Holds.start1 w (.cells (vec r) 38))
  have HI := Hd.mk (fun (w' : World) (h' : MatIs b n L w') => mat_in (k : Int) h')
  rw [show inM n (k : Int) = true from by simp [inM, hk]] at HI
  have HM := Hd.mk ((heap_alloc_old w (.cells (vec r) 38) hlt).trans h)
  have HRM := Hd.mk (row_May r hr)
  rw [hm] at HRM
  have HJ := Hd.mk (row_Merge (rowM L k) r (rowM_len hL hk8) hr)
  have HJL := Hd.mk (join9 (rowM_len hL hk8) hr)
  have HC := Hd.mk (rowM_cons n L k)
  have HLL := Hd.mk hL
  have HR9 := Hd.mk (show (Try.prog.info? 38).map (·.size) = some (vec r).size by rw [vec_size, hr]; exact size_row)
  have g1 : (k : Int) < 8 := by omega
  have HK8 := Hd.mk hk8
  have HLT := Hd.mk hlt
  have HPUT : Hd (n :: tellM L k r = layL (n :: L) (1 + k * 9) (joinL (rowM L k) r)) := ⟨by unfold tellM; rw [layL_head, Nat.mul_comm]⟩
  clear h hL hk8 hr hm hlt
  generalize tellM L k r = L2 at *
  generalize joinL (rowM L k) r = j at *
  generalize rowM L k = row at *
  go_enter Try.func12, Try.ntmps12
  go_upto_region 1 with (fail)
  generalize w.alloc (.cells (vec r) 38) = W at *
  go_wp2_with fail
  refine (HI.out _ HM.out).mono ?_; rintro e w1 ⟨rfl, h1⟩
  have H1 := Hd.mk (H0.out.call h1)
  have HM1 := Hd.mk ((h1.block _ (Array.getElem?_eq_some_iff.1 HM.out).1).trans HM.out)
  clear H0 h1 HI HM
  go_wp2_with (first | ((with_reducible refine gate_dst (N := 12) rfl ?_); refine gate_guard (by rfl) ?_; refine wpList_load_row rfl 38 _ rfl w.heap.size rfl 38 (vec r) (0, 0) _ (H1.out.get 0 rfl) Try.underlying38 rfl HR9.out ?_))
  refine (HRM.out _).mono ?_; rintro e w2 ⟨rfl, h2⟩
  have H2 := Hd.mk (⟨H1.out.call h2, (h2.block _ (Array.getElem?_eq_some_iff.1 HM1.out).1).trans HM1.out⟩ : _ ∧ MatIs b n L _)
  clear H1 h2 HM1 HRM
  go_upto_region 3 with (fail)
  refine start_ (n := 14) (S := fun W_ => Holds w [(w.heap.size, .cells (vec r) 38 (0, 0))] W_ ∧ MatIs b n L W_) (ds := [13]) #[false, false, false, false, false, false, false, false, false, false, false, false, false, false] (by kernel_rfl) rfl rfl (⟨H2.out.1.drew, H2.out.2⟩) (fun hHeld => ?_)
  refine pure_ (i := 0) (N := some 16) (v := ?_) (a' := ?_) #[true, false, false, false, false, false, false, false, false, false, false, false, false, false] rfl rfl (by kernel_rfl) (fun _ _ _ h => h) (Or.inl ⟨by rfl, ?_⟩) ?_ ?_
  rotate_left
  · intro w_
    go_simp
    try with_reducible rfl
  rotate_left
  · simp only [Act.put, List.setIfInBounds_toArray, List.set_cons_zero, List.set_cons_succ]
    rfl
  refine pure_ (i := 1) (N := some 17) (v := ?_) (a' := ?_) #[true, true, false, false, false, false, false, false, false, false, false, false, false, false] rfl rfl (by kernel_rfl) (fun _ _ _ h => h) (Or.inl ⟨by rfl, ?_⟩) ?_ ?_
  rotate_left
  · intro w_
    go_simp
    try with_reducible rfl
  rotate_left
  · simp only [Act.put, List.setIfInBounds_toArray, List.set_cons_zero, List.set_cons_succ]
    rfl
  refine pure_ (i := 2) (N := some 18) (v := ?_) (a' := ?_) #[true, true, true, false, false, false, false, false, false, false, false, false, false, false] rfl rfl (by kernel_rfl) (fun _ _ _ h => h) (Or.inl ⟨by rfl, ?_⟩) ?_ ?_
  rotate_left
  · intro w_
    go_simp
    try with_reducible rfl
  rotate_left
  · simp only [Act.put, List.setIfInBounds_toArray, List.set_cons_zero, List.set_cons_succ]
    rfl
  refine pure_ (i := 3) (N := some 19) (v := ?_) (a' := ?_) #[true, true, true, true, false, false, false, false, false, false, false, false, false, false] rfl rfl (by kernel_rfl) (fun _ _ _ h => h) (Or.inl ⟨by rfl, ?_⟩) ?_ ?_
  rotate_left
  · intro w_
    go_simp
    try with_reducible rfl
  rotate_left
  · simp only [Act.put, List.setIfInBounds_toArray, List.set_cons_zero, List.set_cons_succ]
    rfl
  refine pure_ (i := 4) (N := some 20) (v := ?_) (a' := ?_) #[true, true, true, true, true, false, false, false, false, false, false, false, false, false] rfl rfl (by kernel_rfl) (fun _ _ _ h => h) (Or.inl ⟨by rfl, ?_⟩) ?_ ?_
  rotate_left
  · intro w_
    go_simp
    try with_reducible rfl
  rotate_left
  · simp only [Act.put, List.setIfInBounds_toArray, List.set_cons_zero, List.set_cons_succ]
    rfl
  refine pure_ (i := 5) (N := some 21) (v := ?_) (a' := ?_) #[true, true, true, true, true, true, false, false, false, false, false, false, false, false] rfl rfl (by kernel_rfl) (fun _ _ _ h => h) (Or.inl ⟨by rfl, ?_⟩) ?_ ?_
  rotate_left
  · intro w_
    go_simp
    try with_reducible rfl
  rotate_left
  · simp only [Act.put, List.setIfInBounds_toArray, List.set_cons_zero, List.set_cons_succ]
    rfl
  refine take_ (i := 6) (N := some 22) (v := .pointer (some ⟨b, 1 + k * 9, none⟩)) (a' := ?_) #[true, true, true, true, true, true, true, false, false, false, false, false, false, false] rfl rfl (by kernel_rfl) (fun _ _ _ h => h) (Or.inl ⟨by rfl, fun w' h => by go_simp⟩) hHeld ?_ ?_
  rotate_left
  · simp only [Act.put, List.setIfInBounds_toArray, List.set_cons_zero, List.set_cons_succ]
    rfl
  refine take_ (i := 7) (N := some 23) (v := .agg (vec row)) (a' := ?_) #[true, true, true, true, true, true, true, true, false, false, false, false, false, false] rfl rfl (by kernel_rfl) (fun _ _ _ h => h) (Or.inl ⟨by rfl, fun w' h => by rw [← HC.out]; exact run_load_vec 38 _ rfl b (1 + k * 9) 9 rfl (n :: L) 71 (0, 0) h.2 _ Try.underlying38 rfl size_row (by rw [List.length_cons, HLL.out]; have := HK8.out; omega)⟩) hHeld ?_ ?_
  rotate_left
  · simp only [Act.put, List.setIfInBounds_toArray, List.set_cons_zero, List.set_cons_succ]
    rfl
  refine take_ (i := 8) (N := some 24) (v := .agg (vec r)) (a' := ?_) #[true, true, true, true, true, true, true, true, true, false, false, false, false, false] rfl rfl (by kernel_rfl) (fun _ _ _ h => h) (Or.inl ⟨by rfl, fun w' h => run_load_row 38 _ rfl w.heap.size rfl 38 _ _ _ (h.1.get 0 rfl) Try.underlying38 rfl HR9.out⟩) hHeld ?_ ?_
  rotate_left
  · simp only [Act.put, List.setIfInBounds_toArray, List.set_cons_zero, List.set_cons_succ]
    rfl
  refine pure_ (i := 10) (N := some 26) (v := ?_) (a' := ?_) #[true, true, true, true, true, true, true, true, true, false, true, false, false, false] rfl rfl (by kernel_rfl) (fun _ _ _ h => h) (Or.inl ⟨by rfl, ?_⟩) ?_ ?_
  rotate_left
  · intro w_
    go_simp
    try with_reducible rfl
  rotate_left
  · simp only [Act.put, List.setIfInBounds_toArray, List.set_cons_zero, List.set_cons_succ]
    rfl
  refine pure_ (i := 11) (N := some 27) (v := ?_) (a' := ?_) #[true, true, true, true, true, true, true, true, true, false, true, true, false, false] rfl rfl (by kernel_rfl) (fun _ _ _ h => h) (Or.inl ⟨by rfl, ?_⟩) ?_ ?_
  rotate_left
  · intro w_
    go_simp
    try with_reducible rfl
  rotate_left
  · simp only [Act.put, List.setIfInBounds_toArray, List.set_cons_zero, List.set_cons_succ]
    rfl
  refine one_ (i := 9) (N := some 25) #[true, true, true, true, true, true, true, true, true, true, true, true, false, false] rfl rfl (by kernel_rfl) (by decide) (fun K hK => ?_)
  refine goes_ Try.func13 (by kernel_rfl) rfl #[.agg (vec row), .agg (vec r)] (by rfl) rfl rfl (by (try simp only [List.map_toArray, List.map_cons, List.map_nil]); first | done | rfl) ?_
  (with_reducible refine (HJ.out _).mono ?_)
  rintro e wr1 ⟨rfl, hr1⟩
  refine ⟨_, rfl, ?_⟩
  refine hK.out _ _ (⟨hHeld.1.call hr1, (hr1.block _ (Array.getElem?_eq_some_iff.1 hHeld.2).1).trans hHeld.2⟩) (fun hHeld => ?_)
  clear hK K
  refine norm_ (a' := ?_) ?_ ?_
  rotate_left
  · show Act.put _ (some 25) _ = _
    simp only [Act.put, List.setIfInBounds_toArray, List.set_cons_zero, List.set_cons_succ]
    rfl
  refine take_ (i := 12) (N := some 28) (v := .pointer (some ⟨b, 1 + k * 9, none⟩)) (a' := ?_) #[true, true, true, true, true, true, true, true, true, true, true, true, true, false] rfl rfl (by kernel_rfl) (fun _ _ _ h => h) (Or.inl ⟨by rfl, fun w' h => by go_simp⟩) hHeld ?_ ?_
  rotate_left
  · simp only [Act.put, List.setIfInBounds_toArray, List.set_cons_zero, List.set_cons_succ]
    rfl
  refine last_ (i := 13) (N := none) #[true, true, true, true, true, true, true, true, true, true, true, true, true, true] rfl rfl (by kernel_rfl) (by decide) (fun K hK => ?_)
  refine skip_ (by rfl) rfl (run_store_vec 38 _ _ rfl b (1 + k * 9) j rfl rfl (n :: L) 71 hHeld.2 (by rw [HJL.out]; exact size_row) (by rw [List.length_cons, HLL.out, HJL.out]; have := HK8.out; omega)) ?_
  refine hK.out _ _ ?_
  clear hK K
  refine done_ (by kernel_rfl) ?_
  have HE := Hd.mk (but_of hHeld.1.2 HLT.out (1 + k * 9) (vec j).toList)
  have HE2 : Hd (MatIs b n L2 (wr1.setCells b (1 + k * 9) (vec j).toList)) := ⟨by
    unfold MatIs
    rw [HPUT.out]
    exact setCells_vec _ _ _ _ _ hHeld.2 (by rw [List.length_cons, HLL.out, HJL.out]; have := HK8.out; omega)⟩
  clear hHeld
  generalize wr1.setCells b (1 + k * 9) (vec j).toList = W5 at *
  go_wp2_with fail
  go_ret
  exact ⟨rfl, HE.out, HE2.out⟩

set_option maxHeartbeats 1000000 in
set_option maxRecDepth 100000 in
/-- No such replica, or no such row: nothing is told. -/
theorem mat_Tell_off {b : Nat} {n : Int} {L r : List Int} {w : World} (h : MatIs b n L w) (rep : Int) (hr : r.length = 9) (hm : inM n rep = false ∨ mayV r = false) :
    Calls Try.prog 12 #[.pointer (some ⟨b, 0, none⟩), .int .i64 rep, .agg (vec r)] w fun e w' => e = .returned (.bool false) ∧ Below w.heap.size w w' := by
  have hlt := (Array.getElem?_eq_some_iff.1 h).1
  have H0 := Hd.mk (Holds.start1 w (.cells (vec r) 38))
  have HI := Hd.mk (fun (w' : World) (h' : MatIs b n L w') => mat_in rep h')
  have HM := Hd.mk ((heap_alloc_old w (.cells (vec r) 38) hlt).trans h)
  have HRM := Hd.mk (row_May r hr)
  have HR9 := Hd.mk (show (Try.prog.info? 38).map (·.size) = some (vec r).size by rw [vec_size, hr]; exact size_row)
  clear h hr hlt
  generalize inM n rep = q at *
  generalize mayV r = q2 at *
  have HQ := Hd.mk hm
  clear hm
  go_enter Try.func12, Try.ntmps12
  go_upto_region 1 with (fail)
  generalize w.alloc (.cells (vec r) 38) = W at *
  go_wp2_with fail
  refine (HI.out _ HM.out).mono ?_; rintro e w1 ⟨rfl, h1⟩
  have H1 := Hd.mk (H0.out.call h1)
  clear H0 h1 HI HM
  cases q with
  | false =>
    go_wp2_with fail
    go_ret
    exact ⟨rfl, H1.out.2⟩
  | true =>
    obtain rfl : q2 = false := by rcases HQ.out with h | h; cases h; exact h
    go_wp2_with (first | ((with_reducible refine gate_dst (N := 12) rfl ?_); refine gate_guard (by rfl) ?_; refine wpList_load_row rfl 38 _ rfl w.heap.size rfl 38 (vec r) (0, 0) _ (H1.out.get 0 rfl) Try.underlying38 rfl HR9.out ?_))
    refine (HRM.out _).mono ?_; rintro e w2 ⟨rfl, h2⟩
    have H2 := Hd.mk (H1.out.call h2)
    clear H1 h2
    go_wp2_with fail
    go_ret
    exact ⟨rfl, H2.out.2⟩
end Go.Proofs.Ytcpgfllnaiabkaa
