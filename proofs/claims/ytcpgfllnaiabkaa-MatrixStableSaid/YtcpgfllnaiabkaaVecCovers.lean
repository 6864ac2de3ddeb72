/- vector's Covers and Ready: their contracts. -/
import Derived.Test.YtcpgfllnaiabkaaVecWalk
namespace Go.Proofs.Ytcpgfllnaiabkaa
open Go.RowKit Go.Proofs.YtcpgfllnaiabkaaW.PrintWords Go.Proofs.YtcpgfllnaiabkaaW.PrintLast Go.Proofs.YtcpgfllnaiabkaaW.PrintMore
set_option linter.unusedVariables false
set_option linter.unusedSimpArgs false

/-- Whether one vector has no less than another one. -/
def covL (a b : List Int) : Bool := eqV (joinL a b) a

set_option maxHeartbeats 1000000 in
set_option maxRecDepth 100000 in
theorem vec_Covers (a b : List Int) (ha : a.length = 8) (hb : b.length = 8) (w : World) :
    Calls Try.prog 22 #[.agg (vec a), .agg (vec b)] w fun e w' => e = .returned (.bool (covL a b)) ∧ Below w.heap.size w w' := by
  have p1 : ((w.alloc (.cells (vec a) 27)).alloc (.cells (vec b) 27)).heap[w.heap.size]? = some (.cells (vec a) 27 (0, 0)) := heap_alloc2_old _ _ _
  have p2 : ((w.alloc (.cells (vec a) 27)).alloc (.cells (vec b) 27)).heap[w.heap.size + 1]? = some (.cells (vec b) 27 (0, 0)) := heap_alloc2_new _ _ _
  have pb : Below w.heap.size w ((w.alloc (.cells (vec a) 27)).alloc (.cells (vec b) 27)) := ((Below.refl _ _).alloc (Nat.le_refl _) _).alloc (by simp) _
  have P1 := Hd.mk p1
  have P2 := Hd.mk p2
  have PB := Hd.mk pb
  have H1 := Hd.mk (vec_Join a b ha hb)
  have heq := fun w => eqVec 9998 (a := joinL a b) (b := a) (bothL_len ha hb) ha w
  have HE := Hd.mk heq
  have sa : (Try.prog.info? 27).map (·.size) = some (vec a).size := by rw [vec_size, ha]; exact size_vec
  have sb : (Try.prog.info? 27).map (·.size) = some (vec b).size := by rw [vec_size, hb]; exact size_vec
  have Sa := Hd.mk sa
  have Sb := Hd.mk sb
  clear ha hb p1 p2 pb heq sa sb
  go_enter Try.func22, Try.ntmps22
  go_upto_region 1 with (fail)
  generalize (w.alloc (.cells (vec a) 27)).alloc (.cells (vec b) 27) = W at *
  refine start_ (n := 6) (S := fun W_ => W_.heap[w.heap.size]? = some (.cells (vec a) 27 (0, 0)) ∧ W_.heap[w.heap.size + 1]? = some (.cells (vec b) 27 (0, 0)) ∧ Below w.heap.size w W_) (ds := []) #[false, false, false, false, false, false] (by kernel_rfl) rfl rfl (⟨P1.out, P2.out, PB.out.drew⟩) (fun hHeld => ?_)
  refine take_ (i := 0) (N := some 5) (v := .agg (vec a)) (a' := ?_) #[true, false, false, false, false, false] rfl rfl (by kernel_rfl) (fun _ _ _ h => h) (Or.inl ⟨by rfl, fun w' h => run_load_row 27 _ rfl w.heap.size rfl 27 _ _ _ h.1 Try.underlying27 rfl Sa.out⟩) hHeld ?_ ?_
  rotate_left
  · simp only [Act.put, List.setIfInBounds_toArray, List.set_cons_zero, List.set_cons_succ]
    rfl
  refine take_ (i := 1) (N := some 6) (v := .agg (vec b)) (a' := ?_) #[true, true, false, false, false, false] rfl rfl (by kernel_rfl) (fun _ _ _ h => h) (Or.inl ⟨by rfl, fun w' h => run_load_row 27 _ rfl (w.heap.size + 1) rfl 27 _ _ _ h.2.1 Try.underlying27 rfl Sb.out⟩) hHeld ?_ ?_
  rotate_left
  · simp only [Act.put, List.setIfInBounds_toArray, List.set_cons_zero, List.set_cons_succ]
    rfl
  refine take_ (i := 3) (N := some 8) (v := .agg (vec a)) (a' := ?_) #[true, true, false, true, false, false] rfl rfl (by kernel_rfl) (fun _ _ _ h => h) (Or.inl ⟨by rfl, fun w' h => run_load_row 27 _ rfl w.heap.size rfl 27 _ _ _ h.1 Try.underlying27 rfl Sa.out⟩) hHeld ?_ ?_
  rotate_left
  · simp only [Act.put, List.setIfInBounds_toArray, List.set_cons_zero, List.set_cons_succ]
    rfl
  refine one_ (i := 2) (N := some 7) #[true, true, true, true, false, false] rfl rfl (by kernel_rfl) (by decide) (fun K hK => ?_)
  refine goes_ Try.func11 (by kernel_rfl) rfl #[.agg (vec a), .agg (vec b)] (by rfl) rfl rfl (by (try simp only [List.map_toArray, List.map_cons, List.map_nil]); first | done | rfl) ?_
  (with_reducible refine (H1.out _).mono ?_)
  rintro e wr1 ⟨rfl, hr1⟩
  refine ⟨_, rfl, ?_⟩
  refine hK.out _ _ (⟨(hr1.block _ (Array.getElem?_eq_some_iff.1 hHeld.1).1).trans hHeld.1, (hr1.block _ (Array.getElem?_eq_some_iff.1 hHeld.2.1).1).trans hHeld.2.1, below_step hHeld.2.2 hr1⟩) (fun hHeld => ?_)
  clear hK K
  refine norm_ (a' := ?_) ?_ ?_
  rotate_left
  · show Act.put _ (some 7) _ = _
    simp only [Act.put, List.setIfInBounds_toArray, List.set_cons_zero, List.set_cons_succ]
    rfl
  have heq := HE.out
  refine pure_ (i := 4) (N := some 9) (v := ?_) (a' := ?_) #[true, true, true, true, true, false] rfl rfl (by kernel_rfl) (fun _ _ _ h => h) (Or.inl ⟨by rfl, ?_⟩) ?_ ?_
  rotate_left
  · intro w_
    go_simp
    try with_reducible rfl
  rotate_left
  · simp only [Act.put, List.setIfInBounds_toArray, List.set_cons_zero, List.set_cons_succ]
    rfl
  refine pure_ (i := 5) (N := some 4) (v := ?_) (a' := ?_) #[true, true, true, true, true, true] rfl rfl (by kernel_rfl) (fun _ _ _ h => h) (Or.inl ⟨by rfl, ?_⟩) ?_ ?_
  rotate_left
  · intro w_
    go_simp
    try with_reducible rfl
  rotate_left
  · simp only [Act.put, List.setIfInBounds_toArray, List.set_cons_zero, List.set_cons_succ]
    rfl
  refine done_ (by kernel_rfl) ?_
  go_wp2
  go_ret
  exact ⟨rfl, hHeld.2.2⟩
end Go.Proofs.Ytcpgfllnaiabkaa
