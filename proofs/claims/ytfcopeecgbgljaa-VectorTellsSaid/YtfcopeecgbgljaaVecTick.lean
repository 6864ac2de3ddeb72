/- vector.Tick: its contract. -/
import Derived.Test.YtfcopeecgbgljaaVecMay
namespace Go.Proofs.Ytfcopeecgbgljaa
open Go.RowKit Go.Proofs.YtfcopeecgbgljaaW.PrintWords Go.Proofs.YtfcopeecgbgljaaW.PrintLast Go.Proofs.YtfcopeecgbgljaaW.PrintMore
set_option linter.unusedVariables false
set_option linter.unusedSimpArgs false

theorem run_store_row {P : Program} {o : Oper} {ρ : Operand → Value} {w : World} (ty : TypeId) (x y : Operand) (ho : o.op = .store ty x y)
    (g : Nat) (cells : Array Value) (hx : ρ x = .pointer (some ⟨g, 0, none⟩)) (hy : ρ y = .agg cells)
    (t : TypeId) (old : Array Value) (hg : w.heap[g]? = some (.cells old t (0, 0))) (hi : (P.info? ty).map (·.size) = some cells.size)
    (hold : old.size = cells.size) (h1 : cells.all (·.oneCell') = true) : (execOp ρ o).run P w = .ok .skip (w.setRow g cells) := by
  unfold execOp
  simp only [ho, hx, hy, Instr.storeAt, Instr.sureAddr, Sem.run_bind, Sem.run_pure, Result.andThen_ok, run_storeVar_row w g t ty old cells hg hi hold h1]

theorem Holds_cell {w : World} {l : List (Nat × Obj)} {w' : World} {q : Nat} {cs : Array Value} {t : TypeId} (h : Holds w ((q, .cells cs t (0, 0)) :: l) w') (i : Nat) (x : Value) (hq : w.heap.size ≤ q) (hl : ∀ p ∈ l, p.1 ≠ q) : Holds w ((q, .cells (cs.setIfInBounds i x) t (0, 0)) :: l) (w'.setCell ⟨q, i, none⟩ x) := by
  refine ⟨fun p hp => ?_, h.2.setCell hq _⟩
  rcases List.mem_cons.1 hp with rfl | hp
  · exact heap_setCell_same _ _ _ _ _ _ (h.get 0 rfl)
  · exact (heap_setCell_other _ _ _ _ (by simpa using hl p hp)).trans (h.1 p (List.mem_cons_of_mem _ hp))

/-- One more of a replica that there is. -/
def upV (v : List Int) (k : Nat) : List Int := v.set k (wrap64 (nth v k + 1))
theorem upV_len (v : List Int) (k : Nat) : (upV v k).length = v.length := by simp [upV]

theorem results_cell_tmp {P : Program} {fn : Func} {p q : Tmp} {ty : TypeId} (h : fn.results = #[.cell p ty, .tmp q]) (tmps : Array Value) (w : World) (g : Nat) (t : TypeId) (cs : Array Value) (fr : Nat × Nat) (d : TypeDesc)
    (hp : tmps.getD p undef = .pointer (some ⟨g, 0, none⟩)) (hg : w.heap[g]? = some (.cells cs t fr))
    (hu : P.underlying ty = some d) (hd : (match d with | .struct _ | .array _ _ => true | _ => false) = true) (hi : (P.info? ty).map (·.size) = some cs.size) :
    (results fn tmps).run P w = .ok (.tuple #[.agg cs, tmps.getD q undef]) w := by
  have hp' : tmps[p]?.getD undef = .pointer (some ⟨g, 0, none⟩) := by simpa using hp
  simp [results, h, hp', asAddr, run_loadVar_row w g t ty cs fr d hg hu hd hi]

set_option maxHeartbeats 1000000 in
set_option maxRecDepth 100000 in
/-- No such replica: the vector itself, and 0. -/
theorem vec_Tick_off (v : List Int) (n : Int) (hv : v.length = 8) (hr : repB n = false) (w : World) :
    Calls Try.prog 19 #[.agg (vec v), .int .i64 n] w fun e w' => e = .returned (.tuple #[.agg (vec v), .int .i64 0]) ∧ Below w.heap.size w w' := by
  have H0 := Hd.mk (Holds.start2 w (.cells (vec v) 24) (.cells (vec zero8) 24))
  have S1 := Hd.mk (show (Try.prog.info? 24).map (·.size) = some (vec v).size by rw [vec_size, hv]; exact size_vec)
  have S2 := Hd.mk (show (vec zero8).size = (vec v).size by rw [vec_size, vec_size, hv]; rfl)
  have HR := Hd.mk (vec_rep n)
  rw [hr] at HR
  have hz := zeroVec
  clear hv hr
  go_enter Try.func19, Try.ntmps19
  go_upto_region 1 with (fail)
  clear hz
  generalize (w.alloc (.cells (vec v) 24)).alloc (.cells (vec zero8) 24) = W at *
  go_wp2_with fail
  refine (HR.out _).mono ?_; rintro e w1 ⟨rfl, h1⟩
  have H1 := Hd.mk (H0.out.call h1)
  clear H0 h1
  go_wp2_with (first | ((with_reducible refine gate_load (t := 24) rfl ?_); refine wpList_load_row rfl _ _ rfl w.heap.size rfl 24 (vec v) (0, 0) _ (H1.out.get 1 rfl) Try.underlying24 rfl S1.out ?_) | ((with_reducible refine gate_store (t := 24) rfl ?_); refine wpList_store_row rfl _ _ _ rfl (w.heap.size + 1) (vec v) rfl rfl 24 (vec zero8) (H1.out.get 0 rfl) S1.out S2.out (vec_one _) ?_))
  exact bodyPost_ret (results_cell_tmp (p := 4) (q := 5) rfl _ _ (w.heap.size + 1) 24 (vec v) (0, 0) _ rfl (setRow_heap _ _ _ _ _ _ (H1.out.get 0 rfl)) Try.underlying24 rfl S1.out) rfl ⟨rfl, below_setRow H1.out.2 (by omega) _⟩

set_option maxHeartbeats 1000000 in
set_option maxRecDepth 100000 in
/-- One more. -/
theorem vec_Tick (v : List Int) (k : Nat) (hk : k < 8) (hv : v.length = 8) (w : World) :
    Calls Try.prog 19 #[.agg (vec v), .int .i64 (k : Int)] w fun e w' => e = .returned (.tuple #[.agg (vec (upV v k)), .int .i64 (wrap64 (nth v k + 1))]) ∧ Below w.heap.size w w' := by
  have H0 := Hd.mk (Holds.start2 w (.cells (vec v) 24) (.cells (vec zero8) 24))
  have S1 := Hd.mk (show (Try.prog.info? 24).map (·.size) = some (vec (upV v k)).size by rw [vec_size, upV_len, hv]; exact size_vec)
  have S2 := Hd.mk (show (vec zero8).size = (vec (upV v k)).size by rw [vec_size, vec_size, upV_len, hv]; rfl)
  have HR := Hd.mk (vec_rep k)
  have hr : repB k = true := by unfold repB; simp; omega
  rw [hr] at HR
  have hz := zeroVec
  have hn1 : 0 ≤ (k : Int) := by omega
  have hn2 : (k : Int) < 8 := by omega
  have HX := Hd.mk (vec_at (nth_at hv hk))
  have HU : Hd ((vec v).setIfInBounds k (.int .i64 (wrap64 (nth v k + 1))) = vec (upV v k)) := ⟨vec_set _ _ _⟩
  have HY : Hd ((vec (upV v k))[k]? = some (.int .i64 (wrap64 (nth v k + 1)))) := ⟨vec_at (by unfold upV; rw [List.getElem?_set_self (by omega)])⟩
  clear hv hr
  generalize nth v (k : Int) = x at *
  generalize upV v k = u at *
  go_enter Try.func19, Try.ntmps19
  go_upto_region 1 with (fail)
  clear hz
  generalize (w.alloc (.cells (vec v) 24)).alloc (.cells (vec zero8) 24) = W at *
  go_wp2_with fail
  refine (HR.out _).mono ?_; rintro e w1 ⟨rfl, h1⟩
  have H1 := Hd.mk (H0.out.call h1)
  clear H0 h1
  have hcx : w1.cell? ⟨w.heap.size, k, none⟩ = some (.int .i64 x) := by rw [cell_of_row w1 _ k _ _ _ (H1.out.get 1 rfl)]; exact HX.out
  have hfz : w1.frozen? ⟨w.heap.size, k, none⟩ = false := frozen_of_row w1 _ k _ _ (H1.out.get 1 rfl)
  have hlt : w.heap.size < w1.heap.size := H1.out.lt 1 rfl
  go_upto_region 4 with (fail)
  have H2 : Hd (Holds w [(w.heap.size + 1, .cells (vec zero8) 24 (0, 0)), (w.heap.size, .cells (vec u) 24 (0, 0))] (w1.setCell ⟨w.heap.size, k, none⟩ (.int .i64 (wrap64 (x + 1))))) := by
    refine ⟨fun p hp => ?_, H1.out.2.setCell (Nat.le_refl _) _⟩
    rcases List.mem_cons.1 hp with rfl | hp
    · exact (heap_setCell_other _ _ _ _ (by simp)).trans (H1.out.get 0 rfl)
    · obtain rfl := List.mem_singleton.1 hp
      show _ = some (Obj.cells (vec u) _ _)
      rw [← HU.out]
      exact heap_setCell_same _ _ _ _ _ _ (H1.out.get 1 rfl)
  clear H1 hcx hfz hlt
  generalize w1.setCell ⟨w.heap.size, k, none⟩ (.int .i64 (wrap64 (x + 1))) = W2 at *
  refine start_ (n := 6) (S := fun W_ => w.heap.size < W_.heap.size ∧ W_.heap[w.heap.size]? = some (.cells (vec u) 24 (0, 0))) (ds := []) #[false, false, false, false, false, false] (by kernel_rfl) rfl rfl (⟨H2.out.lt 1 rfl, H2.out.get 1 rfl⟩) (fun hHeld => ?_)
  refine take_ (i := 0) (N := some 15) (v := .agg (vec u)) (a' := ?_) #[true, false, false, false, false, false] rfl rfl (by kernel_rfl) (fun _ _ _ h => h) (Or.inl ⟨by rfl, fun w' h => run_load_row 24 _ rfl w.heap.size rfl 24 _ _ _ h.2 Try.underlying24 rfl S1.out⟩) hHeld ?_ ?_
  rotate_left
  · simp only [Act.put, List.setIfInBounds_toArray, List.set_cons_zero, List.set_cons_succ]
    rfl
  refine pure_ (i := 1) (N := some 16) (v := ?_) (a' := ?_) #[true, true, false, false, false, false] rfl rfl (by kernel_rfl) (fun _ _ _ h => h) (Or.inl ⟨by rfl, ?_⟩) ?_ ?_
  rotate_left
  · intro w_
    go_simp
    try with_reducible rfl
  rotate_left
  · simp only [Act.put, List.setIfInBounds_toArray, List.set_cons_zero, List.set_cons_succ]
    rfl
  refine pure_ (i := 2) (N := some 17) (v := ?_) (a' := ?_) #[true, true, true, false, false, false] rfl rfl (by kernel_rfl) (fun _ _ _ h => h) (Or.inl ⟨by rfl, ?_⟩) ?_ ?_
  rotate_left
  · intro w_
    go_simp
    try with_reducible rfl
  rotate_left
  · simp only [Act.put, List.setIfInBounds_toArray, List.set_cons_zero, List.set_cons_succ]
    rfl
  refine take_ (i := 3) (N := some 18) (v := .int .i64 (wrap64 (x + 1))) (a' := ?_) #[true, true, true, true, false, false] rfl rfl (by kernel_rfl) (fun _ _ _ h => h) (Or.inl ⟨by rfl, fun w' h => by have hc : w'.cell? ⟨w.heap.size, k, none⟩ = some (.int .i64 (wrap64 (x + 1))) := (by rw [cell_of_row w' _ k _ _ _ h.2]; exact HY.out); go_simp⟩) hHeld ?_ ?_
  rotate_left
  · simp only [Act.put, List.setIfInBounds_toArray, List.set_cons_zero, List.set_cons_succ]
    rfl
  refine one_ (i := 4) (N := none) #[true, true, true, true, true, false] rfl rfl (by kernel_rfl) (by decide) (fun K hK => ?_)
  refine skip_ (by rfl) rfl (run_store_row _ _ _ rfl (w.heap.size + 1) (vec u) rfl rfl 24 (vec zero8) (H2.out.drew.get 0 rfl) S1.out S2.out (vec_one _)) ?_
  refine hK.out _ _ (⟨by simpa using hHeld.1, (setRow_other _ _ _ _ (by omega)).trans hHeld.2⟩) (fun hHeld => ?_)
  clear hK K
  refine pure_ (i := 5) (N := some 5) (v := ?_) (a' := ?_) #[true, true, true, true, true, true] rfl rfl (by kernel_rfl) (fun _ _ _ h => h) (Or.inl ⟨by rfl, ?_⟩) ?_ ?_
  rotate_left
  · intro w_
    go_simp
    try with_reducible rfl
  rotate_left
  · simp only [Act.put, List.setIfInBounds_toArray, List.set_cons_zero, List.set_cons_succ]
    rfl
  refine done_ (by kernel_rfl) ?_
  go_wp2_with fail
  exact bodyPost_ret (results_cell_tmp (p := 4) (q := 5) rfl _ _ (w.heap.size + 1) 24 (vec u) (0, 0) _ rfl (setRow_heap _ _ _ _ _ _ (H2.out.drew.get 0 rfl)) Try.underlying24 rfl S1.out) rfl ⟨rfl, below_setRow H2.out.drew.2 (by omega) _⟩
end Go.Proofs.Ytfcopeecgbgljaa
