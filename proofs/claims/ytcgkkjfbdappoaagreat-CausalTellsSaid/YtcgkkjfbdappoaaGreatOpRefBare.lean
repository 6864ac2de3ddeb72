/- The document's Bare of an operation: its fields, those that its kind has. -/
import Derived.Test.YtcgkkjfbdappoaaGreatOpRef0
namespace Go.Proofs.YtcgkkjfbdappoaaGreat
open Go.RowKit Go.Proofs.YtcgkkjfbdappoaaGreatW.PrintWords Go.Proofs.YtcgkkjfbdappoaaGreatW.PrintLast Go.Proofs.YtcgkkjfbdappoaaGreatW.PrintMore Pk
set_option linter.unusedVariables false
set_option linter.unusedSimpArgs false

/-- An operation with the fields that its kind has, alone. -/
def bareV (o : OpV) : OpV :=
  ⟨o.t, o.r, o.k, if o.k ≤ 7 then o.a0 else 0, if o.k ≤ 7 then o.a1 else 0, if 4 ≤ o.k then o.i0 else 0, if 4 ≤ o.k then o.i1 else 0, if o.k = 7 then o.t0 else 0, if o.k = 7 then o.t1 else 0,
    if o.k ≤ 7 then o.nm else ⟨#[]⟩, if o.k = 7 then o.nw else ⟨#[]⟩, if 8 ≤ o.k then o.off else 0, if o.k = 3 ∨ o.k = 8 then o.dt else ⟨#[]⟩⟩
theorem Holds_cellB {w : World} {l : List (Nat × Obj)} {w' : World} {q : Nat} {cs : Array Value} {t : TypeId} (h : Holds w ((q, .cells cs t (0, 0)) :: l) w') (i : Nat) (x : Value) (hq : w.heap.size ≤ q) (hl : ∀ p ∈ l, p.1 ≠ q) : Holds w ((q, .cells (cs.setIfInBounds i x) t (0, 0)) :: l) (w'.setCell ⟨q, i, none⟩ x) := by
  refine ⟨fun p hp => ?_, h.2.setCell hq _⟩
  rcases List.mem_cons.1 hp with rfl | hp
  · exact heap_setCell_same _ _ _ _ _ _ (h.get 0 rfl)
  · exact (heap_setCell_other _ _ _ _ (hl p hp)).trans (h.1 p (List.mem_cons_of_mem _ hp))
theorem bareS {w : World} {cs cz co : Array Value} {w' : World} (h : Holds w [(w.heap.size + 1 + 1, .cells cs 36 (0, 0)), (w.heap.size + 1, .cells cz 36 (0, 0)), (w.heap.size, .cells co 36 (0, 0))] w') (i : Nat) (x : Value) :
    Holds w [(w.heap.size + 1 + 1, .cells (cs.setIfInBounds i x) 36 (0, 0)), (w.heap.size + 1, .cells cz 36 (0, 0)), (w.heap.size, .cells co 36 (0, 0))] (w'.setCell ⟨w.heap.size + 1 + 1, i, none⟩ x) :=
  Holds_cellB h i x (by omega) (fun p hp => by
    simp at hp
    rcases hp with rfl | rfl
    · exact Nat.ne_of_lt (by show w.heap.size + 1 < w.heap.size + 1 + 1; omega)
    · exact Nat.ne_of_lt (by show w.heap.size < w.heap.size + 1 + 1; omega))
theorem cs_one (o : OpV) : (#[.int .i64 o.t, .int .i64 o.r, .int .i64 o.k, .int .i64 o.a0, .int .i64 o.a1, .int .i64 o.i0, .int .i64 o.i1, .int .i64 o.t0, .int .i64 o.t1, .string o.nm, .string o.nw, .int .i64 o.off, .string o.dt] : Array Value).all (·.oneCell') = true := by kernel_rfl
set_option maxHeartbeats 4000000 in
set_option maxRecDepth 100000 in
theorem bare_0 (o : OpV) (h : 1 ≤ o.k ∧ o.k ≤ 2) (w : World) : Calls Tryz.prog 84 #[.agg #[.int .i64 o.t, .int .i64 o.r, .int .i64 o.k, .int .i64 o.a0, .int .i64 o.a1, .int .i64 o.i0, .int .i64 o.i1, .int .i64 o.t0, .int .i64 o.t1, .string o.nm, .string o.nw, .int .i64 o.off, .string o.dt]] w fun e w' => e = .returned (.agg (bareV o).cells) ∧ Below w.heap.size w w' := by
  have HV : Hd ((bareV o).cells = #[.int .i64 o.t, .int .i64 o.r, .int .i64 o.k, .int .i64 o.a0, .int .i64 o.a1, .int .i64 0, .int .i64 0, .int .i64 0, .int .i64 0, .string o.nm, .string ⟨#[]⟩, .int .i64 0, .string ⟨#[]⟩]) := ⟨by
    unfold bareV OpV.cells
    dsimp only
    have c1 : (o.k ≤ 7) = True := eq_true (by omega)
    have c2 : (4 ≤ o.k) = False := eq_false (by omega)
    have c3 : (o.k = 7) = False := eq_false (by omega)
    have c4 : (8 ≤ o.k) = False := eq_false (by omega)
    have c5 : (o.k = 3 ∨ o.k = 8) = False := eq_false (by omega)
    simp only [c1, c2, c3, c4, c5, if_true, if_false]⟩
  have eb : decide (o.k ≤ 7) = true := decide_eq_true (by omega)
  have ec : decide (4 ≤ o.k) = false := decide_eq_false (by omega)
  have ed : decide (8 ≤ o.k) = false := decide_eq_false (by omega)
  have es : (o.k == 7) = false := by rw [beq_eq_false_iff_ne, ne_eq]; omega
  have eq3 : (o.k == 3) = false := by rw [beq_eq_false_iff_ne, ne_eq]; omega
  have eq8 : (o.k == 8) = false := by rw [beq_eq_false_iff_ne, ne_eq]; omega
  have K0 := Hd.mk (Holds.start2 w (.cells #[.int .i64 o.t, .int .i64 o.r, .int .i64 o.k, .int .i64 o.a0, .int .i64 o.a1, .int .i64 o.i0, .int .i64 o.i1, .int .i64 o.t0, .int .i64 o.t1, .string o.nm, .string o.nw, .int .i64 o.off, .string o.dt] 36 (0, 0)) (.cells #[.int .i64 0, .int .i64 0, .int .i64 0, .int .i64 0, .int .i64 0, .int .i64 0, .int .i64 0, .int .i64 0, .int .i64 0, .string ⟨#[]⟩, .string ⟨#[]⟩, .int .i64 0, .string ⟨#[]⟩] 36 (0, 0)))
  clear h
  go_enter Tryz.func84, Tryz.ntmps84
  go_upto_region 1 with (fail)
  refine world_gen (fun W_ => W_.heap.size = w.heap.size + 1 + 1 ∧ Holds w [(w.heap.size + 1, .cells #[.int .i64 0, .int .i64 0, .int .i64 0, .int .i64 0, .int .i64 0, .int .i64 0, .int .i64 0, .int .i64 0, .int .i64 0, .string ⟨#[]⟩, .string ⟨#[]⟩, .int .i64 0, .string ⟨#[]⟩] 36 (0, 0)), (w.heap.size, .cells #[.int .i64 o.t, .int .i64 o.r, .int .i64 o.k, .int .i64 o.a0, .int .i64 o.a1, .int .i64 o.i0, .int .i64 o.i1, .int .i64 o.t0, .int .i64 o.t1, .string o.nm, .string o.nw, .int .i64 o.off, .string o.dt] 36 (0, 0))] W_) ⟨by simp, K0.out⟩ (fun W1 hK => ?_)
  have K1 := Hd.mk hK.2
  have hsz := hK.1
  clear hK K0
  have g0 := cell_of_row W1 _ 0 _ _ _ (K1.out.get 1 rfl)
  have g1 := cell_of_row W1 _ 1 _ _ _ (K1.out.get 1 rfl)
  have g2 := cell_of_row W1 _ 2 _ _ _ (K1.out.get 1 rfl)
  have g3 := cell_of_row W1 _ 3 _ _ _ (K1.out.get 1 rfl)
  have g4 := cell_of_row W1 _ 4 _ _ _ (K1.out.get 1 rfl)
  have g5 := cell_of_row W1 _ 5 _ _ _ (K1.out.get 1 rfl)
  have g6 := cell_of_row W1 _ 6 _ _ _ (K1.out.get 1 rfl)
  have g7 := cell_of_row W1 _ 7 _ _ _ (K1.out.get 1 rfl)
  have g8 := cell_of_row W1 _ 8 _ _ _ (K1.out.get 1 rfl)
  have g9 := cell_of_row W1 _ 9 _ _ _ (K1.out.get 1 rfl)
  have g10 := cell_of_row W1 _ 10 _ _ _ (K1.out.get 1 rfl)
  have g11 := cell_of_row W1 _ 11 _ _ _ (K1.out.get 1 rfl)
  have g12 := cell_of_row W1 _ 12 _ _ _ (K1.out.get 1 rfl)
  have hlt := K1.out.lt 1 rfl
  go_upto_region 2 with (fail)
  clear g0 g1 g2 g3 g4 g5 g6 g7 g8 g9 g10 g11 g12
  have KB := K1.out.alloc (.cells #[.int .i64 o.t, .int .i64 o.r, .int .i64 o.k, .int .i64 0, .int .i64 0, .int .i64 0, .int .i64 0, .int .i64 0, .int .i64 0, .string ⟨#[]⟩, .string ⟨#[]⟩, .int .i64 0, .string ⟨#[]⟩] 36 (0, 0))
  rw [hsz] at KB
  refine world_gen (fun W_ => Holds w [(w.heap.size + 1 + 1, .cells #[.int .i64 o.t, .int .i64 o.r, .int .i64 o.k, .int .i64 0, .int .i64 0, .int .i64 0, .int .i64 0, .int .i64 0, .int .i64 0, .string ⟨#[]⟩, .string ⟨#[]⟩, .int .i64 0, .string ⟨#[]⟩] 36 (0, 0)), (w.heap.size + 1, .cells #[.int .i64 0, .int .i64 0, .int .i64 0, .int .i64 0, .int .i64 0, .int .i64 0, .int .i64 0, .int .i64 0, .int .i64 0, .string ⟨#[]⟩, .string ⟨#[]⟩, .int .i64 0, .string ⟨#[]⟩] 36 (0, 0)), (w.heap.size, .cells #[.int .i64 o.t, .int .i64 o.r, .int .i64 o.k, .int .i64 o.a0, .int .i64 o.a1, .int .i64 o.i0, .int .i64 o.i1, .int .i64 o.t0, .int .i64 o.t1, .string o.nm, .string o.nw, .int .i64 o.off, .string o.dt] 36 (0, 0))] W_) KB (fun W2 hK => ?_)
  have KB := Hd.mk hK
  clear hK K1 hsz hlt
  have g0 := cell_of_row W2 _ 0 _ _ _ (KB.out.get 2 rfl)
  have g1 := cell_of_row W2 _ 1 _ _ _ (KB.out.get 2 rfl)
  have g2 := cell_of_row W2 _ 2 _ _ _ (KB.out.get 2 rfl)
  have g3 := cell_of_row W2 _ 3 _ _ _ (KB.out.get 2 rfl)
  have g4 := cell_of_row W2 _ 4 _ _ _ (KB.out.get 2 rfl)
  have g5 := cell_of_row W2 _ 5 _ _ _ (KB.out.get 2 rfl)
  have g6 := cell_of_row W2 _ 6 _ _ _ (KB.out.get 2 rfl)
  have g7 := cell_of_row W2 _ 7 _ _ _ (KB.out.get 2 rfl)
  have g8 := cell_of_row W2 _ 8 _ _ _ (KB.out.get 2 rfl)
  have g9 := cell_of_row W2 _ 9 _ _ _ (KB.out.get 2 rfl)
  have g10 := cell_of_row W2 _ 10 _ _ _ (KB.out.get 2 rfl)
  have g11 := cell_of_row W2 _ 11 _ _ _ (KB.out.get 2 rfl)
  have g12 := cell_of_row W2 _ 12 _ _ _ (KB.out.get 2 rfl)
  have f0 := cell_of_row W2 _ 0 _ _ _ (KB.out.get 0 rfl)
  have f1 := cell_of_row W2 _ 1 _ _ _ (KB.out.get 0 rfl)
  have f2 := cell_of_row W2 _ 2 _ _ _ (KB.out.get 0 rfl)
  have f3 := cell_of_row W2 _ 3 _ _ _ (KB.out.get 0 rfl)
  have f4 := cell_of_row W2 _ 4 _ _ _ (KB.out.get 0 rfl)
  have f5 := cell_of_row W2 _ 5 _ _ _ (KB.out.get 0 rfl)
  have f6 := cell_of_row W2 _ 6 _ _ _ (KB.out.get 0 rfl)
  have f7 := cell_of_row W2 _ 7 _ _ _ (KB.out.get 0 rfl)
  have f8 := cell_of_row W2 _ 8 _ _ _ (KB.out.get 0 rfl)
  have f9 := cell_of_row W2 _ 9 _ _ _ (KB.out.get 0 rfl)
  have f10 := cell_of_row W2 _ 10 _ _ _ (KB.out.get 0 rfl)
  have f11 := cell_of_row W2 _ 11 _ _ _ (KB.out.get 0 rfl)
  have f12 := cell_of_row W2 _ 12 _ _ _ (KB.out.get 0 rfl)
  have zf := KB.out.lt 0 rfl
  have qf3 := frozen_of_row W2 (w.heap.size + 1 + 1) 3 _ _ (KB.out.get 0 rfl)
  have qf4 := frozen_of_row W2 (w.heap.size + 1 + 1) 4 _ _ (KB.out.get 0 rfl)
  have qf9 := frozen_of_row W2 (w.heap.size + 1 + 1) 9 _ _ (KB.out.get 0 rfl)
  go_upto_region 14 with (fail)
  clear f0 f1 f2 f3 f4 f5 f6 f7 f8 f9 f10 f11 f12
  clear g0 g1 g2 g3 g4 g5 g6 g7 g8 g9 g10 g11 g12
  clear zf qf3 qf4 qf9
  refine world_gen (fun W_ => Holds w [(w.heap.size + 1 + 1, .cells #[.int .i64 o.t, .int .i64 o.r, .int .i64 o.k, .int .i64 o.a0, .int .i64 o.a1, .int .i64 0, .int .i64 0, .int .i64 0, .int .i64 0, .string o.nm, .string ⟨#[]⟩, .int .i64 0, .string ⟨#[]⟩] 36 (0, 0)), (w.heap.size + 1, .cells #[.int .i64 0, .int .i64 0, .int .i64 0, .int .i64 0, .int .i64 0, .int .i64 0, .int .i64 0, .int .i64 0, .int .i64 0, .string ⟨#[]⟩, .string ⟨#[]⟩, .int .i64 0, .string ⟨#[]⟩] 36 (0, 0)), (w.heap.size, .cells #[.int .i64 o.t, .int .i64 o.r, .int .i64 o.k, .int .i64 o.a0, .int .i64 o.a1, .int .i64 o.i0, .int .i64 o.i1, .int .i64 o.t0, .int .i64 o.t1, .string o.nm, .string o.nw, .int .i64 o.off, .string o.dt] 36 (0, 0))] W_) (bareS (bareS (bareS KB.out 3 (.int .i64 o.a0)) 4 (.int .i64 o.a1)) 9 (.string o.nm)) (fun W3 hK => ?_)
  have K3 := Hd.mk hK
  clear hK KB
  go_wp2_with (first | ((with_reducible refine gate_load (t := 36) rfl ?_); refine wpList_load_row rfl _ _ rfl (w.heap.size + 1 + 1) rfl 36 #[.int .i64 o.t, .int .i64 o.r, .int .i64 o.k, .int .i64 o.a0, .int .i64 o.a1, .int .i64 0, .int .i64 0, .int .i64 0, .int .i64 0, .string o.nm, .string ⟨#[]⟩, .int .i64 0, .string ⟨#[]⟩] (0, 0) _ (K3.out.get 0 rfl) Tryz.underlying36 rfl size_op13 ?_) | ((with_reducible refine gate_store (t := 36) rfl ?_); refine wpList_store_row rfl _ _ _ rfl (w.heap.size + 1) #[.int .i64 o.t, .int .i64 o.r, .int .i64 o.k, .int .i64 o.a0, .int .i64 o.a1, .int .i64 0, .int .i64 0, .int .i64 0, .int .i64 0, .string o.nm, .string ⟨#[]⟩, .int .i64 0, .string ⟨#[]⟩] rfl rfl 36 #[.int .i64 0, .int .i64 0, .int .i64 0, .int .i64 0, .int .i64 0, .int .i64 0, .int .i64 0, .int .i64 0, .int .i64 0, .string ⟨#[]⟩, .string ⟨#[]⟩, .int .i64 0, .string ⟨#[]⟩] (K3.out.get 1 rfl) size_op13 rfl (by kernel_rfl) ?_))
  have hz := setRow_heap _ _ _ #[.int .i64 o.t, .int .i64 o.r, .int .i64 o.k, .int .i64 o.a0, .int .i64 o.a1, .int .i64 0, .int .i64 0, .int .i64 0, .int .i64 0, .string o.nm, .string ⟨#[]⟩, .int .i64 0, .string ⟨#[]⟩] _ _ (K3.out.get 1 rfl)
  have hb := below_setRow K3.out.2 (Nat.le_succ _) #[.int .i64 o.t, .int .i64 o.r, .int .i64 o.k, .int .i64 o.a0, .int .i64 o.a1, .int .i64 0, .int .i64 0, .int .i64 0, .int .i64 0, .string o.nm, .string ⟨#[]⟩, .int .i64 0, .string ⟨#[]⟩]
  generalize World.setRow _ (w.heap.size + 1) #[.int .i64 o.t, .int .i64 o.r, .int .i64 o.k, .int .i64 o.a0, .int .i64 o.a1, .int .i64 0, .int .i64 0, .int .i64 0, .int .i64 0, .string o.nm, .string ⟨#[]⟩, .int .i64 0, .string ⟨#[]⟩] = WF at *
  have o0 := cell_of_row WF _ 0 _ _ _ (hz)
  have o1 := cell_of_row WF _ 1 _ _ _ (hz)
  have o2 := cell_of_row WF _ 2 _ _ _ (hz)
  have o3 := cell_of_row WF _ 3 _ _ _ (hz)
  have o4 := cell_of_row WF _ 4 _ _ _ (hz)
  have o5 := cell_of_row WF _ 5 _ _ _ (hz)
  have o6 := cell_of_row WF _ 6 _ _ _ (hz)
  have o7 := cell_of_row WF _ 7 _ _ _ (hz)
  have o8 := cell_of_row WF _ 8 _ _ _ (hz)
  have o9 := cell_of_row WF _ 9 _ _ _ (hz)
  have o10 := cell_of_row WF _ 10 _ _ _ (hz)
  have o11 := cell_of_row WF _ 11 _ _ _ (hz)
  have o12 := cell_of_row WF _ 12 _ _ _ (hz)
  rw [HV.out]
  exact bodyPost_ret (by simp [results, Tryz.results84, go_sem, o0, o1, o2, o3, o4, o5, o6, o7, o8, o9, o10, o11, o12]) rfl ⟨rfl, hb⟩
set_option maxHeartbeats 4000000 in
set_option maxRecDepth 100000 in
theorem bare_1 (o : OpV) (h : o.k = 3) (w : World) : Calls Tryz.prog 84 #[.agg #[.int .i64 o.t, .int .i64 o.r, .int .i64 o.k, .int .i64 o.a0, .int .i64 o.a1, .int .i64 o.i0, .int .i64 o.i1, .int .i64 o.t0, .int .i64 o.t1, .string o.nm, .string o.nw, .int .i64 o.off, .string o.dt]] w fun e w' => e = .returned (.agg (bareV o).cells) ∧ Below w.heap.size w w' := by
  have HV : Hd ((bareV o).cells = #[.int .i64 o.t, .int .i64 o.r, .int .i64 o.k, .int .i64 o.a0, .int .i64 o.a1, .int .i64 0, .int .i64 0, .int .i64 0, .int .i64 0, .string o.nm, .string ⟨#[]⟩, .int .i64 0, .string o.dt]) := ⟨by
    unfold bareV OpV.cells
    dsimp only
    have c1 : (o.k ≤ 7) = True := eq_true (by omega)
    have c2 : (4 ≤ o.k) = False := eq_false (by omega)
    have c3 : (o.k = 7) = False := eq_false (by omega)
    have c4 : (8 ≤ o.k) = False := eq_false (by omega)
    have c5 : (o.k = 3 ∨ o.k = 8) = True := eq_true (by omega)
    simp only [c1, c2, c3, c4, c5, if_true, if_false]⟩
  have eb : decide (o.k ≤ 7) = true := decide_eq_true (by omega)
  have ec : decide (4 ≤ o.k) = false := decide_eq_false (by omega)
  have ed : decide (8 ≤ o.k) = false := decide_eq_false (by omega)
  have es : (o.k == 7) = false := by rw [beq_eq_false_iff_ne, ne_eq]; omega
  have eq3 : (o.k == 3) = true := by rw [beq_iff_eq]; omega
  have eq8 : (o.k == 8) = false := by rw [beq_eq_false_iff_ne, ne_eq]; omega
  have K0 := Hd.mk (Holds.start2 w (.cells #[.int .i64 o.t, .int .i64 o.r, .int .i64 o.k, .int .i64 o.a0, .int .i64 o.a1, .int .i64 o.i0, .int .i64 o.i1, .int .i64 o.t0, .int .i64 o.t1, .string o.nm, .string o.nw, .int .i64 o.off, .string o.dt] 36 (0, 0)) (.cells #[.int .i64 0, .int .i64 0, .int .i64 0, .int .i64 0, .int .i64 0, .int .i64 0, .int .i64 0, .int .i64 0, .int .i64 0, .string ⟨#[]⟩, .string ⟨#[]⟩, .int .i64 0, .string ⟨#[]⟩] 36 (0, 0)))
  clear h
  go_enter Tryz.func84, Tryz.ntmps84
  go_upto_region 1 with (fail)
  refine world_gen (fun W_ => W_.heap.size = w.heap.size + 1 + 1 ∧ Holds w [(w.heap.size + 1, .cells #[.int .i64 0, .int .i64 0, .int .i64 0, .int .i64 0, .int .i64 0, .int .i64 0, .int .i64 0, .int .i64 0, .int .i64 0, .string ⟨#[]⟩, .string ⟨#[]⟩, .int .i64 0, .string ⟨#[]⟩] 36 (0, 0)), (w.heap.size, .cells #[.int .i64 o.t, .int .i64 o.r, .int .i64 o.k, .int .i64 o.a0, .int .i64 o.a1, .int .i64 o.i0, .int .i64 o.i1, .int .i64 o.t0, .int .i64 o.t1, .string o.nm, .string o.nw, .int .i64 o.off, .string o.dt] 36 (0, 0))] W_) ⟨by simp, K0.out⟩ (fun W1 hK => ?_)
  have K1 := Hd.mk hK.2
  have hsz := hK.1
  clear hK K0
  have g0 := cell_of_row W1 _ 0 _ _ _ (K1.out.get 1 rfl)
  have g1 := cell_of_row W1 _ 1 _ _ _ (K1.out.get 1 rfl)
  have g2 := cell_of_row W1 _ 2 _ _ _ (K1.out.get 1 rfl)
  have g3 := cell_of_row W1 _ 3 _ _ _ (K1.out.get 1 rfl)
  have g4 := cell_of_row W1 _ 4 _ _ _ (K1.out.get 1 rfl)
  have g5 := cell_of_row W1 _ 5 _ _ _ (K1.out.get 1 rfl)
  have g6 := cell_of_row W1 _ 6 _ _ _ (K1.out.get 1 rfl)
  have g7 := cell_of_row W1 _ 7 _ _ _ (K1.out.get 1 rfl)
  have g8 := cell_of_row W1 _ 8 _ _ _ (K1.out.get 1 rfl)
  have g9 := cell_of_row W1 _ 9 _ _ _ (K1.out.get 1 rfl)
  have g10 := cell_of_row W1 _ 10 _ _ _ (K1.out.get 1 rfl)
  have g11 := cell_of_row W1 _ 11 _ _ _ (K1.out.get 1 rfl)
  have g12 := cell_of_row W1 _ 12 _ _ _ (K1.out.get 1 rfl)
  have hlt := K1.out.lt 1 rfl
  go_upto_region 2 with (fail)
  clear g0 g1 g2 g3 g4 g5 g6 g7 g8 g9 g10 g11 g12
  have KB := K1.out.alloc (.cells #[.int .i64 o.t, .int .i64 o.r, .int .i64 o.k, .int .i64 0, .int .i64 0, .int .i64 0, .int .i64 0, .int .i64 0, .int .i64 0, .string ⟨#[]⟩, .string ⟨#[]⟩, .int .i64 0, .string ⟨#[]⟩] 36 (0, 0))
  rw [hsz] at KB
  refine world_gen (fun W_ => Holds w [(w.heap.size + 1 + 1, .cells #[.int .i64 o.t, .int .i64 o.r, .int .i64 o.k, .int .i64 0, .int .i64 0, .int .i64 0, .int .i64 0, .int .i64 0, .int .i64 0, .string ⟨#[]⟩, .string ⟨#[]⟩, .int .i64 0, .string ⟨#[]⟩] 36 (0, 0)), (w.heap.size + 1, .cells #[.int .i64 0, .int .i64 0, .int .i64 0, .int .i64 0, .int .i64 0, .int .i64 0, .int .i64 0, .int .i64 0, .int .i64 0, .string ⟨#[]⟩, .string ⟨#[]⟩, .int .i64 0, .string ⟨#[]⟩] 36 (0, 0)), (w.heap.size, .cells #[.int .i64 o.t, .int .i64 o.r, .int .i64 o.k, .int .i64 o.a0, .int .i64 o.a1, .int .i64 o.i0, .int .i64 o.i1, .int .i64 o.t0, .int .i64 o.t1, .string o.nm, .string o.nw, .int .i64 o.off, .string o.dt] 36 (0, 0))] W_) KB (fun W2 hK => ?_)
  have KB := Hd.mk hK
  clear hK K1 hsz hlt
  have g0 := cell_of_row W2 _ 0 _ _ _ (KB.out.get 2 rfl)
  have g1 := cell_of_row W2 _ 1 _ _ _ (KB.out.get 2 rfl)
  have g2 := cell_of_row W2 _ 2 _ _ _ (KB.out.get 2 rfl)
  have g3 := cell_of_row W2 _ 3 _ _ _ (KB.out.get 2 rfl)
  have g4 := cell_of_row W2 _ 4 _ _ _ (KB.out.get 2 rfl)
  have g5 := cell_of_row W2 _ 5 _ _ _ (KB.out.get 2 rfl)
  have g6 := cell_of_row W2 _ 6 _ _ _ (KB.out.get 2 rfl)
  have g7 := cell_of_row W2 _ 7 _ _ _ (KB.out.get 2 rfl)
  have g8 := cell_of_row W2 _ 8 _ _ _ (KB.out.get 2 rfl)
  have g9 := cell_of_row W2 _ 9 _ _ _ (KB.out.get 2 rfl)
  have g10 := cell_of_row W2 _ 10 _ _ _ (KB.out.get 2 rfl)
  have g11 := cell_of_row W2 _ 11 _ _ _ (KB.out.get 2 rfl)
  have g12 := cell_of_row W2 _ 12 _ _ _ (KB.out.get 2 rfl)
  have f0 := cell_of_row W2 _ 0 _ _ _ (KB.out.get 0 rfl)
  have f1 := cell_of_row W2 _ 1 _ _ _ (KB.out.get 0 rfl)
  have f2 := cell_of_row W2 _ 2 _ _ _ (KB.out.get 0 rfl)
  have f3 := cell_of_row W2 _ 3 _ _ _ (KB.out.get 0 rfl)
  have f4 := cell_of_row W2 _ 4 _ _ _ (KB.out.get 0 rfl)
  have f5 := cell_of_row W2 _ 5 _ _ _ (KB.out.get 0 rfl)
  have f6 := cell_of_row W2 _ 6 _ _ _ (KB.out.get 0 rfl)
  have f7 := cell_of_row W2 _ 7 _ _ _ (KB.out.get 0 rfl)
  have f8 := cell_of_row W2 _ 8 _ _ _ (KB.out.get 0 rfl)
  have f9 := cell_of_row W2 _ 9 _ _ _ (KB.out.get 0 rfl)
  have f10 := cell_of_row W2 _ 10 _ _ _ (KB.out.get 0 rfl)
  have f11 := cell_of_row W2 _ 11 _ _ _ (KB.out.get 0 rfl)
  have f12 := cell_of_row W2 _ 12 _ _ _ (KB.out.get 0 rfl)
  have zf := KB.out.lt 0 rfl
  have qf3 := frozen_of_row W2 (w.heap.size + 1 + 1) 3 _ _ (KB.out.get 0 rfl)
  have qf4 := frozen_of_row W2 (w.heap.size + 1 + 1) 4 _ _ (KB.out.get 0 rfl)
  have qf9 := frozen_of_row W2 (w.heap.size + 1 + 1) 9 _ _ (KB.out.get 0 rfl)
  have qf12 := frozen_of_row W2 (w.heap.size + 1 + 1) 12 _ _ (KB.out.get 0 rfl)
  go_upto_region 14 with (fail)
  clear f0 f1 f2 f3 f4 f5 f6 f7 f8 f9 f10 f11 f12
  clear g0 g1 g2 g3 g4 g5 g6 g7 g8 g9 g10 g11 g12
  clear zf qf3 qf4 qf9 qf12
  refine world_gen (fun W_ => Holds w [(w.heap.size + 1 + 1, .cells #[.int .i64 o.t, .int .i64 o.r, .int .i64 o.k, .int .i64 o.a0, .int .i64 o.a1, .int .i64 0, .int .i64 0, .int .i64 0, .int .i64 0, .string o.nm, .string ⟨#[]⟩, .int .i64 0, .string o.dt] 36 (0, 0)), (w.heap.size + 1, .cells #[.int .i64 0, .int .i64 0, .int .i64 0, .int .i64 0, .int .i64 0, .int .i64 0, .int .i64 0, .int .i64 0, .int .i64 0, .string ⟨#[]⟩, .string ⟨#[]⟩, .int .i64 0, .string ⟨#[]⟩] 36 (0, 0)), (w.heap.size, .cells #[.int .i64 o.t, .int .i64 o.r, .int .i64 o.k, .int .i64 o.a0, .int .i64 o.a1, .int .i64 o.i0, .int .i64 o.i1, .int .i64 o.t0, .int .i64 o.t1, .string o.nm, .string o.nw, .int .i64 o.off, .string o.dt] 36 (0, 0))] W_) (bareS (bareS (bareS (bareS KB.out 3 (.int .i64 o.a0)) 4 (.int .i64 o.a1)) 9 (.string o.nm)) 12 (.string o.dt)) (fun W3 hK => ?_)
  have K3 := Hd.mk hK
  clear hK KB
  go_wp2_with (first | ((with_reducible refine gate_load (t := 36) rfl ?_); refine wpList_load_row rfl _ _ rfl (w.heap.size + 1 + 1) rfl 36 #[.int .i64 o.t, .int .i64 o.r, .int .i64 o.k, .int .i64 o.a0, .int .i64 o.a1, .int .i64 0, .int .i64 0, .int .i64 0, .int .i64 0, .string o.nm, .string ⟨#[]⟩, .int .i64 0, .string o.dt] (0, 0) _ (K3.out.get 0 rfl) Tryz.underlying36 rfl size_op13 ?_) | ((with_reducible refine gate_store (t := 36) rfl ?_); refine wpList_store_row rfl _ _ _ rfl (w.heap.size + 1) #[.int .i64 o.t, .int .i64 o.r, .int .i64 o.k, .int .i64 o.a0, .int .i64 o.a1, .int .i64 0, .int .i64 0, .int .i64 0, .int .i64 0, .string o.nm, .string ⟨#[]⟩, .int .i64 0, .string o.dt] rfl rfl 36 #[.int .i64 0, .int .i64 0, .int .i64 0, .int .i64 0, .int .i64 0, .int .i64 0, .int .i64 0, .int .i64 0, .int .i64 0, .string ⟨#[]⟩, .string ⟨#[]⟩, .int .i64 0, .string ⟨#[]⟩] (K3.out.get 1 rfl) size_op13 rfl (by kernel_rfl) ?_))
  have hz := setRow_heap _ _ _ #[.int .i64 o.t, .int .i64 o.r, .int .i64 o.k, .int .i64 o.a0, .int .i64 o.a1, .int .i64 0, .int .i64 0, .int .i64 0, .int .i64 0, .string o.nm, .string ⟨#[]⟩, .int .i64 0, .string o.dt] _ _ (K3.out.get 1 rfl)
  have hb := below_setRow K3.out.2 (Nat.le_succ _) #[.int .i64 o.t, .int .i64 o.r, .int .i64 o.k, .int .i64 o.a0, .int .i64 o.a1, .int .i64 0, .int .i64 0, .int .i64 0, .int .i64 0, .string o.nm, .string ⟨#[]⟩, .int .i64 0, .string o.dt]
  generalize World.setRow _ (w.heap.size + 1) #[.int .i64 o.t, .int .i64 o.r, .int .i64 o.k, .int .i64 o.a0, .int .i64 o.a1, .int .i64 0, .int .i64 0, .int .i64 0, .int .i64 0, .string o.nm, .string ⟨#[]⟩, .int .i64 0, .string o.dt] = WF at *
  have o0 := cell_of_row WF _ 0 _ _ _ (hz)
  have o1 := cell_of_row WF _ 1 _ _ _ (hz)
  have o2 := cell_of_row WF _ 2 _ _ _ (hz)
  have o3 := cell_of_row WF _ 3 _ _ _ (hz)
  have o4 := cell_of_row WF _ 4 _ _ _ (hz)
  have o5 := cell_of_row WF _ 5 _ _ _ (hz)
  have o6 := cell_of_row WF _ 6 _ _ _ (hz)
  have o7 := cell_of_row WF _ 7 _ _ _ (hz)
  have o8 := cell_of_row WF _ 8 _ _ _ (hz)
  have o9 := cell_of_row WF _ 9 _ _ _ (hz)
  have o10 := cell_of_row WF _ 10 _ _ _ (hz)
  have o11 := cell_of_row WF _ 11 _ _ _ (hz)
  have o12 := cell_of_row WF _ 12 _ _ _ (hz)
  rw [HV.out]
  exact bodyPost_ret (by simp [results, Tryz.results84, go_sem, o0, o1, o2, o3, o4, o5, o6, o7, o8, o9, o10, o11, o12]) rfl ⟨rfl, hb⟩
set_option maxHeartbeats 4000000 in
set_option maxRecDepth 100000 in
theorem bare_2 (o : OpV) (h : 4 ≤ o.k ∧ o.k ≤ 6) (w : World) : Calls Tryz.prog 84 #[.agg #[.int .i64 o.t, .int .i64 o.r, .int .i64 o.k, .int .i64 o.a0, .int .i64 o.a1, .int .i64 o.i0, .int .i64 o.i1, .int .i64 o.t0, .int .i64 o.t1, .string o.nm, .string o.nw, .int .i64 o.off, .string o.dt]] w fun e w' => e = .returned (.agg (bareV o).cells) ∧ Below w.heap.size w w' := by
  have HV : Hd ((bareV o).cells = #[.int .i64 o.t, .int .i64 o.r, .int .i64 o.k, .int .i64 o.a0, .int .i64 o.a1, .int .i64 o.i0, .int .i64 o.i1, .int .i64 0, .int .i64 0, .string o.nm, .string ⟨#[]⟩, .int .i64 0, .string ⟨#[]⟩]) := ⟨by
    unfold bareV OpV.cells
    dsimp only
    have c1 : (o.k ≤ 7) = True := eq_true (by omega)
    have c2 : (4 ≤ o.k) = True := eq_true (by omega)
    have c3 : (o.k = 7) = False := eq_false (by omega)
    have c4 : (8 ≤ o.k) = False := eq_false (by omega)
    have c5 : (o.k = 3 ∨ o.k = 8) = False := eq_false (by omega)
    simp only [c1, c2, c3, c4, c5, if_true, if_false]⟩
  have eb : decide (o.k ≤ 7) = true := decide_eq_true (by omega)
  have ec : decide (4 ≤ o.k) = true := decide_eq_true (by omega)
  have ed : decide (8 ≤ o.k) = false := decide_eq_false (by omega)
  have es : (o.k == 7) = false := by rw [beq_eq_false_iff_ne, ne_eq]; omega
  have eq3 : (o.k == 3) = false := by rw [beq_eq_false_iff_ne, ne_eq]; omega
  have eq8 : (o.k == 8) = false := by rw [beq_eq_false_iff_ne, ne_eq]; omega
  have K0 := Hd.mk (Holds.start2 w (.cells #[.int .i64 o.t, .int .i64 o.r, .int .i64 o.k, .int .i64 o.a0, .int .i64 o.a1, .int .i64 o.i0, .int .i64 o.i1, .int .i64 o.t0, .int .i64 o.t1, .string o.nm, .string o.nw, .int .i64 o.off, .string o.dt] 36 (0, 0)) (.cells #[.int .i64 0, .int .i64 0, .int .i64 0, .int .i64 0, .int .i64 0, .int .i64 0, .int .i64 0, .int .i64 0, .int .i64 0, .string ⟨#[]⟩, .string ⟨#[]⟩, .int .i64 0, .string ⟨#[]⟩] 36 (0, 0)))
  clear h
  go_enter Tryz.func84, Tryz.ntmps84
  go_upto_region 1 with (fail)
  refine world_gen (fun W_ => W_.heap.size = w.heap.size + 1 + 1 ∧ Holds w [(w.heap.size + 1, .cells #[.int .i64 0, .int .i64 0, .int .i64 0, .int .i64 0, .int .i64 0, .int .i64 0, .int .i64 0, .int .i64 0, .int .i64 0, .string ⟨#[]⟩, .string ⟨#[]⟩, .int .i64 0, .string ⟨#[]⟩] 36 (0, 0)), (w.heap.size, .cells #[.int .i64 o.t, .int .i64 o.r, .int .i64 o.k, .int .i64 o.a0, .int .i64 o.a1, .int .i64 o.i0, .int .i64 o.i1, .int .i64 o.t0, .int .i64 o.t1, .string o.nm, .string o.nw, .int .i64 o.off, .string o.dt] 36 (0, 0))] W_) ⟨by simp, K0.out⟩ (fun W1 hK => ?_)
  have K1 := Hd.mk hK.2
  have hsz := hK.1
  clear hK K0
  have g0 := cell_of_row W1 _ 0 _ _ _ (K1.out.get 1 rfl)
  have g1 := cell_of_row W1 _ 1 _ _ _ (K1.out.get 1 rfl)
  have g2 := cell_of_row W1 _ 2 _ _ _ (K1.out.get 1 rfl)
  have g3 := cell_of_row W1 _ 3 _ _ _ (K1.out.get 1 rfl)
  have g4 := cell_of_row W1 _ 4 _ _ _ (K1.out.get 1 rfl)
  have g5 := cell_of_row W1 _ 5 _ _ _ (K1.out.get 1 rfl)
  have g6 := cell_of_row W1 _ 6 _ _ _ (K1.out.get 1 rfl)
  have g7 := cell_of_row W1 _ 7 _ _ _ (K1.out.get 1 rfl)
  have g8 := cell_of_row W1 _ 8 _ _ _ (K1.out.get 1 rfl)
  have g9 := cell_of_row W1 _ 9 _ _ _ (K1.out.get 1 rfl)
  have g10 := cell_of_row W1 _ 10 _ _ _ (K1.out.get 1 rfl)
  have g11 := cell_of_row W1 _ 11 _ _ _ (K1.out.get 1 rfl)
  have g12 := cell_of_row W1 _ 12 _ _ _ (K1.out.get 1 rfl)
  have hlt := K1.out.lt 1 rfl
  go_upto_region 2 with (fail)
  clear g0 g1 g2 g3 g4 g5 g6 g7 g8 g9 g10 g11 g12
  have KB := K1.out.alloc (.cells #[.int .i64 o.t, .int .i64 o.r, .int .i64 o.k, .int .i64 0, .int .i64 0, .int .i64 0, .int .i64 0, .int .i64 0, .int .i64 0, .string ⟨#[]⟩, .string ⟨#[]⟩, .int .i64 0, .string ⟨#[]⟩] 36 (0, 0))
  rw [hsz] at KB
  refine world_gen (fun W_ => Holds w [(w.heap.size + 1 + 1, .cells #[.int .i64 o.t, .int .i64 o.r, .int .i64 o.k, .int .i64 0, .int .i64 0, .int .i64 0, .int .i64 0, .int .i64 0, .int .i64 0, .string ⟨#[]⟩, .string ⟨#[]⟩, .int .i64 0, .string ⟨#[]⟩] 36 (0, 0)), (w.heap.size + 1, .cells #[.int .i64 0, .int .i64 0, .int .i64 0, .int .i64 0, .int .i64 0, .int .i64 0, .int .i64 0, .int .i64 0, .int .i64 0, .string ⟨#[]⟩, .string ⟨#[]⟩, .int .i64 0, .string ⟨#[]⟩] 36 (0, 0)), (w.heap.size, .cells #[.int .i64 o.t, .int .i64 o.r, .int .i64 o.k, .int .i64 o.a0, .int .i64 o.a1, .int .i64 o.i0, .int .i64 o.i1, .int .i64 o.t0, .int .i64 o.t1, .string o.nm, .string o.nw, .int .i64 o.off, .string o.dt] 36 (0, 0))] W_) KB (fun W2 hK => ?_)
  have KB := Hd.mk hK
  clear hK K1 hsz hlt
  have g0 := cell_of_row W2 _ 0 _ _ _ (KB.out.get 2 rfl)
  have g1 := cell_of_row W2 _ 1 _ _ _ (KB.out.get 2 rfl)
  have g2 := cell_of_row W2 _ 2 _ _ _ (KB.out.get 2 rfl)
  have g3 := cell_of_row W2 _ 3 _ _ _ (KB.out.get 2 rfl)
  have g4 := cell_of_row W2 _ 4 _ _ _ (KB.out.get 2 rfl)
  have g5 := cell_of_row W2 _ 5 _ _ _ (KB.out.get 2 rfl)
  have g6 := cell_of_row W2 _ 6 _ _ _ (KB.out.get 2 rfl)
  have g7 := cell_of_row W2 _ 7 _ _ _ (KB.out.get 2 rfl)
  have g8 := cell_of_row W2 _ 8 _ _ _ (KB.out.get 2 rfl)
  have g9 := cell_of_row W2 _ 9 _ _ _ (KB.out.get 2 rfl)
  have g10 := cell_of_row W2 _ 10 _ _ _ (KB.out.get 2 rfl)
  have g11 := cell_of_row W2 _ 11 _ _ _ (KB.out.get 2 rfl)
  have g12 := cell_of_row W2 _ 12 _ _ _ (KB.out.get 2 rfl)
  have f0 := cell_of_row W2 _ 0 _ _ _ (KB.out.get 0 rfl)
  have f1 := cell_of_row W2 _ 1 _ _ _ (KB.out.get 0 rfl)
  have f2 := cell_of_row W2 _ 2 _ _ _ (KB.out.get 0 rfl)
  have f3 := cell_of_row W2 _ 3 _ _ _ (KB.out.get 0 rfl)
  have f4 := cell_of_row W2 _ 4 _ _ _ (KB.out.get 0 rfl)
  have f5 := cell_of_row W2 _ 5 _ _ _ (KB.out.get 0 rfl)
  have f6 := cell_of_row W2 _ 6 _ _ _ (KB.out.get 0 rfl)
  have f7 := cell_of_row W2 _ 7 _ _ _ (KB.out.get 0 rfl)
  have f8 := cell_of_row W2 _ 8 _ _ _ (KB.out.get 0 rfl)
  have f9 := cell_of_row W2 _ 9 _ _ _ (KB.out.get 0 rfl)
  have f10 := cell_of_row W2 _ 10 _ _ _ (KB.out.get 0 rfl)
  have f11 := cell_of_row W2 _ 11 _ _ _ (KB.out.get 0 rfl)
  have f12 := cell_of_row W2 _ 12 _ _ _ (KB.out.get 0 rfl)
  have zf := KB.out.lt 0 rfl
  have qf3 := frozen_of_row W2 (w.heap.size + 1 + 1) 3 _ _ (KB.out.get 0 rfl)
  have qf4 := frozen_of_row W2 (w.heap.size + 1 + 1) 4 _ _ (KB.out.get 0 rfl)
  have qf9 := frozen_of_row W2 (w.heap.size + 1 + 1) 9 _ _ (KB.out.get 0 rfl)
  have qf5 := frozen_of_row W2 (w.heap.size + 1 + 1) 5 _ _ (KB.out.get 0 rfl)
  have qf6 := frozen_of_row W2 (w.heap.size + 1 + 1) 6 _ _ (KB.out.get 0 rfl)
  go_upto_region 14 with (fail)
  clear f0 f1 f2 f3 f4 f5 f6 f7 f8 f9 f10 f11 f12
  clear g0 g1 g2 g3 g4 g5 g6 g7 g8 g9 g10 g11 g12
  clear zf qf3 qf4 qf9 qf5 qf6
  refine world_gen (fun W_ => Holds w [(w.heap.size + 1 + 1, .cells #[.int .i64 o.t, .int .i64 o.r, .int .i64 o.k, .int .i64 o.a0, .int .i64 o.a1, .int .i64 o.i0, .int .i64 o.i1, .int .i64 0, .int .i64 0, .string o.nm, .string ⟨#[]⟩, .int .i64 0, .string ⟨#[]⟩] 36 (0, 0)), (w.heap.size + 1, .cells #[.int .i64 0, .int .i64 0, .int .i64 0, .int .i64 0, .int .i64 0, .int .i64 0, .int .i64 0, .int .i64 0, .int .i64 0, .string ⟨#[]⟩, .string ⟨#[]⟩, .int .i64 0, .string ⟨#[]⟩] 36 (0, 0)), (w.heap.size, .cells #[.int .i64 o.t, .int .i64 o.r, .int .i64 o.k, .int .i64 o.a0, .int .i64 o.a1, .int .i64 o.i0, .int .i64 o.i1, .int .i64 o.t0, .int .i64 o.t1, .string o.nm, .string o.nw, .int .i64 o.off, .string o.dt] 36 (0, 0))] W_) (bareS (bareS (bareS (bareS (bareS KB.out 3 (.int .i64 o.a0)) 4 (.int .i64 o.a1)) 9 (.string o.nm)) 5 (.int .i64 o.i0)) 6 (.int .i64 o.i1)) (fun W3 hK => ?_)
  have K3 := Hd.mk hK
  clear hK KB
  go_wp2_with (first | ((with_reducible refine gate_load (t := 36) rfl ?_); refine wpList_load_row rfl _ _ rfl (w.heap.size + 1 + 1) rfl 36 #[.int .i64 o.t, .int .i64 o.r, .int .i64 o.k, .int .i64 o.a0, .int .i64 o.a1, .int .i64 o.i0, .int .i64 o.i1, .int .i64 0, .int .i64 0, .string o.nm, .string ⟨#[]⟩, .int .i64 0, .string ⟨#[]⟩] (0, 0) _ (K3.out.get 0 rfl) Tryz.underlying36 rfl size_op13 ?_) | ((with_reducible refine gate_store (t := 36) rfl ?_); refine wpList_store_row rfl _ _ _ rfl (w.heap.size + 1) #[.int .i64 o.t, .int .i64 o.r, .int .i64 o.k, .int .i64 o.a0, .int .i64 o.a1, .int .i64 o.i0, .int .i64 o.i1, .int .i64 0, .int .i64 0, .string o.nm, .string ⟨#[]⟩, .int .i64 0, .string ⟨#[]⟩] rfl rfl 36 #[.int .i64 0, .int .i64 0, .int .i64 0, .int .i64 0, .int .i64 0, .int .i64 0, .int .i64 0, .int .i64 0, .int .i64 0, .string ⟨#[]⟩, .string ⟨#[]⟩, .int .i64 0, .string ⟨#[]⟩] (K3.out.get 1 rfl) size_op13 rfl (by kernel_rfl) ?_))
  have hz := setRow_heap _ _ _ #[.int .i64 o.t, .int .i64 o.r, .int .i64 o.k, .int .i64 o.a0, .int .i64 o.a1, .int .i64 o.i0, .int .i64 o.i1, .int .i64 0, .int .i64 0, .string o.nm, .string ⟨#[]⟩, .int .i64 0, .string ⟨#[]⟩] _ _ (K3.out.get 1 rfl)
  have hb := below_setRow K3.out.2 (Nat.le_succ _) #[.int .i64 o.t, .int .i64 o.r, .int .i64 o.k, .int .i64 o.a0, .int .i64 o.a1, .int .i64 o.i0, .int .i64 o.i1, .int .i64 0, .int .i64 0, .string o.nm, .string ⟨#[]⟩, .int .i64 0, .string ⟨#[]⟩]
  generalize World.setRow _ (w.heap.size + 1) #[.int .i64 o.t, .int .i64 o.r, .int .i64 o.k, .int .i64 o.a0, .int .i64 o.a1, .int .i64 o.i0, .int .i64 o.i1, .int .i64 0, .int .i64 0, .string o.nm, .string ⟨#[]⟩, .int .i64 0, .string ⟨#[]⟩] = WF at *
  have o0 := cell_of_row WF _ 0 _ _ _ (hz)
  have o1 := cell_of_row WF _ 1 _ _ _ (hz)
  have o2 := cell_of_row WF _ 2 _ _ _ (hz)
  have o3 := cell_of_row WF _ 3 _ _ _ (hz)
  have o4 := cell_of_row WF _ 4 _ _ _ (hz)
  have o5 := cell_of_row WF _ 5 _ _ _ (hz)
  have o6 := cell_of_row WF _ 6 _ _ _ (hz)
  have o7 := cell_of_row WF _ 7 _ _ _ (hz)
  have o8 := cell_of_row WF _ 8 _ _ _ (hz)
  have o9 := cell_of_row WF _ 9 _ _ _ (hz)
  have o10 := cell_of_row WF _ 10 _ _ _ (hz)
  have o11 := cell_of_row WF _ 11 _ _ _ (hz)
  have o12 := cell_of_row WF _ 12 _ _ _ (hz)
  rw [HV.out]
  exact bodyPost_ret (by simp [results, Tryz.results84, go_sem, o0, o1, o2, o3, o4, o5, o6, o7, o8, o9, o10, o11, o12]) rfl ⟨rfl, hb⟩
set_option maxHeartbeats 4000000 in
set_option maxRecDepth 100000 in
theorem bare_3 (o : OpV) (h : o.k = 7) (w : World) : Calls Tryz.prog 84 #[.agg #[.int .i64 o.t, .int .i64 o.r, .int .i64 o.k, .int .i64 o.a0, .int .i64 o.a1, .int .i64 o.i0, .int .i64 o.i1, .int .i64 o.t0, .int .i64 o.t1, .string o.nm, .string o.nw, .int .i64 o.off, .string o.dt]] w fun e w' => e = .returned (.agg (bareV o).cells) ∧ Below w.heap.size w w' := by
  have HV : Hd ((bareV o).cells = #[.int .i64 o.t, .int .i64 o.r, .int .i64 o.k, .int .i64 o.a0, .int .i64 o.a1, .int .i64 o.i0, .int .i64 o.i1, .int .i64 o.t0, .int .i64 o.t1, .string o.nm, .string o.nw, .int .i64 0, .string ⟨#[]⟩]) := ⟨by
    unfold bareV OpV.cells
    dsimp only
    have c1 : (o.k ≤ 7) = True := eq_true (by omega)
    have c2 : (4 ≤ o.k) = True := eq_true (by omega)
    have c3 : (o.k = 7) = True := eq_true (by omega)
    have c4 : (8 ≤ o.k) = False := eq_false (by omega)
    have c5 : (o.k = 3 ∨ o.k = 8) = False := eq_false (by omega)
    simp only [c1, c2, c3, c4, c5, if_true, if_false]⟩
  have eb : decide (o.k ≤ 7) = true := decide_eq_true (by omega)
  have ec : decide (4 ≤ o.k) = true := decide_eq_true (by omega)
  have ed : decide (8 ≤ o.k) = false := decide_eq_false (by omega)
  have es : (o.k == 7) = true := by rw [beq_iff_eq]; omega
  have eq3 : (o.k == 3) = false := by rw [beq_eq_false_iff_ne, ne_eq]; omega
  have eq8 : (o.k == 8) = false := by rw [beq_eq_false_iff_ne, ne_eq]; omega
  have K0 := Hd.mk (Holds.start2 w (.cells #[.int .i64 o.t, .int .i64 o.r, .int .i64 o.k, .int .i64 o.a0, .int .i64 o.a1, .int .i64 o.i0, .int .i64 o.i1, .int .i64 o.t0, .int .i64 o.t1, .string o.nm, .string o.nw, .int .i64 o.off, .string o.dt] 36 (0, 0)) (.cells #[.int .i64 0, .int .i64 0, .int .i64 0, .int .i64 0, .int .i64 0, .int .i64 0, .int .i64 0, .int .i64 0, .int .i64 0, .string ⟨#[]⟩, .string ⟨#[]⟩, .int .i64 0, .string ⟨#[]⟩] 36 (0, 0)))
  clear h
  go_enter Tryz.func84, Tryz.ntmps84
  go_upto_region 1 with (fail)
  refine world_gen (fun W_ => W_.heap.size = w.heap.size + 1 + 1 ∧ Holds w [(w.heap.size + 1, .cells #[.int .i64 0, .int .i64 0, .int .i64 0, .int .i64 0, .int .i64 0, .int .i64 0, .int .i64 0, .int .i64 0, .int .i64 0, .string ⟨#[]⟩, .string ⟨#[]⟩, .int .i64 0, .string ⟨#[]⟩] 36 (0, 0)), (w.heap.size, .cells #[.int .i64 o.t, .int .i64 o.r, .int .i64 o.k, .int .i64 o.a0, .int .i64 o.a1, .int .i64 o.i0, .int .i64 o.i1, .int .i64 o.t0, .int .i64 o.t1, .string o.nm, .string o.nw, .int .i64 o.off, .string o.dt] 36 (0, 0))] W_) ⟨by simp, K0.out⟩ (fun W1 hK => ?_)
  have K1 := Hd.mk hK.2
  have hsz := hK.1
  clear hK K0
  have g0 := cell_of_row W1 _ 0 _ _ _ (K1.out.get 1 rfl)
  have g1 := cell_of_row W1 _ 1 _ _ _ (K1.out.get 1 rfl)
  have g2 := cell_of_row W1 _ 2 _ _ _ (K1.out.get 1 rfl)
  have g3 := cell_of_row W1 _ 3 _ _ _ (K1.out.get 1 rfl)
  have g4 := cell_of_row W1 _ 4 _ _ _ (K1.out.get 1 rfl)
  have g5 := cell_of_row W1 _ 5 _ _ _ (K1.out.get 1 rfl)
  have g6 := cell_of_row W1 _ 6 _ _ _ (K1.out.get 1 rfl)
  have g7 := cell_of_row W1 _ 7 _ _ _ (K1.out.get 1 rfl)
  have g8 := cell_of_row W1 _ 8 _ _ _ (K1.out.get 1 rfl)
  have g9 := cell_of_row W1 _ 9 _ _ _ (K1.out.get 1 rfl)
  have g10 := cell_of_row W1 _ 10 _ _ _ (K1.out.get 1 rfl)
  have g11 := cell_of_row W1 _ 11 _ _ _ (K1.out.get 1 rfl)
  have g12 := cell_of_row W1 _ 12 _ _ _ (K1.out.get 1 rfl)
  have hlt := K1.out.lt 1 rfl
  go_upto_region 2 with (fail)
  clear g0 g1 g2 g3 g4 g5 g6 g7 g8 g9 g10 g11 g12
  have KB := K1.out.alloc (.cells #[.int .i64 o.t, .int .i64 o.r, .int .i64 o.k, .int .i64 0, .int .i64 0, .int .i64 0, .int .i64 0, .int .i64 0, .int .i64 0, .string ⟨#[]⟩, .string ⟨#[]⟩, .int .i64 0, .string ⟨#[]⟩] 36 (0, 0))
  rw [hsz] at KB
  refine world_gen (fun W_ => Holds w [(w.heap.size + 1 + 1, .cells #[.int .i64 o.t, .int .i64 o.r, .int .i64 o.k, .int .i64 0, .int .i64 0, .int .i64 0, .int .i64 0, .int .i64 0, .int .i64 0, .string ⟨#[]⟩, .string ⟨#[]⟩, .int .i64 0, .string ⟨#[]⟩] 36 (0, 0)), (w.heap.size + 1, .cells #[.int .i64 0, .int .i64 0, .int .i64 0, .int .i64 0, .int .i64 0, .int .i64 0, .int .i64 0, .int .i64 0, .int .i64 0, .string ⟨#[]⟩, .string ⟨#[]⟩, .int .i64 0, .string ⟨#[]⟩] 36 (0, 0)), (w.heap.size, .cells #[.int .i64 o.t, .int .i64 o.r, .int .i64 o.k, .int .i64 o.a0, .int .i64 o.a1, .int .i64 o.i0, .int .i64 o.i1, .int .i64 o.t0, .int .i64 o.t1, .string o.nm, .string o.nw, .int .i64 o.off, .string o.dt] 36 (0, 0))] W_) KB (fun W2 hK => ?_)
  have KB := Hd.mk hK
  clear hK K1 hsz hlt
  have g0 := cell_of_row W2 _ 0 _ _ _ (KB.out.get 2 rfl)
  have g1 := cell_of_row W2 _ 1 _ _ _ (KB.out.get 2 rfl)
  have g2 := cell_of_row W2 _ 2 _ _ _ (KB.out.get 2 rfl)
  have g3 := cell_of_row W2 _ 3 _ _ _ (KB.out.get 2 rfl)
  have g4 := cell_of_row W2 _ 4 _ _ _ (KB.out.get 2 rfl)
  have g5 := cell_of_row W2 _ 5 _ _ _ (KB.out.get 2 rfl)
  have g6 := cell_of_row W2 _ 6 _ _ _ (KB.out.get 2 rfl)
  have g7 := cell_of_row W2 _ 7 _ _ _ (KB.out.get 2 rfl)
  have g8 := cell_of_row W2 _ 8 _ _ _ (KB.out.get 2 rfl)
  have g9 := cell_of_row W2 _ 9 _ _ _ (KB.out.get 2 rfl)
  have g10 := cell_of_row W2 _ 10 _ _ _ (KB.out.get 2 rfl)
  have g11 := cell_of_row W2 _ 11 _ _ _ (KB.out.get 2 rfl)
  have g12 := cell_of_row W2 _ 12 _ _ _ (KB.out.get 2 rfl)
  have f0 := cell_of_row W2 _ 0 _ _ _ (KB.out.get 0 rfl)
  have f1 := cell_of_row W2 _ 1 _ _ _ (KB.out.get 0 rfl)
  have f2 := cell_of_row W2 _ 2 _ _ _ (KB.out.get 0 rfl)
  have f3 := cell_of_row W2 _ 3 _ _ _ (KB.out.get 0 rfl)
  have f4 := cell_of_row W2 _ 4 _ _ _ (KB.out.get 0 rfl)
  have f5 := cell_of_row W2 _ 5 _ _ _ (KB.out.get 0 rfl)
  have f6 := cell_of_row W2 _ 6 _ _ _ (KB.out.get 0 rfl)
  have f7 := cell_of_row W2 _ 7 _ _ _ (KB.out.get 0 rfl)
  have f8 := cell_of_row W2 _ 8 _ _ _ (KB.out.get 0 rfl)
  have f9 := cell_of_row W2 _ 9 _ _ _ (KB.out.get 0 rfl)
  have f10 := cell_of_row W2 _ 10 _ _ _ (KB.out.get 0 rfl)
  have f11 := cell_of_row W2 _ 11 _ _ _ (KB.out.get 0 rfl)
  have f12 := cell_of_row W2 _ 12 _ _ _ (KB.out.get 0 rfl)
  have zf := KB.out.lt 0 rfl
  have qf3 := frozen_of_row W2 (w.heap.size + 1 + 1) 3 _ _ (KB.out.get 0 rfl)
  have qf4 := frozen_of_row W2 (w.heap.size + 1 + 1) 4 _ _ (KB.out.get 0 rfl)
  have qf9 := frozen_of_row W2 (w.heap.size + 1 + 1) 9 _ _ (KB.out.get 0 rfl)
  have qf5 := frozen_of_row W2 (w.heap.size + 1 + 1) 5 _ _ (KB.out.get 0 rfl)
  have qf6 := frozen_of_row W2 (w.heap.size + 1 + 1) 6 _ _ (KB.out.get 0 rfl)
  have qf7 := frozen_of_row W2 (w.heap.size + 1 + 1) 7 _ _ (KB.out.get 0 rfl)
  have qf8 := frozen_of_row W2 (w.heap.size + 1 + 1) 8 _ _ (KB.out.get 0 rfl)
  have qf10 := frozen_of_row W2 (w.heap.size + 1 + 1) 10 _ _ (KB.out.get 0 rfl)
  go_upto_region 14 with (fail)
  clear f0 f1 f2 f3 f4 f5 f6 f7 f8 f9 f10 f11 f12
  clear g0 g1 g2 g3 g4 g5 g6 g7 g8 g9 g10 g11 g12
  clear zf qf3 qf4 qf9 qf5 qf6 qf7 qf8 qf10
  refine world_gen (fun W_ => Holds w [(w.heap.size + 1 + 1, .cells #[.int .i64 o.t, .int .i64 o.r, .int .i64 o.k, .int .i64 o.a0, .int .i64 o.a1, .int .i64 o.i0, .int .i64 o.i1, .int .i64 o.t0, .int .i64 o.t1, .string o.nm, .string o.nw, .int .i64 0, .string ⟨#[]⟩] 36 (0, 0)), (w.heap.size + 1, .cells #[.int .i64 0, .int .i64 0, .int .i64 0, .int .i64 0, .int .i64 0, .int .i64 0, .int .i64 0, .int .i64 0, .int .i64 0, .string ⟨#[]⟩, .string ⟨#[]⟩, .int .i64 0, .string ⟨#[]⟩] 36 (0, 0)), (w.heap.size, .cells #[.int .i64 o.t, .int .i64 o.r, .int .i64 o.k, .int .i64 o.a0, .int .i64 o.a1, .int .i64 o.i0, .int .i64 o.i1, .int .i64 o.t0, .int .i64 o.t1, .string o.nm, .string o.nw, .int .i64 o.off, .string o.dt] 36 (0, 0))] W_) (bareS (bareS (bareS (bareS (bareS (bareS (bareS (bareS KB.out 3 (.int .i64 o.a0)) 4 (.int .i64 o.a1)) 9 (.string o.nm)) 5 (.int .i64 o.i0)) 6 (.int .i64 o.i1)) 7 (.int .i64 o.t0)) 8 (.int .i64 o.t1)) 10 (.string o.nw)) (fun W3 hK => ?_)
  have K3 := Hd.mk hK
  clear hK KB
  go_wp2_with (first | ((with_reducible refine gate_load (t := 36) rfl ?_); refine wpList_load_row rfl _ _ rfl (w.heap.size + 1 + 1) rfl 36 #[.int .i64 o.t, .int .i64 o.r, .int .i64 o.k, .int .i64 o.a0, .int .i64 o.a1, .int .i64 o.i0, .int .i64 o.i1, .int .i64 o.t0, .int .i64 o.t1, .string o.nm, .string o.nw, .int .i64 0, .string ⟨#[]⟩] (0, 0) _ (K3.out.get 0 rfl) Tryz.underlying36 rfl size_op13 ?_) | ((with_reducible refine gate_store (t := 36) rfl ?_); refine wpList_store_row rfl _ _ _ rfl (w.heap.size + 1) #[.int .i64 o.t, .int .i64 o.r, .int .i64 o.k, .int .i64 o.a0, .int .i64 o.a1, .int .i64 o.i0, .int .i64 o.i1, .int .i64 o.t0, .int .i64 o.t1, .string o.nm, .string o.nw, .int .i64 0, .string ⟨#[]⟩] rfl rfl 36 #[.int .i64 0, .int .i64 0, .int .i64 0, .int .i64 0, .int .i64 0, .int .i64 0, .int .i64 0, .int .i64 0, .int .i64 0, .string ⟨#[]⟩, .string ⟨#[]⟩, .int .i64 0, .string ⟨#[]⟩] (K3.out.get 1 rfl) size_op13 rfl (by kernel_rfl) ?_))
  have hz := setRow_heap _ _ _ #[.int .i64 o.t, .int .i64 o.r, .int .i64 o.k, .int .i64 o.a0, .int .i64 o.a1, .int .i64 o.i0, .int .i64 o.i1, .int .i64 o.t0, .int .i64 o.t1, .string o.nm, .string o.nw, .int .i64 0, .string ⟨#[]⟩] _ _ (K3.out.get 1 rfl)
  have hb := below_setRow K3.out.2 (Nat.le_succ _) #[.int .i64 o.t, .int .i64 o.r, .int .i64 o.k, .int .i64 o.a0, .int .i64 o.a1, .int .i64 o.i0, .int .i64 o.i1, .int .i64 o.t0, .int .i64 o.t1, .string o.nm, .string o.nw, .int .i64 0, .string ⟨#[]⟩]
  generalize World.setRow _ (w.heap.size + 1) #[.int .i64 o.t, .int .i64 o.r, .int .i64 o.k, .int .i64 o.a0, .int .i64 o.a1, .int .i64 o.i0, .int .i64 o.i1, .int .i64 o.t0, .int .i64 o.t1, .string o.nm, .string o.nw, .int .i64 0, .string ⟨#[]⟩] = WF at *
  have o0 := cell_of_row WF _ 0 _ _ _ (hz)
  have o1 := cell_of_row WF _ 1 _ _ _ (hz)
  have o2 := cell_of_row WF _ 2 _ _ _ (hz)
  have o3 := cell_of_row WF _ 3 _ _ _ (hz)
  have o4 := cell_of_row WF _ 4 _ _ _ (hz)
  have o5 := cell_of_row WF _ 5 _ _ _ (hz)
  have o6 := cell_of_row WF _ 6 _ _ _ (hz)
  have o7 := cell_of_row WF _ 7 _ _ _ (hz)
  have o8 := cell_of_row WF _ 8 _ _ _ (hz)
  have o9 := cell_of_row WF _ 9 _ _ _ (hz)
  have o10 := cell_of_row WF _ 10 _ _ _ (hz)
  have o11 := cell_of_row WF _ 11 _ _ _ (hz)
  have o12 := cell_of_row WF _ 12 _ _ _ (hz)
  rw [HV.out]
  exact bodyPost_ret (by simp [results, Tryz.results84, go_sem, o0, o1, o2, o3, o4, o5, o6, o7, o8, o9, o10, o11, o12]) rfl ⟨rfl, hb⟩
set_option maxHeartbeats 4000000 in
set_option maxRecDepth 100000 in
theorem bare_4 (o : OpV) (h : o.k = 8) (w : World) : Calls Tryz.prog 84 #[.agg #[.int .i64 o.t, .int .i64 o.r, .int .i64 o.k, .int .i64 o.a0, .int .i64 o.a1, .int .i64 o.i0, .int .i64 o.i1, .int .i64 o.t0, .int .i64 o.t1, .string o.nm, .string o.nw, .int .i64 o.off, .string o.dt]] w fun e w' => e = .returned (.agg (bareV o).cells) ∧ Below w.heap.size w w' := by
  have HV : Hd ((bareV o).cells = #[.int .i64 o.t, .int .i64 o.r, .int .i64 o.k, .int .i64 0, .int .i64 0, .int .i64 o.i0, .int .i64 o.i1, .int .i64 0, .int .i64 0, .string ⟨#[]⟩, .string ⟨#[]⟩, .int .i64 o.off, .string o.dt]) := ⟨by
    unfold bareV OpV.cells
    dsimp only
    have c1 : (o.k ≤ 7) = False := eq_false (by omega)
    have c2 : (4 ≤ o.k) = True := eq_true (by omega)
    have c3 : (o.k = 7) = False := eq_false (by omega)
    have c4 : (8 ≤ o.k) = True := eq_true (by omega)
    have c5 : (o.k = 3 ∨ o.k = 8) = True := eq_true (by omega)
    simp only [c1, c2, c3, c4, c5, if_true, if_false]⟩
  have eb : decide (o.k ≤ 7) = false := decide_eq_false (by omega)
  have ec : decide (4 ≤ o.k) = true := decide_eq_true (by omega)
  have ed : decide (8 ≤ o.k) = true := decide_eq_true (by omega)
  have es : (o.k == 7) = false := by rw [beq_eq_false_iff_ne, ne_eq]; omega
  have eq3 : (o.k == 3) = false := by rw [beq_eq_false_iff_ne, ne_eq]; omega
  have eq8 : (o.k == 8) = true := by rw [beq_iff_eq]; omega
  have K0 := Hd.mk (Holds.start2 w (.cells #[.int .i64 o.t, .int .i64 o.r, .int .i64 o.k, .int .i64 o.a0, .int .i64 o.a1, .int .i64 o.i0, .int .i64 o.i1, .int .i64 o.t0, .int .i64 o.t1, .string o.nm, .string o.nw, .int .i64 o.off, .string o.dt] 36 (0, 0)) (.cells #[.int .i64 0, .int .i64 0, .int .i64 0, .int .i64 0, .int .i64 0, .int .i64 0, .int .i64 0, .int .i64 0, .int .i64 0, .string ⟨#[]⟩, .string ⟨#[]⟩, .int .i64 0, .string ⟨#[]⟩] 36 (0, 0)))
  clear h
  go_enter Tryz.func84, Tryz.ntmps84
  go_upto_region 1 with (fail)
  refine world_gen (fun W_ => W_.heap.size = w.heap.size + 1 + 1 ∧ Holds w [(w.heap.size + 1, .cells #[.int .i64 0, .int .i64 0, .int .i64 0, .int .i64 0, .int .i64 0, .int .i64 0, .int .i64 0, .int .i64 0, .int .i64 0, .string ⟨#[]⟩, .string ⟨#[]⟩, .int .i64 0, .string ⟨#[]⟩] 36 (0, 0)), (w.heap.size, .cells #[.int .i64 o.t, .int .i64 o.r, .int .i64 o.k, .int .i64 o.a0, .int .i64 o.a1, .int .i64 o.i0, .int .i64 o.i1, .int .i64 o.t0, .int .i64 o.t1, .string o.nm, .string o.nw, .int .i64 o.off, .string o.dt] 36 (0, 0))] W_) ⟨by simp, K0.out⟩ (fun W1 hK => ?_)
  have K1 := Hd.mk hK.2
  have hsz := hK.1
  clear hK K0
  have g0 := cell_of_row W1 _ 0 _ _ _ (K1.out.get 1 rfl)
  have g1 := cell_of_row W1 _ 1 _ _ _ (K1.out.get 1 rfl)
  have g2 := cell_of_row W1 _ 2 _ _ _ (K1.out.get 1 rfl)
  have g3 := cell_of_row W1 _ 3 _ _ _ (K1.out.get 1 rfl)
  have g4 := cell_of_row W1 _ 4 _ _ _ (K1.out.get 1 rfl)
  have g5 := cell_of_row W1 _ 5 _ _ _ (K1.out.get 1 rfl)
  have g6 := cell_of_row W1 _ 6 _ _ _ (K1.out.get 1 rfl)
  have g7 := cell_of_row W1 _ 7 _ _ _ (K1.out.get 1 rfl)
  have g8 := cell_of_row W1 _ 8 _ _ _ (K1.out.get 1 rfl)
  have g9 := cell_of_row W1 _ 9 _ _ _ (K1.out.get 1 rfl)
  have g10 := cell_of_row W1 _ 10 _ _ _ (K1.out.get 1 rfl)
  have g11 := cell_of_row W1 _ 11 _ _ _ (K1.out.get 1 rfl)
  have g12 := cell_of_row W1 _ 12 _ _ _ (K1.out.get 1 rfl)
  have hlt := K1.out.lt 1 rfl
  go_upto_region 2 with (fail)
  clear g0 g1 g2 g3 g4 g5 g6 g7 g8 g9 g10 g11 g12
  have KB := K1.out.alloc (.cells #[.int .i64 o.t, .int .i64 o.r, .int .i64 o.k, .int .i64 0, .int .i64 0, .int .i64 0, .int .i64 0, .int .i64 0, .int .i64 0, .string ⟨#[]⟩, .string ⟨#[]⟩, .int .i64 0, .string ⟨#[]⟩] 36 (0, 0))
  rw [hsz] at KB
  refine world_gen (fun W_ => Holds w [(w.heap.size + 1 + 1, .cells #[.int .i64 o.t, .int .i64 o.r, .int .i64 o.k, .int .i64 0, .int .i64 0, .int .i64 0, .int .i64 0, .int .i64 0, .int .i64 0, .string ⟨#[]⟩, .string ⟨#[]⟩, .int .i64 0, .string ⟨#[]⟩] 36 (0, 0)), (w.heap.size + 1, .cells #[.int .i64 0, .int .i64 0, .int .i64 0, .int .i64 0, .int .i64 0, .int .i64 0, .int .i64 0, .int .i64 0, .int .i64 0, .string ⟨#[]⟩, .string ⟨#[]⟩, .int .i64 0, .string ⟨#[]⟩] 36 (0, 0)), (w.heap.size, .cells #[.int .i64 o.t, .int .i64 o.r, .int .i64 o.k, .int .i64 o.a0, .int .i64 o.a1, .int .i64 o.i0, .int .i64 o.i1, .int .i64 o.t0, .int .i64 o.t1, .string o.nm, .string o.nw, .int .i64 o.off, .string o.dt] 36 (0, 0))] W_) KB (fun W2 hK => ?_)
  have KB := Hd.mk hK
  clear hK K1 hsz hlt
  have g0 := cell_of_row W2 _ 0 _ _ _ (KB.out.get 2 rfl)
  have g1 := cell_of_row W2 _ 1 _ _ _ (KB.out.get 2 rfl)
  have g2 := cell_of_row W2 _ 2 _ _ _ (KB.out.get 2 rfl)
  have g3 := cell_of_row W2 _ 3 _ _ _ (KB.out.get 2 rfl)
  have g4 := cell_of_row W2 _ 4 _ _ _ (KB.out.get 2 rfl)
  have g5 := cell_of_row W2 _ 5 _ _ _ (KB.out.get 2 rfl)
  have g6 := cell_of_row W2 _ 6 _ _ _ (KB.out.get 2 rfl)
  have g7 := cell_of_row W2 _ 7 _ _ _ (KB.out.get 2 rfl)
  have g8 := cell_of_row W2 _ 8 _ _ _ (KB.out.get 2 rfl)
  have g9 := cell_of_row W2 _ 9 _ _ _ (KB.out.get 2 rfl)
  have g10 := cell_of_row W2 _ 10 _ _ _ (KB.out.get 2 rfl)
  have g11 := cell_of_row W2 _ 11 _ _ _ (KB.out.get 2 rfl)
  have g12 := cell_of_row W2 _ 12 _ _ _ (KB.out.get 2 rfl)
  have f0 := cell_of_row W2 _ 0 _ _ _ (KB.out.get 0 rfl)
  have f1 := cell_of_row W2 _ 1 _ _ _ (KB.out.get 0 rfl)
  have f2 := cell_of_row W2 _ 2 _ _ _ (KB.out.get 0 rfl)
  have f3 := cell_of_row W2 _ 3 _ _ _ (KB.out.get 0 rfl)
  have f4 := cell_of_row W2 _ 4 _ _ _ (KB.out.get 0 rfl)
  have f5 := cell_of_row W2 _ 5 _ _ _ (KB.out.get 0 rfl)
  have f6 := cell_of_row W2 _ 6 _ _ _ (KB.out.get 0 rfl)
  have f7 := cell_of_row W2 _ 7 _ _ _ (KB.out.get 0 rfl)
  have f8 := cell_of_row W2 _ 8 _ _ _ (KB.out.get 0 rfl)
  have f9 := cell_of_row W2 _ 9 _ _ _ (KB.out.get 0 rfl)
  have f10 := cell_of_row W2 _ 10 _ _ _ (KB.out.get 0 rfl)
  have f11 := cell_of_row W2 _ 11 _ _ _ (KB.out.get 0 rfl)
  have f12 := cell_of_row W2 _ 12 _ _ _ (KB.out.get 0 rfl)
  have zf := KB.out.lt 0 rfl
  have qf5 := frozen_of_row W2 (w.heap.size + 1 + 1) 5 _ _ (KB.out.get 0 rfl)
  have qf6 := frozen_of_row W2 (w.heap.size + 1 + 1) 6 _ _ (KB.out.get 0 rfl)
  have qf11 := frozen_of_row W2 (w.heap.size + 1 + 1) 11 _ _ (KB.out.get 0 rfl)
  have qf12 := frozen_of_row W2 (w.heap.size + 1 + 1) 12 _ _ (KB.out.get 0 rfl)
  go_upto_region 14 with (fail)
  clear f0 f1 f2 f3 f4 f5 f6 f7 f8 f9 f10 f11 f12
  clear g0 g1 g2 g3 g4 g5 g6 g7 g8 g9 g10 g11 g12
  clear zf qf5 qf6 qf11 qf12
  refine world_gen (fun W_ => Holds w [(w.heap.size + 1 + 1, .cells #[.int .i64 o.t, .int .i64 o.r, .int .i64 o.k, .int .i64 0, .int .i64 0, .int .i64 o.i0, .int .i64 o.i1, .int .i64 0, .int .i64 0, .string ⟨#[]⟩, .string ⟨#[]⟩, .int .i64 o.off, .string o.dt] 36 (0, 0)), (w.heap.size + 1, .cells #[.int .i64 0, .int .i64 0, .int .i64 0, .int .i64 0, .int .i64 0, .int .i64 0, .int .i64 0, .int .i64 0, .int .i64 0, .string ⟨#[]⟩, .string ⟨#[]⟩, .int .i64 0, .string ⟨#[]⟩] 36 (0, 0)), (w.heap.size, .cells #[.int .i64 o.t, .int .i64 o.r, .int .i64 o.k, .int .i64 o.a0, .int .i64 o.a1, .int .i64 o.i0, .int .i64 o.i1, .int .i64 o.t0, .int .i64 o.t1, .string o.nm, .string o.nw, .int .i64 o.off, .string o.dt] 36 (0, 0))] W_) (bareS (bareS (bareS (bareS KB.out 5 (.int .i64 o.i0)) 6 (.int .i64 o.i1)) 11 (.int .i64 o.off)) 12 (.string o.dt)) (fun W3 hK => ?_)
  have K3 := Hd.mk hK
  clear hK KB
  go_wp2_with (first | ((with_reducible refine gate_load (t := 36) rfl ?_); refine wpList_load_row rfl _ _ rfl (w.heap.size + 1 + 1) rfl 36 #[.int .i64 o.t, .int .i64 o.r, .int .i64 o.k, .int .i64 0, .int .i64 0, .int .i64 o.i0, .int .i64 o.i1, .int .i64 0, .int .i64 0, .string ⟨#[]⟩, .string ⟨#[]⟩, .int .i64 o.off, .string o.dt] (0, 0) _ (K3.out.get 0 rfl) Tryz.underlying36 rfl size_op13 ?_) | ((with_reducible refine gate_store (t := 36) rfl ?_); refine wpList_store_row rfl _ _ _ rfl (w.heap.size + 1) #[.int .i64 o.t, .int .i64 o.r, .int .i64 o.k, .int .i64 0, .int .i64 0, .int .i64 o.i0, .int .i64 o.i1, .int .i64 0, .int .i64 0, .string ⟨#[]⟩, .string ⟨#[]⟩, .int .i64 o.off, .string o.dt] rfl rfl 36 #[.int .i64 0, .int .i64 0, .int .i64 0, .int .i64 0, .int .i64 0, .int .i64 0, .int .i64 0, .int .i64 0, .int .i64 0, .string ⟨#[]⟩, .string ⟨#[]⟩, .int .i64 0, .string ⟨#[]⟩] (K3.out.get 1 rfl) size_op13 rfl (by kernel_rfl) ?_))
  have hz := setRow_heap _ _ _ #[.int .i64 o.t, .int .i64 o.r, .int .i64 o.k, .int .i64 0, .int .i64 0, .int .i64 o.i0, .int .i64 o.i1, .int .i64 0, .int .i64 0, .string ⟨#[]⟩, .string ⟨#[]⟩, .int .i64 o.off, .string o.dt] _ _ (K3.out.get 1 rfl)
  have hb := below_setRow K3.out.2 (Nat.le_succ _) #[.int .i64 o.t, .int .i64 o.r, .int .i64 o.k, .int .i64 0, .int .i64 0, .int .i64 o.i0, .int .i64 o.i1, .int .i64 0, .int .i64 0, .string ⟨#[]⟩, .string ⟨#[]⟩, .int .i64 o.off, .string o.dt]
  generalize World.setRow _ (w.heap.size + 1) #[.int .i64 o.t, .int .i64 o.r, .int .i64 o.k, .int .i64 0, .int .i64 0, .int .i64 o.i0, .int .i64 o.i1, .int .i64 0, .int .i64 0, .string ⟨#[]⟩, .string ⟨#[]⟩, .int .i64 o.off, .string o.dt] = WF at *
  have o0 := cell_of_row WF _ 0 _ _ _ (hz)
  have o1 := cell_of_row WF _ 1 _ _ _ (hz)
  have o2 := cell_of_row WF _ 2 _ _ _ (hz)
  have o3 := cell_of_row WF _ 3 _ _ _ (hz)
  have o4 := cell_of_row WF _ 4 _ _ _ (hz)
  have o5 := cell_of_row WF _ 5 _ _ _ (hz)
  have o6 := cell_of_row WF _ 6 _ _ _ (hz)
  have o7 := cell_of_row WF _ 7 _ _ _ (hz)
  have o8 := cell_of_row WF _ 8 _ _ _ (hz)
  have o9 := cell_of_row WF _ 9 _ _ _ (hz)
  have o10 := cell_of_row WF _ 10 _ _ _ (hz)
  have o11 := cell_of_row WF _ 11 _ _ _ (hz)
  have o12 := cell_of_row WF _ 12 _ _ _ (hz)
  rw [HV.out]
  exact bodyPost_ret (by simp [results, Tryz.results84, go_sem, o0, o1, o2, o3, o4, o5, o6, o7, o8, o9, o10, o11, o12]) rfl ⟨rfl, hb⟩
set_option maxHeartbeats 4000000 in
set_option maxRecDepth 100000 in
theorem bare_5 (o : OpV) (h : 9 ≤ o.k ∧ o.k ≤ 10) (w : World) : Calls Tryz.prog 84 #[.agg #[.int .i64 o.t, .int .i64 o.r, .int .i64 o.k, .int .i64 o.a0, .int .i64 o.a1, .int .i64 o.i0, .int .i64 o.i1, .int .i64 o.t0, .int .i64 o.t1, .string o.nm, .string o.nw, .int .i64 o.off, .string o.dt]] w fun e w' => e = .returned (.agg (bareV o).cells) ∧ Below w.heap.size w w' := by
  have HV : Hd ((bareV o).cells = #[.int .i64 o.t, .int .i64 o.r, .int .i64 o.k, .int .i64 0, .int .i64 0, .int .i64 o.i0, .int .i64 o.i1, .int .i64 0, .int .i64 0, .string ⟨#[]⟩, .string ⟨#[]⟩, .int .i64 o.off, .string ⟨#[]⟩]) := ⟨by
    unfold bareV OpV.cells
    dsimp only
    have c1 : (o.k ≤ 7) = False := eq_false (by omega)
    have c2 : (4 ≤ o.k) = True := eq_true (by omega)
    have c3 : (o.k = 7) = False := eq_false (by omega)
    have c4 : (8 ≤ o.k) = True := eq_true (by omega)
    have c5 : (o.k = 3 ∨ o.k = 8) = False := eq_false (by omega)
    simp only [c1, c2, c3, c4, c5, if_true, if_false]⟩
  have eb : decide (o.k ≤ 7) = false := decide_eq_false (by omega)
  have ec : decide (4 ≤ o.k) = true := decide_eq_true (by omega)
  have ed : decide (8 ≤ o.k) = true := decide_eq_true (by omega)
  have es : (o.k == 7) = false := by rw [beq_eq_false_iff_ne, ne_eq]; omega
  have eq3 : (o.k == 3) = false := by rw [beq_eq_false_iff_ne, ne_eq]; omega
  have eq8 : (o.k == 8) = false := by rw [beq_eq_false_iff_ne, ne_eq]; omega
  have K0 := Hd.mk (Holds.start2 w (.cells #[.int .i64 o.t, .int .i64 o.r, .int .i64 o.k, .int .i64 o.a0, .int .i64 o.a1, .int .i64 o.i0, .int .i64 o.i1, .int .i64 o.t0, .int .i64 o.t1, .string o.nm, .string o.nw, .int .i64 o.off, .string o.dt] 36 (0, 0)) (.cells #[.int .i64 0, .int .i64 0, .int .i64 0, .int .i64 0, .int .i64 0, .int .i64 0, .int .i64 0, .int .i64 0, .int .i64 0, .string ⟨#[]⟩, .string ⟨#[]⟩, .int .i64 0, .string ⟨#[]⟩] 36 (0, 0)))
  clear h
  go_enter Tryz.func84, Tryz.ntmps84
  go_upto_region 1 with (fail)
  refine world_gen (fun W_ => W_.heap.size = w.heap.size + 1 + 1 ∧ Holds w [(w.heap.size + 1, .cells #[.int .i64 0, .int .i64 0, .int .i64 0, .int .i64 0, .int .i64 0, .int .i64 0, .int .i64 0, .int .i64 0, .int .i64 0, .string ⟨#[]⟩, .string ⟨#[]⟩, .int .i64 0, .string ⟨#[]⟩] 36 (0, 0)), (w.heap.size, .cells #[.int .i64 o.t, .int .i64 o.r, .int .i64 o.k, .int .i64 o.a0, .int .i64 o.a1, .int .i64 o.i0, .int .i64 o.i1, .int .i64 o.t0, .int .i64 o.t1, .string o.nm, .string o.nw, .int .i64 o.off, .string o.dt] 36 (0, 0))] W_) ⟨by simp, K0.out⟩ (fun W1 hK => ?_)
  have K1 := Hd.mk hK.2
  have hsz := hK.1
  clear hK K0
  have g0 := cell_of_row W1 _ 0 _ _ _ (K1.out.get 1 rfl)
  have g1 := cell_of_row W1 _ 1 _ _ _ (K1.out.get 1 rfl)
  have g2 := cell_of_row W1 _ 2 _ _ _ (K1.out.get 1 rfl)
  have g3 := cell_of_row W1 _ 3 _ _ _ (K1.out.get 1 rfl)
  have g4 := cell_of_row W1 _ 4 _ _ _ (K1.out.get 1 rfl)
  have g5 := cell_of_row W1 _ 5 _ _ _ (K1.out.get 1 rfl)
  have g6 := cell_of_row W1 _ 6 _ _ _ (K1.out.get 1 rfl)
  have g7 := cell_of_row W1 _ 7 _ _ _ (K1.out.get 1 rfl)
  have g8 := cell_of_row W1 _ 8 _ _ _ (K1.out.get 1 rfl)
  have g9 := cell_of_row W1 _ 9 _ _ _ (K1.out.get 1 rfl)
  have g10 := cell_of_row W1 _ 10 _ _ _ (K1.out.get 1 rfl)
  have g11 := cell_of_row W1 _ 11 _ _ _ (K1.out.get 1 rfl)
  have g12 := cell_of_row W1 _ 12 _ _ _ (K1.out.get 1 rfl)
  have hlt := K1.out.lt 1 rfl
  go_upto_region 2 with (fail)
  clear g0 g1 g2 g3 g4 g5 g6 g7 g8 g9 g10 g11 g12
  have KB := K1.out.alloc (.cells #[.int .i64 o.t, .int .i64 o.r, .int .i64 o.k, .int .i64 0, .int .i64 0, .int .i64 0, .int .i64 0, .int .i64 0, .int .i64 0, .string ⟨#[]⟩, .string ⟨#[]⟩, .int .i64 0, .string ⟨#[]⟩] 36 (0, 0))
  rw [hsz] at KB
  refine world_gen (fun W_ => Holds w [(w.heap.size + 1 + 1, .cells #[.int .i64 o.t, .int .i64 o.r, .int .i64 o.k, .int .i64 0, .int .i64 0, .int .i64 0, .int .i64 0, .int .i64 0, .int .i64 0, .string ⟨#[]⟩, .string ⟨#[]⟩, .int .i64 0, .string ⟨#[]⟩] 36 (0, 0)), (w.heap.size + 1, .cells #[.int .i64 0, .int .i64 0, .int .i64 0, .int .i64 0, .int .i64 0, .int .i64 0, .int .i64 0, .int .i64 0, .int .i64 0, .string ⟨#[]⟩, .string ⟨#[]⟩, .int .i64 0, .string ⟨#[]⟩] 36 (0, 0)), (w.heap.size, .cells #[.int .i64 o.t, .int .i64 o.r, .int .i64 o.k, .int .i64 o.a0, .int .i64 o.a1, .int .i64 o.i0, .int .i64 o.i1, .int .i64 o.t0, .int .i64 o.t1, .string o.nm, .string o.nw, .int .i64 o.off, .string o.dt] 36 (0, 0))] W_) KB (fun W2 hK => ?_)
  have KB := Hd.mk hK
  clear hK K1 hsz hlt
  have g0 := cell_of_row W2 _ 0 _ _ _ (KB.out.get 2 rfl)
  have g1 := cell_of_row W2 _ 1 _ _ _ (KB.out.get 2 rfl)
  have g2 := cell_of_row W2 _ 2 _ _ _ (KB.out.get 2 rfl)
  have g3 := cell_of_row W2 _ 3 _ _ _ (KB.out.get 2 rfl)
  have g4 := cell_of_row W2 _ 4 _ _ _ (KB.out.get 2 rfl)
  have g5 := cell_of_row W2 _ 5 _ _ _ (KB.out.get 2 rfl)
  have g6 := cell_of_row W2 _ 6 _ _ _ (KB.out.get 2 rfl)
  have g7 := cell_of_row W2 _ 7 _ _ _ (KB.out.get 2 rfl)
  have g8 := cell_of_row W2 _ 8 _ _ _ (KB.out.get 2 rfl)
  have g9 := cell_of_row W2 _ 9 _ _ _ (KB.out.get 2 rfl)
  have g10 := cell_of_row W2 _ 10 _ _ _ (KB.out.get 2 rfl)
  have g11 := cell_of_row W2 _ 11 _ _ _ (KB.out.get 2 rfl)
  have g12 := cell_of_row W2 _ 12 _ _ _ (KB.out.get 2 rfl)
  have f0 := cell_of_row W2 _ 0 _ _ _ (KB.out.get 0 rfl)
  have f1 := cell_of_row W2 _ 1 _ _ _ (KB.out.get 0 rfl)
  have f2 := cell_of_row W2 _ 2 _ _ _ (KB.out.get 0 rfl)
  have f3 := cell_of_row W2 _ 3 _ _ _ (KB.out.get 0 rfl)
  have f4 := cell_of_row W2 _ 4 _ _ _ (KB.out.get 0 rfl)
  have f5 := cell_of_row W2 _ 5 _ _ _ (KB.out.get 0 rfl)
  have f6 := cell_of_row W2 _ 6 _ _ _ (KB.out.get 0 rfl)
  have f7 := cell_of_row W2 _ 7 _ _ _ (KB.out.get 0 rfl)
  have f8 := cell_of_row W2 _ 8 _ _ _ (KB.out.get 0 rfl)
  have f9 := cell_of_row W2 _ 9 _ _ _ (KB.out.get 0 rfl)
  have f10 := cell_of_row W2 _ 10 _ _ _ (KB.out.get 0 rfl)
  have f11 := cell_of_row W2 _ 11 _ _ _ (KB.out.get 0 rfl)
  have f12 := cell_of_row W2 _ 12 _ _ _ (KB.out.get 0 rfl)
  have zf := KB.out.lt 0 rfl
  have qf5 := frozen_of_row W2 (w.heap.size + 1 + 1) 5 _ _ (KB.out.get 0 rfl)
  have qf6 := frozen_of_row W2 (w.heap.size + 1 + 1) 6 _ _ (KB.out.get 0 rfl)
  have qf11 := frozen_of_row W2 (w.heap.size + 1 + 1) 11 _ _ (KB.out.get 0 rfl)
  go_upto_region 14 with (fail)
  clear f0 f1 f2 f3 f4 f5 f6 f7 f8 f9 f10 f11 f12
  clear g0 g1 g2 g3 g4 g5 g6 g7 g8 g9 g10 g11 g12
  clear zf qf5 qf6 qf11
  refine world_gen (fun W_ => Holds w [(w.heap.size + 1 + 1, .cells #[.int .i64 o.t, .int .i64 o.r, .int .i64 o.k, .int .i64 0, .int .i64 0, .int .i64 o.i0, .int .i64 o.i1, .int .i64 0, .int .i64 0, .string ⟨#[]⟩, .string ⟨#[]⟩, .int .i64 o.off, .string ⟨#[]⟩] 36 (0, 0)), (w.heap.size + 1, .cells #[.int .i64 0, .int .i64 0, .int .i64 0, .int .i64 0, .int .i64 0, .int .i64 0, .int .i64 0, .int .i64 0, .int .i64 0, .string ⟨#[]⟩, .string ⟨#[]⟩, .int .i64 0, .string ⟨#[]⟩] 36 (0, 0)), (w.heap.size, .cells #[.int .i64 o.t, .int .i64 o.r, .int .i64 o.k, .int .i64 o.a0, .int .i64 o.a1, .int .i64 o.i0, .int .i64 o.i1, .int .i64 o.t0, .int .i64 o.t1, .string o.nm, .string o.nw, .int .i64 o.off, .string o.dt] 36 (0, 0))] W_) (bareS (bareS (bareS KB.out 5 (.int .i64 o.i0)) 6 (.int .i64 o.i1)) 11 (.int .i64 o.off)) (fun W3 hK => ?_)
  have K3 := Hd.mk hK
  clear hK KB
  go_wp2_with (first | ((with_reducible refine gate_load (t := 36) rfl ?_); refine wpList_load_row rfl _ _ rfl (w.heap.size + 1 + 1) rfl 36 #[.int .i64 o.t, .int .i64 o.r, .int .i64 o.k, .int .i64 0, .int .i64 0, .int .i64 o.i0, .int .i64 o.i1, .int .i64 0, .int .i64 0, .string ⟨#[]⟩, .string ⟨#[]⟩, .int .i64 o.off, .string ⟨#[]⟩] (0, 0) _ (K3.out.get 0 rfl) Tryz.underlying36 rfl size_op13 ?_) | ((with_reducible refine gate_store (t := 36) rfl ?_); refine wpList_store_row rfl _ _ _ rfl (w.heap.size + 1) #[.int .i64 o.t, .int .i64 o.r, .int .i64 o.k, .int .i64 0, .int .i64 0, .int .i64 o.i0, .int .i64 o.i1, .int .i64 0, .int .i64 0, .string ⟨#[]⟩, .string ⟨#[]⟩, .int .i64 o.off, .string ⟨#[]⟩] rfl rfl 36 #[.int .i64 0, .int .i64 0, .int .i64 0, .int .i64 0, .int .i64 0, .int .i64 0, .int .i64 0, .int .i64 0, .int .i64 0, .string ⟨#[]⟩, .string ⟨#[]⟩, .int .i64 0, .string ⟨#[]⟩] (K3.out.get 1 rfl) size_op13 rfl (by kernel_rfl) ?_))
  have hz := setRow_heap _ _ _ #[.int .i64 o.t, .int .i64 o.r, .int .i64 o.k, .int .i64 0, .int .i64 0, .int .i64 o.i0, .int .i64 o.i1, .int .i64 0, .int .i64 0, .string ⟨#[]⟩, .string ⟨#[]⟩, .int .i64 o.off, .string ⟨#[]⟩] _ _ (K3.out.get 1 rfl)
  have hb := below_setRow K3.out.2 (Nat.le_succ _) #[.int .i64 o.t, .int .i64 o.r, .int .i64 o.k, .int .i64 0, .int .i64 0, .int .i64 o.i0, .int .i64 o.i1, .int .i64 0, .int .i64 0, .string ⟨#[]⟩, .string ⟨#[]⟩, .int .i64 o.off, .string ⟨#[]⟩]
  generalize World.setRow _ (w.heap.size + 1) #[.int .i64 o.t, .int .i64 o.r, .int .i64 o.k, .int .i64 0, .int .i64 0, .int .i64 o.i0, .int .i64 o.i1, .int .i64 0, .int .i64 0, .string ⟨#[]⟩, .string ⟨#[]⟩, .int .i64 o.off, .string ⟨#[]⟩] = WF at *
  have o0 := cell_of_row WF _ 0 _ _ _ (hz)
  have o1 := cell_of_row WF _ 1 _ _ _ (hz)
  have o2 := cell_of_row WF _ 2 _ _ _ (hz)
  have o3 := cell_of_row WF _ 3 _ _ _ (hz)
  have o4 := cell_of_row WF _ 4 _ _ _ (hz)
  have o5 := cell_of_row WF _ 5 _ _ _ (hz)
  have o6 := cell_of_row WF _ 6 _ _ _ (hz)
  have o7 := cell_of_row WF _ 7 _ _ _ (hz)
  have o8 := cell_of_row WF _ 8 _ _ _ (hz)
  have o9 := cell_of_row WF _ 9 _ _ _ (hz)
  have o10 := cell_of_row WF _ 10 _ _ _ (hz)
  have o11 := cell_of_row WF _ 11 _ _ _ (hz)
  have o12 := cell_of_row WF _ 12 _ _ _ (hz)
  rw [HV.out]
  exact bodyPost_ret (by simp [results, Tryz.results84, go_sem, o0, o1, o2, o3, o4, o5, o6, o7, o8, o9, o10, o11, o12]) rfl ⟨rfl, hb⟩
theorem ref_Bare (o : OpV) (h1 : 1 ≤ o.k) (h2 : o.k ≤ 10) (w : World) : Calls Tryz.prog 84 #[.agg #[.int .i64 o.t, .int .i64 o.r, .int .i64 o.k, .int .i64 o.a0, .int .i64 o.a1, .int .i64 o.i0, .int .i64 o.i1, .int .i64 o.t0, .int .i64 o.t1, .string o.nm, .string o.nw, .int .i64 o.off, .string o.dt]] w fun e w' => e = .returned (.agg (bareV o).cells) ∧ Below w.heap.size w w' := by
  have h : (1 ≤ o.k ∧ o.k ≤ 2) ∨ (o.k = 3) ∨ (4 ≤ o.k ∧ o.k ≤ 6) ∨ (o.k = 7) ∨ (o.k = 8) ∨ (9 ≤ o.k ∧ o.k ≤ 10) := by omega
  rcases h with h | h | h | h | h | h
  · exact bare_0 o h w
  · exact bare_1 o h w
  · exact bare_2 o h w
  · exact bare_3 o h w
  · exact bare_4 o h w
  · exact bare_5 o h w
end Go.Proofs.YtcgkkjfbdappoaaGreat
