/- The document's disk: New, Append, Sync, Switch, Crash: their contracts. -/
import Derived.Test.YtkjlakjihjfjdaaDkRef
namespace Go.Proofs.Ytkjlakjihjfjdaa
open Go.RowKit Go.Proofs.YtkjlakjihjfjdaaW.PrintWords Go.Proofs.YtkjlakjihjfjdaaW.PrintLast Go.Proofs.YtkjlakjihjfjdaaW.PrintMore
set_option linter.unusedVariables false
set_option linter.unusedSimpArgs false
set_option maxHeartbeats 1000000 in
set_option maxRecDepth 100000 in
theorem ref_New (room : Int) (w : World) :
    Calls Try.prog 39 #[.int .i64 room] w fun e w' => e = .returned (.agg (rcells (max room 0) ⟨#[]⟩ ⟨#[]⟩ ⟨#[]⟩)) ∧ Below w.heap.size w w' := by
  have hz := zeroRef
  have H0 := Hd.mk (Holds.start1 w (.cells (rcells 0 ⟨#[]⟩ ⟨#[]⟩ ⟨#[]⟩) 74))
  by_cases hn : room < 0
  · have hm : max room 0 = 0 := by omega
    rw [hm]
    clear hm
    go_enter Try.func39, Try.ntmps39
    go_upto_region 1 with (fail)
    generalize w.alloc (.cells (rcells 0 ⟨#[]⟩ ⟨#[]⟩ ⟨#[]⟩) 74) = W at *
    go_wp2_with (first | ((with_reducible refine gate_store (t := 74) rfl ?_); refine wpList_store_row rfl _ _ _ rfl w.heap.size (rcells 0 ⟨#[]⟩ ⟨#[]⟩ ⟨#[]⟩) rfl rfl 74 (rcells 0 ⟨#[]⟩ ⟨#[]⟩ ⟨#[]⟩) (H0.out.get 0 rfl) size_ref rfl (rcells_one _ _ _ _) ?_))
    exact bodyPost_ret (results_cell_row (p := 2) rfl _ _ w.heap.size 74 (rcells 0 ⟨#[]⟩ ⟨#[]⟩ ⟨#[]⟩) (0, 0) _ rfl (setRow_heap _ _ _ _ _ _ (H0.out.get 0 rfl)) Try.underlying74 rfl size_ref) rfl ⟨rfl, below_setRow H0.out.2 (by omega) _⟩
  · have hm : max room 0 = room := by omega
    rw [hm]
    clear hm
    go_enter Try.func39, Try.ntmps39
    go_upto_region 1 with (fail)
    generalize w.alloc (.cells (rcells 0 ⟨#[]⟩ ⟨#[]⟩ ⟨#[]⟩) 74) = W at *
    go_upto_region 3 with (fail)
    go_wp2_with (first | ((with_reducible refine gate_store (t := 74) rfl ?_); refine wpList_store_row rfl _ _ _ rfl w.heap.size (rcells room ⟨#[]⟩ ⟨#[]⟩ ⟨#[]⟩) rfl rfl 74 (rcells 0 ⟨#[]⟩ ⟨#[]⟩ ⟨#[]⟩) (H0.out.get 0 rfl) size_ref rfl (rcells_one _ _ _ _) ?_))
    exact bodyPost_ret (results_cell_row (p := 2) rfl _ _ w.heap.size 74 (rcells room ⟨#[]⟩ ⟨#[]⟩ ⟨#[]⟩) (0, 0) _ rfl (setRow_heap _ _ _ _ _ _ (H0.out.get 0 rfl)) Try.underlying74 rfl size_ref) rfl ⟨rfl, below_setRow H0.out.2 (by omega) _⟩

theorem rset3 {W : World} {q : Nat} {room : Int} {snap safe rest : ByteArray} (h : W.heap[q]? = some (.cells (rcells room snap safe rest) 74 (0, 0))) (x : ByteArray) : (W.setCell ⟨q, 3, none⟩ (.string x)).heap[q]? = some (.cells (rcells room snap safe x) 74 (0, 0)) := (heap_setCell_same _ _ _ _ _ _ h).trans rfl
theorem rset2 {W : World} {q : Nat} {room : Int} {snap safe rest : ByteArray} (h : W.heap[q]? = some (.cells (rcells room snap safe rest) 74 (0, 0))) (x : ByteArray) : (W.setCell ⟨q, 2, none⟩ (.string x)).heap[q]? = some (.cells (rcells room snap x rest) 74 (0, 0)) := (heap_setCell_same _ _ _ _ _ _ h).trans rfl
/-- What a method of the document's disk holds: its own copy, and its result's place. -/
def Two (w : World) (room : Int) (snap safe rest : ByteArray) (W : World) : Prop :=
  W.heap[w.heap.size]? = some (.cells (rcells room snap safe rest) 74 (0, 0)) ∧ W.heap[w.heap.size + 1]? = some (.cells (rcells 0 ⟨#[]⟩ ⟨#[]⟩ ⟨#[]⟩) 74 (0, 0)) ∧ Below w.heap.size w W
theorem Two.start (w : World) (room : Int) (snap safe rest : ByteArray) : Two w room snap safe rest ((w.alloc (.cells (rcells room snap safe rest) 74)).alloc (.cells (rcells 0 ⟨#[]⟩ ⟨#[]⟩ ⟨#[]⟩) 74)) :=
  have H0 := Holds.start2 w (.cells (rcells room snap safe rest) 74) (.cells (rcells 0 ⟨#[]⟩ ⟨#[]⟩ ⟨#[]⟩) 74)
  ⟨H0.get 1 rfl, H0.get 0 rfl, H0.2⟩
theorem Two.call {w : World} {room : Int} {snap safe rest : ByteArray} {W W' : World} (h : Two w room snap safe rest W) (hb : Below W.heap.size W W') : Two w room snap safe rest W' :=
  ⟨(hb.block _ (Array.getElem?_eq_some_iff.1 h.1).1).trans h.1, (hb.block _ (Array.getElem?_eq_some_iff.1 h.2.1).1).trans h.2.1, below_step h.2.2 hb⟩
theorem Two.set3 {w : World} {room : Int} {snap safe rest : ByteArray} {W : World} (h : Two w room snap safe rest W) (x : ByteArray) : Two w room snap safe x (W.setCell ⟨w.heap.size, 3, none⟩ (.string x)) :=
  ⟨rset3 h.1 x, (heap_setCell_other _ _ _ _ (by simp)).trans h.2.1, h.2.2.setCell (Nat.le_refl _) _⟩
theorem Two.set2 {w : World} {room : Int} {snap safe rest : ByteArray} {W : World} (h : Two w room snap safe rest W) (x : ByteArray) : Two w room snap x rest (W.setCell ⟨w.heap.size, 2, none⟩ (.string x)) :=
  ⟨rset2 h.1 x, (heap_setCell_other _ _ _ _ (by simp)).trans h.2.1, h.2.2.setCell (Nat.le_refl _) _⟩

set_option maxHeartbeats 1000000 in
set_option maxRecDepth 100000 in
theorem ref_Append (room : Int) (snap safe rest : ByteArray) (hok : RefOk room snap safe rest) (s : ByteArray) (hs : ¬ room - snap.size - safe.size - rest.size < s.size) (hl : rest.size + s.size ≤ 9223372036854775807) (w : World) :
    Calls Try.prog 41 #[.agg (rcells room snap safe rest), .string s] w fun e w' => e = .returned (.tuple #[.agg (rcells room snap safe (rest ++ s)), .int .i64 0]) ∧ Below w.heap.size w w' := by
  have hz := zeroRef
  have H1 := Hd.mk (Two.start w room snap safe rest)
  have HF := Hd.mk (ref_Free room snap safe rest hok)
  generalize room - snap.size - safe.size - rest.size = fr at *
  clear hok
  go_enter Try.func41, Try.ntmps41
  go_upto_region 1 with (fail)
  generalize (w.alloc (.cells (rcells room snap safe rest) 74)).alloc (.cells (rcells 0 ⟨#[]⟩ ⟨#[]⟩ ⟨#[]⟩) 74) = W at *
  go_wp2_with (first | ((with_reducible refine gate_load (t := 74) rfl ?_); refine wpList_load_row rfl _ _ rfl w.heap.size rfl 74 (rcells room snap safe rest) (0, 0) _ H1.out.1 Try.underlying74 rfl size_ref ?_))
  refine (HF.out _).mono ?_; rintro e w1 ⟨rfl, h1⟩
  replace H1 := Hd.mk (H1.out.call h1)
  clear h1
  obtain ⟨c0, c1, c2, c3, f2, f3⟩ := rcell H1.out.1
  go_upto_region 4 with (fail)
  replace H1 := Hd.mk (H1.out.set3 (rest ++ s))
  clear c0 c1 c2 c3 f2 f3
  generalize w1.setCell ⟨w.heap.size, 3, none⟩ (.string (rest ++ s)) = W2 at *
  go_wp2_with (first | ((with_reducible refine gate_load (t := 74) rfl ?_); refine wpList_load_row rfl _ _ rfl w.heap.size rfl 74 (rcells room snap safe (rest ++ s)) (0, 0) _ H1.out.1 Try.underlying74 rfl size_ref ?_) | ((with_reducible refine gate_store (t := 74) rfl ?_); refine wpList_store_row rfl _ _ _ rfl (w.heap.size + 1) (rcells room snap safe (rest ++ s)) rfl rfl 74 (rcells 0 ⟨#[]⟩ ⟨#[]⟩ ⟨#[]⟩) H1.out.2.1 size_ref rfl (rcells_one _ _ _ _) ?_))
  exact bodyPost_ret (results_cell_tmp (p := 4) (q := 5) rfl _ _ (w.heap.size + 1) 74 (rcells room snap safe (rest ++ s)) (0, 0) _ rfl (setRow_heap _ _ _ _ _ _ H1.out.2.1) Try.underlying74 rfl size_ref) rfl ⟨rfl, below_setRow H1.out.2.2 (by omega) _⟩
set_option maxHeartbeats 1000000 in
set_option maxRecDepth 100000 in
theorem ref_Sync (room : Int) (snap safe rest : ByteArray) (hl : safe.size + rest.size ≤ 9223372036854775807) (w : World) :
    Calls Try.prog 42 #[.agg (rcells room snap safe rest)] w fun e w' => e = .returned (.agg (rcells room snap (safe ++ rest) ⟨#[]⟩)) ∧ Below w.heap.size w w' := by
  have hz := zeroRef
  have H1 := Hd.mk (Two.start w room snap safe rest)
  go_enter Try.func42, Try.ntmps42
  go_upto_region 1 with (fail)
  generalize (w.alloc (.cells (rcells room snap safe rest) 74)).alloc (.cells (rcells 0 ⟨#[]⟩ ⟨#[]⟩ ⟨#[]⟩) 74) = W at *
  obtain ⟨c0, c1, c2, c3, f2, f3⟩ := rcell H1.out.1
  go_upto_region 2 with (fail)
  replace H1 := Hd.mk (H1.out.set2 (safe ++ rest))
  clear c0 c1 c2 c3 f2 f3
  generalize W.setCell ⟨w.heap.size, 2, none⟩ (.string (safe ++ rest)) = W2 at *
  obtain ⟨c0, c1, c2, c3, f2, f3⟩ := rcell H1.out.1
  go_upto_region 3 with (fail)
  replace H1 := Hd.mk (H1.out.set3 ⟨#[]⟩)
  clear c0 c1 c2 c3 f2 f3
  generalize W2.setCell ⟨w.heap.size, 3, none⟩ (.string ⟨#[]⟩) = W3 at *
  go_wp2_with (first | ((with_reducible refine gate_load (t := 74) rfl ?_); refine wpList_load_row rfl _ _ rfl w.heap.size rfl 74 (rcells room snap (safe ++ rest) ⟨#[]⟩) (0, 0) _ H1.out.1 Try.underlying74 rfl size_ref ?_) | ((with_reducible refine gate_store (t := 74) rfl ?_); refine wpList_store_row rfl _ _ _ rfl (w.heap.size + 1) (rcells room snap (safe ++ rest) ⟨#[]⟩) rfl rfl 74 (rcells 0 ⟨#[]⟩ ⟨#[]⟩ ⟨#[]⟩) H1.out.2.1 size_ref rfl (rcells_one _ _ _ _) ?_))
  exact bodyPost_ret (results_cell_row (p := 2) rfl _ _ (w.heap.size + 1) 74 (rcells room snap (safe ++ rest) ⟨#[]⟩) (0, 0) _ rfl (setRow_heap _ _ _ _ _ _ H1.out.2.1) Try.underlying74 rfl size_ref) rfl ⟨rfl, below_setRow H1.out.2.2 (by omega) _⟩
set_option maxHeartbeats 1000000 in
set_option maxRecDepth 100000 in
theorem ref_Switch_off (room : Int) (snap safe rest : ByteArray) (s : ByteArray) (hs : room < s.size) (w : World) :
    Calls Try.prog 43 #[.agg (rcells room snap safe rest), .string s] w fun e w' => e = .returned (.tuple #[.agg (rcells room snap safe rest), .int .i64 13]) ∧ Below w.heap.size w w' := by
  have hz := zeroRef
  have H1 := Hd.mk (Two.start w room snap safe rest)
  go_enter Try.func43, Try.ntmps43
  go_upto_region 1 with (fail)
  generalize (w.alloc (.cells (rcells room snap safe rest) 74)).alloc (.cells (rcells 0 ⟨#[]⟩ ⟨#[]⟩ ⟨#[]⟩) 74) = W at *
  obtain ⟨c0, c1, c2, c3, f2, f3⟩ := rcell H1.out.1
  go_upto_region 2 with (fail)
  go_wp2_with (first | ((with_reducible refine gate_load (t := 74) rfl ?_); refine wpList_load_row rfl _ _ rfl w.heap.size rfl 74 (rcells room snap safe rest) (0, 0) _ H1.out.1 Try.underlying74 rfl size_ref ?_) | ((with_reducible refine gate_store (t := 74) rfl ?_); refine wpList_store_row rfl _ _ _ rfl (w.heap.size + 1) (rcells room snap safe rest) rfl rfl 74 (rcells 0 ⟨#[]⟩ ⟨#[]⟩ ⟨#[]⟩) H1.out.2.1 size_ref rfl (rcells_one _ _ _ _) ?_))
  exact bodyPost_ret (results_cell_tmp (p := 4) (q := 5) rfl _ _ (w.heap.size + 1) 74 (rcells room snap safe rest) (0, 0) _ rfl (setRow_heap _ _ _ _ _ _ H1.out.2.1) Try.underlying74 rfl size_ref) rfl ⟨rfl, below_setRow H1.out.2.2 (by omega) _⟩
set_option maxHeartbeats 1000000 in
set_option maxRecDepth 100000 in
theorem ref_Switch (room : Int) (snap safe rest : ByteArray) (s : ByteArray) (hs : (s.size : Int) ≤ room) (w : World) :
    Calls Try.prog 43 #[.agg (rcells room snap safe rest), .string s] w fun e w' => e = .returned (.tuple #[.agg (rcells room s ⟨#[]⟩ ⟨#[]⟩), .int .i64 0]) ∧ Below w.heap.size w w' := by
  have hz := zeroRef
  have H1 := Hd.mk (Two.start w room snap safe rest)
  have hs' : ¬ room < (s.size : Int) := by omega
  clear hs
  go_enter Try.func43, Try.ntmps43
  go_upto_region 1 with (fail)
  generalize (w.alloc (.cells (rcells room snap safe rest) 74)).alloc (.cells (rcells 0 ⟨#[]⟩ ⟨#[]⟩ ⟨#[]⟩) 74) = W at *
  obtain ⟨c0, c1, c2, c3, f2, f3⟩ := rcell H1.out.1
  go_upto_region 3 with (fail)
  go_wp2_with (first | ((with_reducible refine gate_store (t := 74) rfl ?_); refine wpList_store_row rfl _ _ _ rfl (w.heap.size + 1) (rcells room s ⟨#[]⟩ ⟨#[]⟩) rfl rfl 74 (rcells 0 ⟨#[]⟩ ⟨#[]⟩ ⟨#[]⟩) H1.out.2.1 size_ref rfl (rcells_one _ _ _ _) ?_))
  exact bodyPost_ret (results_cell_tmp (p := 4) (q := 5) rfl _ _ (w.heap.size + 1) 74 (rcells room s ⟨#[]⟩ ⟨#[]⟩) (0, 0) _ rfl (setRow_heap _ _ _ _ _ _ H1.out.2.1) Try.underlying74 rfl size_ref) rfl ⟨rfl, below_setRow H1.out.2.2 (by omega) _⟩
end Go.Proofs.Ytkjlakjihjfjdaa
