/- The document's disk: New, Free, Append, Sync, Switch: their contracts. -/
import Derived.Test.YtkjlakjihjfjdaaDkStr
namespace Go.Proofs.Ytkjlakjihjfjdaa
open Go.RowKit Go.Proofs.YtkjlakjihjfjdaaW.PrintWords Go.Proofs.YtkjlakjihjfjdaaW.PrintLast Go.Proofs.YtkjlakjihjfjdaaW.PrintMore
set_option linter.unusedVariables false
set_option linter.unusedSimpArgs false

/-- The four cells of the document's disk. -/
def rcells (room : Int) (snap safe rest : ByteArray) : Array Value := #[.int .i64 room, .string snap, .string safe, .string rest]
theorem size_ref : (Try.prog.info? 74).map (·.size) = some 4 := by kernel_rfl
theorem rcells_one (r : Int) (a b c : ByteArray) : (rcells r a b c).all (·.oneCell') = true := by
  simp [rcells]
  exact ⟨rfl, rfl, rfl, rfl⟩
theorem zeroRef (w : World) : (zeroValue 74).run Try.prog w = .ok (.agg (rcells 0 ⟨#[]⟩ ⟨#[]⟩ ⟨#[]⟩)) w := by kernel_rfl
theorem results_cell_tmp {P : Program} {fn : Func} {p q : Tmp} {ty : TypeId} (h : fn.results = #[.cell p ty, .tmp q]) (tmps : Array Value) (w : World) (g : Nat) (t : TypeId) (cs : Array Value) (fr : Nat × Nat) (d : TypeDesc)
    (hp : tmps.getD p undef = .pointer (some ⟨g, 0, none⟩)) (hg : w.heap[g]? = some (.cells cs t fr))
    (hu : P.underlying ty = some d) (hd : (match d with | .struct _ | .array _ _ => true | _ => false) = true) (hi : (P.info? ty).map (·.size) = some cs.size) :
    (results fn tmps).run P w = .ok (.tuple #[.agg cs, tmps.getD q undef]) w := by
  have hp' : tmps[p]?.getD undef = .pointer (some ⟨g, 0, none⟩) := by simpa using hp
  simp [results, h, hp', asAddr, run_loadVar_row w g t ty cs fr d hg hu hd hi]

/-- What the document's disk holds, and has room for, is no more than the machine's numbers bear. -/
def RefOk (room : Int) (snap safe rest : ByteArray) : Prop := 0 ≤ room ∧ room ≤ 9223372036854775807 ∧ (snap.size : Int) + safe.size + rest.size ≤ room
theorem rcell {W : World} {q : Nat} {room : Int} {snap safe rest : ByteArray} (h : W.heap[q]? = some (.cells (rcells room snap safe rest) 74 (0, 0))) :
    W.cell? ⟨q, 0, none⟩ = some (.int .i64 room) ∧ W.cell? ⟨q, 1, none⟩ = some (.string snap) ∧ W.cell? ⟨q, 2, none⟩ = some (.string safe) ∧ W.cell? ⟨q, 3, none⟩ = some (.string rest) ∧ W.frozen? ⟨q, 2, none⟩ = false ∧ W.frozen? ⟨q, 3, none⟩ = false := by
  refine ⟨?_, ?_, ?_, ?_, frozen_of_row _ _ 2 _ _ h, frozen_of_row _ _ 3 _ _ h⟩
  · rw [cell_of_row _ _ 0 _ _ _ h]; rfl
  · rw [cell_of_row _ _ 1 _ _ _ h]; rfl
  · rw [cell_of_row _ _ 2 _ _ _ h]; rfl
  · rw [cell_of_row _ _ 3 _ _ _ h]; rfl
set_option maxRecDepth 100000 in
theorem ref_Free (room : Int) (snap safe rest : ByteArray) (hok : RefOk room snap safe rest) (w : World) :
    Calls Try.prog 56 #[.agg (rcells room snap safe rest)] w fun e w' => e = .returned (.int .i64 (room - snap.size - safe.size - rest.size)) ∧ Below w.heap.size w w' := by
  have H0 := Hd.mk (Holds.start1 w (.cells (rcells room snap safe rest) 74))
  obtain ⟨o1, o2, o3⟩ := hok
  have x1 : wrap64 (room - snap.size) = room - snap.size := by unfold wrap64; omega
  have x2 : wrap64 (room - snap.size - safe.size) = room - snap.size - safe.size := by unfold wrap64; omega
  have x3 : wrap64 (room - snap.size - safe.size - rest.size) = room - snap.size - safe.size - rest.size := by unfold wrap64; omega
  clear o1 o2 o3
  go_enter Try.func56, Try.ntmps56
  go_upto_region 1 with (fail)
  generalize w.alloc (.cells (rcells room snap safe rest) 74) = W at *
  obtain ⟨c0, c1, c2, c3, f2, f3⟩ := rcell (H0.out.get 0 rfl)
  go_wp2_with fail
  go_ret
  exact ⟨by first | rfl | simp [x1, x2, x3], H0.out.2⟩

set_option maxHeartbeats 1000000 in
set_option maxRecDepth 100000 in
theorem ref_Append_off (room : Int) (snap safe rest : ByteArray) (hok : RefOk room snap safe rest) (s : ByteArray) (hs : room - snap.size - safe.size - rest.size < s.size) (w : World) :
    Calls Try.prog 41 #[.agg (rcells room snap safe rest), .string s] w fun e w' => e = .returned (.tuple #[.agg (rcells room snap safe rest), .int .i64 13]) ∧ Below w.heap.size w w' := by
  have hz := zeroRef
  have H0 := Hd.mk (Holds.start2 w (.cells (rcells room snap safe rest) 74) (.cells (rcells 0 ⟨#[]⟩ ⟨#[]⟩ ⟨#[]⟩) 74))
  have HF := Hd.mk (ref_Free room snap safe rest hok)
  generalize room - snap.size - safe.size - rest.size = fr at *
  clear hok
  go_enter Try.func41, Try.ntmps41
  go_upto_region 1 with (fail)
  generalize (w.alloc (.cells (rcells room snap safe rest) 74)).alloc (.cells (rcells 0 ⟨#[]⟩ ⟨#[]⟩ ⟨#[]⟩) 74) = W at *
  have H1 := Hd.mk (⟨H0.out.get 1 rfl, H0.out.get 0 rfl, H0.out.2⟩ : _ ∧ _ ∧ _)
  clear H0
  go_wp2_with (first | ((with_reducible refine gate_load (t := 74) rfl ?_); refine wpList_load_row rfl _ _ rfl w.heap.size rfl 74 (rcells room snap safe rest) (0, 0) _ H1.out.1 Try.underlying74 rfl size_ref ?_))
  refine (HF.out _).mono ?_; rintro e w1 ⟨rfl, h1⟩
  replace H1 := Hd.mk (⟨(h1.block _ (Array.getElem?_eq_some_iff.1 H1.out.1).1).trans H1.out.1, (h1.block _ (Array.getElem?_eq_some_iff.1 H1.out.2.1).1).trans H1.out.2.1, below_step H1.out.2.2 h1⟩ : _ ∧ _ ∧ _)
  clear h1
  go_wp2_with (first | ((with_reducible refine gate_load (t := 74) rfl ?_); refine wpList_load_row rfl _ _ rfl w.heap.size rfl 74 (rcells room snap safe rest) (0, 0) _ H1.out.1 Try.underlying74 rfl size_ref ?_) | ((with_reducible refine gate_store (t := 74) rfl ?_); refine wpList_store_row rfl _ _ _ rfl (w.heap.size + 1) (rcells room snap safe rest) rfl rfl 74 (rcells 0 ⟨#[]⟩ ⟨#[]⟩ ⟨#[]⟩) H1.out.2.1 size_ref rfl (rcells_one _ _ _ _) ?_))
  exact bodyPost_ret (results_cell_tmp (p := 4) (q := 5) rfl _ _ (w.heap.size + 1) 74 (rcells room snap safe rest) (0, 0) _ rfl (setRow_heap _ _ _ _ _ _ H1.out.2.1) Try.underlying74 rfl size_ref) rfl ⟨rfl, below_setRow H1.out.2.2 (by omega) _⟩
end Go.Proofs.Ytkjlakjihjfjdaa
