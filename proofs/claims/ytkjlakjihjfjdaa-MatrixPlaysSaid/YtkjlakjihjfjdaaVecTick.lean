/- vector.Tick: its contract. -/
import Derived.Test.YtkjlakjihjfjdaaVecMay
namespace Go.Proofs.Ytkjlakjihjfjdaa
open Go.RowKit Go.Proofs.YtkjlakjihjfjdaaW.PrintWords Go.Proofs.YtkjlakjihjfjdaaW.PrintLast Go.Proofs.YtkjlakjihjfjdaaW.PrintMore
set_option linter.unusedVariables false
set_option linter.unusedSimpArgs false

theorem run_store_row {P : Program} {o : Oper} {ρ : Operand → Value} {w : World} (ty : TypeId) (x y : Operand) (ho : o.op = .store ty x y)
    (g : Nat) (cells : Array Value) (hx : ρ x = .pointer (some ⟨g, 0, none⟩)) (hy : ρ y = .agg cells)
    (t : TypeId) (old : Array Value) (hg : w.heap[g]? = some (.cells old t (0, 0))) (hi : (P.info? ty).map (·.size) = some cells.size)
    (hold : old.size = cells.size) (h1 : cells.all (·.oneCell') = true) : (execOp ρ o).run P w = .ok .skip (w.setRow g cells) := by
  unfold execOp
  simp only [ho, hx, hy, Instr.storeAt, Instr.sureAddr, Sem.run_bind, Sem.run_pure, Result.andThen_ok, run_storeVar_row w g t ty old cells hg hi hold h1]

theorem Holds_cell {w : World} {l : List (Nat × Obj)} {w' : World} {q : Nat} {cs : Array Value} {t : TypeId} (h : Holds w ((q, .cells cs t (0, 0)) :: l) w') (i : Nat) (x : Value) (hq : w.heap.size ≤ q) (hl : ∀ p ∈ l, p.1 ≠ q) : Holds w ((q, .cells (cs.setIfInBounds i x) t (0, 0)) :: l) (w'.setCell ⟨q, i, none⟩ x) := by
  refine ⟨fun p hp => ?_, h.2.setCell hq _⟩
  rcases List.mem_cons.1 hp with rfl | hp
  · exact heap_setCell_same _ _ _ _ _ _ (h.get 0 rfl)
  · exact (heap_setCell_other _ _ _ _ (by simpa using hl p hp)).trans (h.1 p (List.mem_cons_of_mem _ hp))

theorem results_cell_tmp {P : Program} {fn : Func} {p q : Tmp} {ty : TypeId} (h : fn.results = #[.cell p ty, .tmp q]) (tmps : Array Value) (w : World) (g : Nat) (t : TypeId) (cs : Array Value) (fr : Nat × Nat) (d : TypeDesc)
    (hp : tmps.getD p undef = .pointer (some ⟨g, 0, none⟩)) (hg : w.heap[g]? = some (.cells cs t fr))
    (hu : P.underlying ty = some d) (hd : (match d with | .struct _ | .array _ _ => true | _ => false) = true) (hi : (P.info? ty).map (·.size) = some cs.size) :
    (results fn tmps).run P w = .ok (.tuple #[.agg cs, tmps.getD q undef]) w := by
  have hp' : tmps[p]?.getD undef = .pointer (some ⟨g, 0, none⟩) := by simpa using hp
  simp [results, h, hp', asAddr, run_loadVar_row w g t ty cs fr d hg hu hd hi]

end Go.Proofs.Ytkjlakjihjfjdaa
