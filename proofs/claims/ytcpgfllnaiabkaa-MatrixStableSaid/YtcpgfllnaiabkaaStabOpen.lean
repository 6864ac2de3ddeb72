/- A slice of steps, opened; and the law MatrixStable of whatever comes in. -/
import Derived.Test.YtcpgfllnaiabkaaMatrixStable
import Derived.Test.YtcpgfllnaiabkaaEnds
namespace Go.Proofs.Ytcpgfllnaiabkaa.matrixStable
open Go.RowKit Go.ChangeShapes Go.WideShapes Opn Go.Proofs.YtcpgfllnaiabkaaW.PrintWords
set_option linter.unusedVariables false

theorem leaves_step : leaves Try.prog 5 33 = some [.int .u8, .int .u8, .int .u8] := by kernel_rfl
theorem leaves_step_len : Try.prog.cellsOf 33 = [Lf.int .u8, Lf.int .u8, Lf.int .u8].length := by kernel_rfl
theorem fit_step {cs : List Value} (h : FitAll [.int .u8, .int .u8, .int .u8] cs) : ∃ x : Nat × Nat × Nat, cs = [.int .u8 (x.1 : Int), .int .u8 (x.2.1 : Int), .int .u8 (x.2.2 : Int)] ∧ x.1 < 256 := by
  match cs, h with
  | [_, _, _], ⟨⟨k, rfl, hk⟩, ⟨q, rfl, hq⟩, ⟨s, rfl, hs⟩, _⟩ =>
    obtain ⟨k', rfl, hk'⟩ := u8_of hk
    obtain ⟨q', rfl, hq'⟩ := u8_of hq
    obtain ⟨s', rfl, hs'⟩ := u8_of hs
    exact ⟨(k', q', s'), rfl, hk'⟩
  | [_, _], ⟨_, _, h⟩ => exact h.elim
  | [_], ⟨_, h⟩ => exact h.elim
  | [], h => exact h.elim
  | _ :: _ :: _ :: _ :: _, ⟨_, _, _, h⟩ => exact h.elim
theorem steps_of (rows : List (List Value)) (h : ∀ row ∈ rows, FitAll [.int .u8, .int .u8, .int .u8] row) : ∃ l : List (Nat × Nat × Nat), l.length = rows.length ∧ (∀ x ∈ l, x.1 < 256) ∧ rows = l.map fun x => [.int .u8 (x.1 : Int), .int .u8 (x.2.1 : Int), .int .u8 (x.2.2 : Int)] := by
  induction rows with
  | nil => exact ⟨[], rfl, by simp, rfl⟩
  | cons row t ih =>
    obtain ⟨l, h1, h2, h3⟩ := ih (fun r hr => h r (List.mem_cons_of_mem _ hr))
    obtain ⟨x, rfl, hx⟩ := fit_step (h row List.mem_cons_self)
    exact ⟨x :: l, by simp [h1], fun y hy => by rcases List.mem_cons.1 hy with rfl | hy; exact hx; exact h2 y hy, by simp [h3]⟩
set_option maxRecDepth 100000 in
theorem open_steps {H : Type} {enc : TypeId × Value → H} {w : World} {base : Nat} {spare : Nat → Bool} {held : Bool} {r : Reach} {b0 : Nat} {v : Value} {d : DataW H} {p : List MemPlace} {S : Prop} (_ : S)
    (hv : Value.okWide Try.prog w r b0 22 v) (h : DataW.Trod enc Try.prog w base spare held 22 v d p) : ∃ A len cap l, AreSteps w v A len cap l := by
  obtain ⟨A, len, cap, rows, rfl, h1, h2, h3, h4⟩ := open_rows 5 _ Try.underlying22 leaves_step leaves_step_len hv h
  obtain ⟨l, hl, hb, rfl⟩ := steps_of rows (fun row hr => by
    obtain ⟨j, hj, e⟩ := List.getElem_of_mem hr
    exact (h4 j row (by rw [List.getElem?_eq_getElem hj, e])).1)
  refine ⟨A, len, cap, l, rfl, h1, h2, by simpa using h3, fun j x hx => ?_⟩
  obtain ⟨_, a, ha, hc⟩ := h4 j [.int .u8 (x.1 : Int), .int .u8 (x.2.1 : Int), .int .u8 (x.2.2 : Int)] (by simp [hx])
  have hc2 : ∀ i u, ([.int .u8 (x.1 : Int), .int .u8 (x.2.1 : Int), .int .u8 (x.2.2 : Int)] : List Value)[i]? = some u → w.cell? (a.add (j * 3 + i)) = some u := fun i u hu => hc i u hu
  exact ⟨a, ha, hc2 0 _ rfl, hc2 1 _ rfl, hc2 2 _ rfl, hb x (List.mem_of_getElem? hx)⟩
theorem law_MatrixStable {v : Value} {A : Option Addr} {len cap : Nat} {l : List (Nat × Nat × Nat)} {w : World} (hv : AreSteps w v A len cap l) :
    Calls Try.prog 3 #[v] w fun e w' => e = .returned (.bool true) ∧ Below w.heap.size w w' := by
  have h := hv.1
  subst h
  exact law' hv
end Go.Proofs.Ytcpgfllnaiabkaa.matrixStable
