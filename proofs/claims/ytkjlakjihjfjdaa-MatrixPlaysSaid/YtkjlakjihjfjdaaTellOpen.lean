/- A slice of rows that are told, opened. -/
import Derived.Test.YtkjlakjihjfjdaaOpenAll
import Derived.Test.YtkjlakjihjfjdaaEnds
import Derived.Test.YtkjlakjihjfjdaaMatPlain
namespace Go.Proofs.Ytkjlakjihjfjdaa
open Go.RowKit Go.ChangeShapes Go.WideShapes Opn Go.Proofs.YtkjlakjihjfjdaaW.PrintWords
set_option linter.unusedVariables false

theorem leaves_tell : leaves Try.prog 9 63 = some (List.replicate 10 (.int .i64)) := by kernel_rfl
theorem leaves_tell_len : Try.prog.cellsOf 63 = (List.replicate 10 (Lf.int .i64)).length := by kernel_rfl
/-- A slice of rows, each told to some replica. -/
def AreTells (W : World) (v : Value) (A : Option Addr) (len cap : Nat) (l : List (Int × List Int)) : Prop :=
  v = .slice A len cap ∧ len ≤ cap ∧ cap ≤ maxLen ∧ l.length = len ∧ (∀ x ∈ l, x.2.length = 9) ∧
  ∀ j x, l[j]? = some x → ∃ a, A = some a ∧ W.cell? (a.add (j * 10)) = some (.int .i64 x.1) ∧ W.rangeAt (a.add (j * 10)).block ((a.add (j * 10)).off + 1) (vec x.2).toList
theorem tells_of (rows : List (List Value)) (h : ∀ row ∈ rows, FitAll (List.replicate 10 (.int .i64)) row) : ∃ l : List (Int × List Int), l.length = rows.length ∧ (∀ x ∈ l, x.2.length = 9) ∧ rows = l.map fun x => .int .i64 x.1 :: (vec x.2).toList := by
  induction rows with
  | nil => exact ⟨[], rfl, by simp, rfl⟩
  | cons row t ih =>
    obtain ⟨l, h1, h2, h3⟩ := ih (fun r hr => h r (List.mem_cons_of_mem _ hr))
    obtain ⟨r, rfl, hr, _⟩ := fit_ints .i64 10 row (h row List.mem_cons_self)
    match r, hr with
    | x :: s, hr => exact ⟨(x, s) :: l, by simp [h1], by simpa using ⟨by simpa using hr, fun a b hx => h2 (a, b) hx⟩, by simp [h3, vec]⟩
set_option maxRecDepth 100000 in
theorem open_tells {H : Type} {enc : TypeId × Value → H} {w : World} {base : Nat} {spare : Nat → Bool} {held : Bool} {r : Reach} {b0 : Nat} {v : Value} {d : DataW H} {p : List MemPlace} {S : Prop} (_ : S)
    (hv : Value.okWide Try.prog w r b0 60 v) (h : DataW.Trod enc Try.prog w base spare held 60 v d p) : ∃ A len cap l, AreTells w v A len cap l := by
  obtain ⟨A, len, cap, rows, rfl, h1, h2, h3, h4⟩ := open_rows 9 _ Try.underlying60 leaves_tell leaves_tell_len hv h
  obtain ⟨l, hl, hb, rfl⟩ := tells_of rows (fun row hr => by
    obtain ⟨j, hj, e⟩ := List.getElem_of_mem hr
    exact (h4 j row (by rw [List.getElem?_eq_getElem hj, e])).1)
  refine ⟨A, len, cap, l, rfl, h1, h2, by simpa using h3, hb, fun j x hx => ?_⟩
  obtain ⟨_, a, ha, hc⟩ := h4 j (.int .i64 x.1 :: (vec x.2).toList) (by simp [hx])
  have hc2 : ∀ i u, (.int .i64 x.1 :: (vec x.2).toList : List Value)[i]? = some u → w.cell? (a.add (j * 10 + i)) = some u := fun i u hu => hc i u hu
  refine ⟨a, ha, hc2 0 _ rfl, fun i u hu => ?_⟩
  have := hc2 (1 + i) u (by rw [Nat.add_comm]; exact hu)
  rw [add_field _ _ (1 + i) (by omega)] at this
  rw [Nat.add_assoc]
  exact this
end Go.Proofs.Ytkjlakjihjfjdaa
