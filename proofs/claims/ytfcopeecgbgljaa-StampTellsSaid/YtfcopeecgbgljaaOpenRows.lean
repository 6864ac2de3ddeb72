/- Arguments opened: structs and arrays by value, slices of whatever has no pointers. -/
import Derived.Test.YtfcopeecgbgljaaOpen
import Derived.ProofKit
namespace Go.Proofs.Ytfcopeecgbgljaa.Opn
open Go.ChangeShapes Go.WideShapes Go.ChangeAt Go.RowKit
set_option linter.unusedVariables false

section
variable {H : Type} {enc : TypeId × Value → H} {P : Program} {w : World} {base : Nat} {spare : Nat → Bool} {held : Bool}

/-- A struct by value. -/
theorem open_struct {r : Reach} {b0 : Nat} {t : TypeId} {fs : Array Field} {v : Value} {d : DataW H} {p : List MemPlace} (f : Nat) (ls : List Lf) (hs : P.underlying t = some (.struct fs)) (hl : leaves P f t = some ls)
    (hv : Value.okWide P w r b0 t v) (h : DataW.Trod enc P w base spare held t v d p) : ∃ cs : List Value, v = .agg cs.toArray ∧ FitAll ls cs := by
  obtain ⟨cs, rfl, hsz⟩ := okWide_struct hs hv
  obtain ⟨fuel, hf⟩ := h
  exact ⟨cs.toList, rfl, fits f t fuel _ _ ls hl hf⟩

theorem okWide_array {r : Reach} {b0 : Nat} {t e : TypeId} {n : Nat} {v : Value} (hs : P.underlying t = some (.array n e)) (hv : Value.okWide P w r b0 t v) : ∃ cs, v = .agg cs := by
  simp only [Value.okWide, hs] at hv
  obtain ⟨cs, h1, _⟩ := hv
  exact ⟨cs, h1⟩

/-- An array by value. -/
theorem open_array {r : Reach} {b0 : Nat} {t e : TypeId} {n : Nat} {v : Value} {d : DataW H} {p : List MemPlace} (f : Nat) (ls : List Lf) (hs : P.underlying t = some (.array n e)) (hl : leaves P f t = some ls)
    (hv : Value.okWide P w r b0 t v) (h : DataW.Trod enc P w base spare held t v d p) : ∃ cs : List Value, v = .agg cs.toArray ∧ FitAll ls cs := by
  obtain ⟨cs, rfl⟩ := okWide_array hs hv
  obtain ⟨fuel, hf⟩ := h
  exact ⟨cs.toList, rfl, fits f t fuel _ _ ls hl hf⟩

/-- A row of elements that is read: each fits, cell by cell. -/
def Rows (ls : List Lf) (w : World) (A : Option Addr) (rows : List (List Value)) : Prop :=
  ∀ j row, rows[j]? = some row → FitAll ls row ∧ ∃ a, A = some a ∧ ∀ i u, row[i]? = some u → w.cell? (a.add (j * ls.length + i)) = some u

/-- A slice of elements without pointers. -/
theorem open_rows {r : Reach} {b0 : Nat} {t e : TypeId} {v : Value} {d : DataW H} {p : List MemPlace} (f : Nat) (ls : List Lf) (hs : P.underlying t = some (.slice e)) (hl : leaves P f e = some ls) (hc : P.cellsOf e = ls.length)
    (hv : Value.okWide P w r b0 t v) (h : DataW.Trod enc P w base spare held t v d p) :
    ∃ A len cap rows, v = .slice A len cap ∧ len ≤ cap ∧ cap ≤ maxLen ∧ rows.length = len ∧ Rows ls w A rows := by
  obtain ⟨A, len, cap, rfl⟩ := okWide_slice hs hv
  obtain ⟨fuel, hf⟩ := h
  rcases Deep.open_slice hs hf with ⟨h0, _⟩ | ⟨a, l, c, m, n, D, Pl, h0, hb, hlc, hm, hmm, _, hx⟩
  · simp [Value.cells] at h0
    obtain ⟨rfl, rfl, rfl⟩ := h0
    exact ⟨none, 0, 0, [], rfl, Nat.le_refl _, by unfold maxLen; omega, rfl, fun j row hj => by simp at hj⟩
  · simp [Value.cells] at h0
    obtain ⟨rfl, rfl, rfl⟩ := h0
    have hlm : len ≤ m := by rw [hmm]; split <;> omega
    have key : ∀ i, i < len → ∃ row, FitAll ls row ∧ ∀ j u, row[j]? = some u → w.cell? (a.add (i * ls.length + j)) = some u := by
      intro i hi
      obtain ⟨cs, h1, h2⟩ := hx i (by omega)
      rw [hc] at h1
      obtain ⟨_, hlen, hcell⟩ := World.cells?_some h1
      refine ⟨cs, fits f e n cs _ ls hl h2, fun j u hj => ?_⟩
      have hjl : j < ls.length := by
        rw [← hlen]
        exact (List.getElem?_eq_some_iff.1 hj).1
      have := hcell j hjl
      rw [Deep.add_add] at this
      rw [this, hj]
    have build : ∀ k, k ≤ len → ∃ rows : List (List Value), rows.length = k ∧ ∀ j row, rows[j]? = some row → FitAll ls row ∧ ∀ i u, row[i]? = some u → w.cell? (a.add (j * ls.length + i)) = some u := by
      intro k
      induction k with
      | zero => intro _; exact ⟨[], rfl, fun j row hj => by simp at hj⟩
      | succ k ih =>
        intro hk
        obtain ⟨rows, hr, hrows⟩ := ih (by omega)
        obtain ⟨row, hrow, hcells⟩ := key k (by omega)
        refine ⟨rows ++ [row], by simp [hr], fun j rw' hj => ?_⟩
        rcases Nat.lt_or_ge j rows.length with hlt | hge
        · rw [List.getElem?_append_left hlt] at hj
          exact hrows j rw' hj
        · rw [List.getElem?_append_right hge] at hj
          have hj0 : j = k := by
            have := (List.getElem?_eq_some_iff.1 hj).1
            simp at this; omega
          subst hj0
          rw [hr] at hj
          simp at hj
          subst hj
          exact ⟨hrow, hcells⟩
    obtain ⟨rows, hr, hrows⟩ := build len (Nat.le_refl _)
    exact ⟨some a, len, cap, rows, rfl, hlc, hm, hr, fun j row hj => ⟨(hrows j row hj).1, a, rfl, (hrows j row hj).2⟩⟩
end
end Go.Proofs.Ytfcopeecgbgljaa.Opn
