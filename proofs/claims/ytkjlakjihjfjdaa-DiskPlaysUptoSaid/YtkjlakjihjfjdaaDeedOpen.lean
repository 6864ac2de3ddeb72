/- A slice of deeds of a disk, opened, where what comes in is small. -/
import Derived.Test.YtkjlakjihjfjdaaOpenRows
import Derived.Test.YtkjlakjihjfjdaaEnds
import Derived.Test.YtkjlakjihjfjdaaRows
namespace Go.Proofs.Ytkjlakjihjfjdaa
open Go.RowKit Go.ChangeShapes Go.WideShapes Opn Go.Proofs.YtkjlakjihjfjdaaW.PrintWords
set_option linter.unusedVariables false

theorem bulk_part {H : Type} {d : DataW H} {l : List (DataW H)} (h : d ∈ l) : Rows.uptoBulk d ≤ Rows.uptoBulkAll l := by
  induction l with
  | nil => cases h
  | cons x r ih =>
    simp only [Rows.uptoBulkAll]
    cases List.mem_cons.1 h with
    | inl e => subst e; omega
    | inr e => have := ih e; omega

theorem leaves_deed : leaves Try.prog 5 50 = some [.int .i64, .int .i64, .str] := by kernel_rfl
theorem leaves_deed_len : Try.prog.cellsOf 50 = 3 := by kernel_rfl
theorem fit_deed {cs : List Value} (h : FitAll [.int .i64, .int .i64, .str] cs) : ∃ (k q : Int) (s : ByteArray), cs = [.int .i64 k, .int .i64 q, .string s] ∧ (-9223372036854775808 ≤ k ∧ k ≤ 9223372036854775807) ∧ (-9223372036854775808 ≤ q ∧ q ≤ 9223372036854775807) := by
  match cs, h with
  | [_, _, _], ⟨⟨k, rfl, hk⟩, ⟨q, rfl, hq⟩, ⟨s, rfl, hs⟩, _⟩ => exact ⟨k, q, s, rfl, i64_of hk, i64_of hq⟩
  | [_, _], ⟨_, _, h⟩ => exact h.elim
  | [_], ⟨_, h⟩ => exact h.elim
  | [], h => exact h.elim
  | _ :: _ :: _ :: _ :: _, ⟨_, _, _, h⟩ => exact h.elim
section
variable {H : Type} {enc : TypeId × Value → H} {w : World} {base : Nat} {spare : Nat → Bool} {held : Bool}
set_option maxRecDepth 100000 in
theorem bulk_deed {n : Nat} {k q : Int} {s : ByteArray} {D : DataW H} {Pl : List MemPlace} (h : DataW.trod enc Try.prog w base spare held n 50 [.int .i64 k, .int .i64 q, .string s] = some (D, Pl)) : s.size ≤ Rows.uptoBulk D := by
  cases n with
  | zero => simp [DataW.trod] at h
  | succ n =>
    unfold DataW.trod at h
    rw [Try.underlying50] at h
    simp only at h
    split at h
    · simp only [Option.map_eq_some_iff] at h
      obtain ⟨xs, hx, he⟩ := h
      obtain ⟨y0, r0, h0, hx1, rfl⟩ := mapM_cons_some hx
      obtain ⟨y1, r1, h1, hx2, rfl⟩ := mapM_cons_some hx1
      obtain ⟨y2, r2, h2, hx3, rfl⟩ := mapM_cons_some hx2
      have hy : ∃ p, y2 = (DataW.lit (.string s.data.toList), p) := by
        cases n with
        | zero => simp [DataW.trod] at h2
        | succ n =>
          unfold DataW.trod at h2
          rw [show Try.prog.underlying 9 = some .string from Try.underlying9] at h2
          rw [show Try.prog.cellsOf 9 = 1 from by kernel_rfl] at h2
          simp only [List.drop_succ_cons, List.drop_zero, List.take_succ_cons, List.take_zero] at h2
          split at h2
          · cases h2; exact ⟨_, rfl⟩
          · simp at h2
      obtain ⟨p, rfl⟩ := hy
      simp only [Prod.mk.injEq] at he
      rw [← he.1]
      simp only [List.map_cons, Rows.uptoBulk, Rows.uptoBulkAll]
      have : s.data.toList.length = s.size := rfl
      omega
    · simp at h
end

/-- A slice of deeds, each of whose texts is small. -/
def AreDeeds (B : Nat) (W : World) (v : Value) (A : Option Addr) (len cap : Nat) (l : List (Int × Int × ByteArray)) : Prop :=
  v = .slice A len cap ∧ len ≤ cap ∧ cap ≤ maxLen ∧ l.length = len ∧ (∀ x ∈ l, x.2.2.size ≤ B) ∧
  ∀ j x, l[j]? = some x → ∃ a, A = some a ∧ W.cell? (a.add (j * 3)) = some (.int .i64 x.1) ∧ W.cell? ⟨(a.add (j * 3)).block, (a.add (j * 3)).off + 1, none⟩ = some (.int .i64 x.2.1) ∧ W.cell? ⟨(a.add (j * 3)).block, (a.add (j * 3)).off + 2, none⟩ = some (.string x.2.2)
set_option maxRecDepth 100000 in
theorem open_deeds {H : Type} {enc : TypeId × Value → H} {w : World} {base : Nat} {spare : Nat → Bool} {held : Bool} {r : Reach} {b0 : Nat} {v : Value} {d : DataW H} {p : List MemPlace} {B : Nat} (hk : Rows.uptoBulk d ≤ B)
    (hv : Value.okWide Try.prog w r b0 48 v) (h : DataW.Trod enc Try.prog w base spare held 48 v d p) : ∃ A len cap l, AreDeeds B w v A len cap l := by
  obtain ⟨A, len, cap, rfl⟩ := okWide_slice Try.underlying48 hv
  obtain ⟨fuel, hf⟩ := h
  rcases Deep.open_slice Try.underlying48 hf with ⟨h0, _⟩ | ⟨a, l, c, m, n, D, Pl, h0, hb, hlc, hm, hmm, hxd, hx⟩
  · simp [Value.cells] at h0
    obtain ⟨rfl, rfl, rfl⟩ := h0
    exact ⟨none, 0, 0, [], rfl, Nat.le_refl _, by unfold maxLen; omega, rfl, by simp, fun j x hj => by simp at hj⟩
  · simp [Value.cells] at h0
    obtain ⟨rfl, rfl, rfl⟩ := h0
    simp only [Prod.mk.injEq] at hxd
    obtain ⟨hd, _⟩ := hxd
    subst hd
    have hlm : len ≤ m := by rw [hmm]; split <;> omega
    have key : ∀ i, i < len → ∃ x : Int × Int × ByteArray, x.2.2.size ≤ B ∧ w.cell? (a.add (i * 3)) = some (.int .i64 x.1) ∧ w.cell? ⟨(a.add (i * 3)).block, (a.add (i * 3)).off + 1, none⟩ = some (.int .i64 x.2.1) ∧ w.cell? ⟨(a.add (i * 3)).block, (a.add (i * 3)).off + 2, none⟩ = some (.string x.2.2) := by
      intro i hi
      obtain ⟨cs, h1, h2⟩ := hx i (by omega)
      rw [leaves_deed_len] at h1
      obtain ⟨_, hlen, hcell⟩ := World.cells?_some h1
      have hfit := fits 5 50 n cs _ _ leaves_deed h2
      obtain ⟨k, q, s, rfl, _, _⟩ := fit_deed hfit
      have hbulk := bulk_deed h2
      have hmem : D i ∈ (List.range len).map D := List.mem_map.2 ⟨i, by simpa using hi, rfl⟩
      have h3 := bulk_part hmem
      have hc : ∀ j, j < 3 → w.cell? (a.add (i * 3 + j)) = ([Value.int .i64 k, .int .i64 q, .string s] : List Value)[j]? := by
        intro j hj
        have := hcell j hj
        rw [Deep.add_add] at this
        exact this
      refine ⟨(k, q, s), ?_, hc 0 (by omega), ?_, ?_⟩
      · simp only [Rows.uptoBulk] at hk
        show s.size ≤ _
        omega
      · rw [← add_field _ _ 1 (by omega)]; exact hc 1 (by omega)
      · rw [← add_field _ _ 2 (by omega)]; exact hc 2 (by omega)
    have build : ∀ k, k ≤ len → ∃ l : List (Int × Int × ByteArray), l.length = k ∧ (∀ x ∈ l, x.2.2.size ≤ B) ∧ ∀ j x, l[j]? = some x → w.cell? (a.add (j * 3)) = some (.int .i64 x.1) ∧ w.cell? ⟨(a.add (j * 3)).block, (a.add (j * 3)).off + 1, none⟩ = some (.int .i64 x.2.1) ∧ w.cell? ⟨(a.add (j * 3)).block, (a.add (j * 3)).off + 2, none⟩ = some (.string x.2.2) := by
      intro k
      induction k with
      | zero => intro _; exact ⟨[], rfl, by simp, fun j x hj => by simp at hj⟩
      | succ k ih =>
        intro hk2
        obtain ⟨l, hl, hs, hc⟩ := ih (by omega)
        obtain ⟨x, hx1, hx2⟩ := key k (by omega)
        refine ⟨l ++ [x], by simp [hl], ?_, fun j y hj => ?_⟩
        · intro y hy
          rcases List.mem_append.1 hy with hy | hy
          · exact hs y hy
          · simp at hy; subst hy; exact hx1
        · rcases Nat.lt_or_ge j l.length with hlt | hge
          · rw [List.getElem?_append_left hlt] at hj
            exact hc j y hj
          · rw [List.getElem?_append_right hge] at hj
            have hj0 : j = k := by
              have := (List.getElem?_eq_some_iff.1 hj).1
              simp at this; omega
            subst hj0
            rw [hl] at hj
            simp at hj
            subst hj
            exact hx2
    obtain ⟨l, hl, hs, hc⟩ := build len (Nat.le_refl _)
    exact ⟨some a, len, cap, l, rfl, hlc, hm, hl, hs, fun j x hj => ⟨a, rfl, hc j x hj⟩⟩
end Go.Proofs.Ytkjlakjihjfjdaa
