/- A slice of texts, opened; texts that are appended, and cut off. -/
import Derived.Test.YtcekecpbjmfbhaaOpenAll
import Derived.Test.YtcekecpbjmfbhaaEnds
import Derived.Test.YtcekecpbjmfbhaaFrameLaid
namespace Go.Proofs.Ytcekecpbjmfbhaa
open Go.RowKit Go.ChangeShapes Go.WideShapes Opn Go.Proofs.YtcekecpbjmfbhaaW.PrintWords Pk Cr
set_option linter.unusedVariables false

theorem leaves_str : leaves Try.prog 5 9 = some [.str] := by kernel_rfl
theorem leaves_str_len : Try.prog.cellsOf 9 = [Lf.str].length := by kernel_rfl
theorem texts_of (rows : List (List Value)) (h : ∀ row ∈ rows, FitAll [.str] row) : ∃ l : List ByteArray, l.length = rows.length ∧ rows = l.map fun x => [.string x] := by
  induction rows with
  | nil => exact ⟨[], rfl, rfl⟩
  | cons row t ih =>
    obtain ⟨l, h1, h2⟩ := ih (fun r hr => h r (List.mem_cons_of_mem _ hr))
    have h0 := h row List.mem_cons_self
    match row, h0 with
    | [_], ⟨⟨s, rfl, _⟩, _⟩ => exact ⟨s :: l, by simp [h1], by simp [h2]⟩
    | [], h => exact h.elim
    | _ :: _ :: _, ⟨_, h⟩ => exact h.elim
set_option maxRecDepth 100000 in
theorem open_texts {H : Type} {enc : TypeId × Value → H} {w : World} {base : Nat} {spare : Nat → Bool} {held : Bool} {r : Reach} {b0 : Nat} {v : Value} {d : DataW H} {p : List MemPlace} {S : Prop} (_ : S)
    (hv : Value.okWide Try.prog w r b0 32 v) (h : DataW.Trod enc Try.prog w base spare held 32 v d p) : ∃ l, AreTexts w v l := by
  obtain ⟨A, len, cap, rows, rfl, h1, h2, h3, h4⟩ := open_rows 5 _ Try.underlying32 leaves_str leaves_str_len hv h
  obtain ⟨l, hl, rfl⟩ := texts_of rows (fun row hr => by
    obtain ⟨j, hj, e⟩ := List.getElem_of_mem hr
    exact (h4 j row (by rw [List.getElem?_eq_getElem hj, e])).1)
  have hlen : l.length = len := by simpa using h3
  subst hlen
  refine ⟨l, A, cap, rfl, h1, h2, fun j x hx => ?_⟩
  obtain ⟨_, a, ha, hc⟩ := h4 j [.string x] (by simp [hx])
  have := hc 0 (.string x) rfl
  exact ⟨a, ha, by simpa using this⟩
theorem AreTexts.take {W : World} {A : Option Addr} {cap : Nat} {l : List ByteArray} (h : AreTexts W (.slice A l.length cap) l) {n : Nat} (hn : n ≤ l.length) : AreTexts W (.slice A n cap) (l.take n) := by
  obtain ⟨A', cap', e, h1, h2, h3⟩ := h
  simp only [Value.slice.injEq] at e
  obtain ⟨rfl, -, rfl⟩ := e
  have hl : (l.take n).length = n := by rw [List.length_take]; omega
  refine ⟨A, cap, by rw [hl], by omega, h2, fun j x hx => h3 j x ?_⟩
  rw [List.getElem?_take] at hx
  split at hx
  · exact hx
  · cases hx
/-- Texts, appended to others. -/
theorem run_cat {w : World} {base : Nat} {v vb : Value} {l lb : List ByteArray} (hown : OwnT base w v l) (hb : AreTexts w vb lb) (hn : l.length + lb.length ≤ 1000000000000) (hbase : base ≤ w.heap.size) :
    ∃ v' w', (Builtin.append_ #[32, 32] 32 #[v, vb]).run Try.prog w = .ok v' w' ∧ OwnT base w' v' (l ++ lb) ∧ w.grownBy w' v.ownBlock := by
  obtain ⟨i, hi, e⟩ := Option.map_eq_some_iff.1 info_str
  simp only [Prod.mk.injEq] at e
  obtain ⟨e1, e2, e3⟩ := e
  obtain ⟨A, cap, rfl, h1, h2, h3⟩ := hb
  cases A with
  | none =>
    have hl : lb = [] := by
      cases lb with
      | nil => rfl
      | cons x t =>
        obtain ⟨a, ha, -⟩ := h3 0 x rfl
        cases ha
    subst hl
    refine ⟨v, w, ?_, by rw [List.append_nil]; exact hown, ⟨rfl, rfl, rfl, Nat.le_refl _, fun _ _ _ => rfl⟩⟩
    have ht := Try.underlying32
    rcases hown.2 with ⟨rfl, _⟩ | ⟨g, c, cur, rfl, _, _, hnc, _⟩
    · simp [Builtin.append_, run_underlying ht, sizeOf, typeInfo, hi, Builtin.lenOf, Builtin.firstCells]
    · simp [Builtin.append_, run_underlying ht, sizeOf, typeInfo, hi, Builtin.lenOf, Builtin.firstCells, hnc, storeCells]
  | some a =>
    obtain ⟨v', w', r1, r2, r3, -⟩ := run_append_own (P := Try.prog) w base 32 32 9 i (.string ⟨#[]⟩) 1 16 Try.underlying32 hi e1 e2 e3 rfl (by omega) v l.length (valsT l) hown a lb.length cap (valsT lb) (by rw [valsT_len, Nat.mul_one])
      (fun j u hj => by
        unfold valsT at hj
        rw [List.getElem?_map] at hj
        obtain ⟨x, hx, rfl⟩ := Option.map_eq_some_iff.1 hj
        obtain ⟨a', ha, hc⟩ := h3 j x hx
        cases ha
        exact hc) (fun u hu => by
        unfold valsT at hu
        obtain ⟨x, -, rfl⟩ := List.mem_map.1 hu
        rfl) (by unfold maxLen; omega) (by omega) hbase
    refine ⟨v', w', r1, ?_, r3⟩
    unfold OwnT
    have : valsT (l ++ lb) = valsT l ++ valsT lb := by simp [valsT]
    rw [this, List.length_append]
    exact r2
theorem wpList_cat {ops : Array Oper} {rest : List Oper} {o : Oper} {a : Act} {Q : Exit → Act → World → Prop} {w : World} (hgd : o.guard = none) (sl x : Operand)
    (ho : o.op = .call { callee := .builtin .append, args := #[sl, x], argTypes := #[32, 32] }) (hty : o.type = 32) (base : Nat) (v : Value) (l : List ByteArray) (hs : a.eval sl = v) (hown : OwnT base w v l) (vb : Value) (lb : List ByteArray) (hx : a.eval x = vb)
    (hb : AreTexts w vb lb) (hn : l.length + lb.length ≤ 1000000000000) (hbase : base ≤ w.heap.size)
    (h : ∀ v' w', OwnT base w' v' (l ++ lb) → w.grownBy w' v.ownBlock → wpList Try.prog ops Q rest (a.put o.dst v') w') : wpList Try.prog ops Q (o :: rest) a w := by
  refine wpList_plain hgd fun K hK => ?_
  obtain ⟨v', w', hr, h2, h3⟩ := run_cat hown hb hn hbase
  unfold Oper.wp execOp
  simp only [ho, hty, resolve, invoke, builtin, Sem.run_bind, Sem.run_pure, Result.andThen_ok, List.map_toArray, List.map_cons, List.map_nil, hs, hx, hr]
  exact hK _ _ (h v' w' h2 h3)
theorem OwnT.empty (w : World) : OwnT w.heap.size (w.alloc (.cells #[] 9)) (.slice (some ⟨w.heap.size, 0, none⟩) 0 0) [] :=
  ⟨rfl, .inr ⟨w.heap.size, 0, #[], rfl, Nat.le_refl _, heap_alloc_new _ _, Nat.le_refl _, by unfold maxLen; omega, rfl, rfl⟩⟩
theorem laid_bound : ∀ (ls : List (List UInt8)), (∀ b ∈ ls, b.length ≤ 200) → (laidF ls).length ≤ ls.length * 214
  | [], _ => Nat.le_refl _
  | b :: t, h => by
    have h1 := laid_bound t (fun x hx => h x (List.mem_cons_of_mem _ hx))
    have h2 := h b List.mem_cons_self
    have h3 := headF_len (l := b) (by omega)
    rw [laidF_cons, List.length_append, putF_len, List.length_cons]
    omega
/-- A few texts, as records. -/
theorem few_laid {l : List ByteArray} (h : fewB l = true) : l.length ≤ 20 ∧ (∀ x ∈ l, x.size ≤ 200) ∧ (∀ b ∈ lists l, b.length ≤ 65536) ∧ (laidF (lists l)).length ≤ 4280 := by
  have h2 := of_decide_eq_true h
  have h3 : ∀ b ∈ lists l, b.length ≤ 200 := fun b hb => by
    obtain ⟨x, hx, rfl⟩ := List.mem_map.1 hb
    exact h2.2 x hx
  have h4 := laid_bound _ h3
  rw [lists_len] at h4
  exact ⟨h2.1, h2.2, fun b hb => by have := h3 b hb; omega, by omega⟩
end Go.Proofs.Ytcekecpbjmfbhaa
