/- op.text, op.take: their walks. -/
import Derived.Test.YtcekecpbjmfbhaaOpPut
namespace Go.Proofs.Ytcekecpbjmfbhaa
open Go.RowKit Go.Proofs.YtcekecpbjmfbhaaW.PrintWords Go.Proofs.YtcekecpbjmfbhaaW.PrintLast Go.Proofs.YtcekecpbjmfbhaaW.PrintMore Pk
set_option linter.unusedVariables false
set_option linter.unusedSimpArgs false

theorem op_text (s : ByteArray) (hs : s.size ≤ 140737488355328) (w : World) : Calls Try.prog 56 #[.string s] w fun e w' => e = .returned (txV (tx 64 (tk s.data.toList 0 0))) ∧ Below w.heap.size w w' := by
  have H := pack_TakeText s hs 64 (by decide) (by decide)
  cases hT : tx 64 (tk s.data.toList 0 0) with
  | none =>
    rw [hT] at H
    simp only [txV] at H ⊢
    have H := Hd.mk H
    clear hT hs
    go_enter Try.func56, Try.ntmps56
    go_wp2_with fail
    refine (H.out _).mono ?_; rintro e w1 ⟨rfl, hb1⟩
    go_wp2_with fail
    go_ret3
    exact ⟨rfl, hb1⟩
  | some p =>
    obtain ⟨a, b⟩ := p
    rw [hT] at H
    simp only [txV] at H ⊢
    have H := Hd.mk H
    clear hT hs
    generalize (⟨a.toArray⟩ : ByteArray) = x at *
    generalize (⟨b.toArray⟩ : ByteArray) = y at *
    go_enter Try.func56, Try.ntmps56
    go_wp2_with fail
    refine (H.out _).mono ?_; rintro e w1 ⟨rfl, hb1⟩
    go_wp2_with fail
    go_ret3
    exact ⟨rfl, hb1⟩
/-- Only one block of those that were there is turned. -/
structure RBut (p : Nat) (w w' : World) : Prop where
  os : w'.os = w.os
  tape : w'.tape = w.tape
  output : w'.output = w.output
  size : w.heap.size ≤ w'.heap.size
  block : ∀ k, k < w.heap.size → k ≠ p → w'.heap[k]? = w.heap[k]?
theorem RBut.trans {p : Nat} {a b c : World} (h : RBut p a b) (k : RBut p b c) : RBut p a c := ⟨k.os.trans h.os, k.tape.trans h.tape, k.output.trans h.output, Nat.le_trans h.size k.size, fun j hj hn => (k.block j (Nat.lt_of_lt_of_le hj h.size) hn).trans (h.block j hj hn)⟩
theorem RBut.ofBelow {p : Nat} {w w' : World} (h : Below w.heap.size w w') : RBut p w w' := ⟨h.os, h.tape, h.output, h.size, fun k hk _ => h.block k hk⟩
theorem RBut.below {p n : Nat} {a w w' : World} (h : RBut p w w') (hb : Below n a w) (hn : n ≤ p) (hs : n ≤ w.heap.size) : Below n a w' :=
  hb.trans ⟨h.os, h.tape, h.output, h.size, fun k hk => h.block k (by omega) (by omega)⟩
/-- A reader: its block. -/
def Reads (p : Nat) (rest : ByteArray) (bad : Bool) (w : World) : Prop := w.heap[p]? = some (.cells #[.string rest, .bool bad] 81 (0, 0))
theorem setc_but {w : World} {p : Nat} {cs : Array Value} {t : TypeId} (h : w.heap[p]? = some (.cells cs t (0, 0))) (i : Nat) (v : Value) : (w.setCell ⟨p, i, none⟩ v).heap[p]? = some (.cells (cs.setIfInBounds i v) t (0, 0)) ∧ RBut p w (w.setCell ⟨p, i, none⟩ v) := by
  have hB : Below p w (w.setCell ⟨p, i, none⟩ v) := (Below.refl _ _).setCell (p := ⟨p, i, none⟩) (Nat.le_refl _) v
  refine ⟨heap_setCell_same _ _ _ _ _ _ h, hB.os, hB.tape, hB.output, hB.size, fun k hk hn => heap_setCell_other _ _ _ _ hn⟩
set_option maxHeartbeats 2000000 in
set_option maxRecDepth 100000 in
/-- op.take of a text: what was read; the reader's block is laid anew. -/
theorem optake_text (p : Nat) (rest : ByteArray) (bad : Bool) (x y : ByteArray) (c : Int) (w : World) (hp : Reads p rest bad w)
    (H : Hd (∀ w, Calls Try.prog 56 #[.string rest] w fun e w' => e = .returned (.tuple #[.string x, .string y, .int .i64 c]) ∧ Below w.heap.size w w')) :
    Calls Try.prog 55 #[.pointer (some ⟨p, 0, none⟩), .func (.func 56) #[] #[]] w fun e w' => e = .returned (.string x) ∧ Reads p y (bad || c != 0) w' ∧ RBut p w w' := by
  have c0 := cell_of_row w _ 0 _ _ _ hp
  have c1 := cell_of_row w _ 1 _ _ _ hp
  go_enter Try.func55, Try.ntmps55
  go_wp2_with fail
  refine (H.out _).mono ?_; rintro e w1 ⟨rfl, hb1⟩
  have hp1 : Reads p rest bad w1 := (hb1.block p (Array.getElem?_eq_some_iff.1 hp).1).trans hp
  have HB := Hd.mk (RBut.ofBelow (p := p) hb1)
  have HP := Hd.mk hp1
  obtain ⟨hs1, hs2⟩ := setc_but hp1 0 (.string y)
  obtain ⟨hs3, hs4⟩ := setc_but hs1 1 (.bool (bad || c != 0))
  have HR := Hd.mk hs3
  have HR2 := Hd.mk (HB.out.trans (hs2.trans hs4))
  have g0 := cell_of_row w1 _ 0 _ _ _ hp1
  have g1 := cell_of_row w1 _ 1 _ _ _ hp1
  have f0 := frozen_of_row w1 p 0 _ _ hp1
  have f1 := frozen_of_row w1 p 1 _ _ hp1
  clear c0 c1 hp hb1 hp1 hs1 hs2 hs3 hs4 H
  cases bad with
  | true =>
    go_wp2_with fail
    go_ret
    exact ⟨rfl, HR.out, HR2.out⟩
  | false =>
    go_wp2_with fail
    go_ret
    exact ⟨rfl, HR.out, HR2.out⟩
set_option maxHeartbeats 2000000 in
set_option maxRecDepth 100000 in
/-- op.take of a number: what was read; the reader's block is laid anew. -/
theorem optake_int (p : Nat) (rest : ByteArray) (bad : Bool) (x : Int) (y : ByteArray) (c : Int) (w : World) (hp : Reads p rest bad w)
    (H : Hd (∀ w, Calls Try.prog 52 #[.string rest] w fun e w' => e = .returned (.tuple #[.int .i64 x, .string y, .int .i64 c]) ∧ Below w.heap.size w w')) :
    Calls Try.prog 51 #[.pointer (some ⟨p, 0, none⟩), .func (.func 52) #[] #[]] w fun e w' => e = .returned (.int .i64 x) ∧ Reads p y (bad || c != 0) w' ∧ RBut p w w' := by
  have c0 := cell_of_row w _ 0 _ _ _ hp
  have c1 := cell_of_row w _ 1 _ _ _ hp
  go_enter Try.func51, Try.ntmps51
  go_wp2_with fail
  refine (H.out _).mono ?_; rintro e w1 ⟨rfl, hb1⟩
  have hp1 : Reads p rest bad w1 := (hb1.block p (Array.getElem?_eq_some_iff.1 hp).1).trans hp
  have HB := Hd.mk (RBut.ofBelow (p := p) hb1)
  have HP := Hd.mk hp1
  obtain ⟨hs1, hs2⟩ := setc_but hp1 0 (.string y)
  obtain ⟨hs3, hs4⟩ := setc_but hs1 1 (.bool (bad || c != 0))
  have HR := Hd.mk hs3
  have HR2 := Hd.mk (HB.out.trans (hs2.trans hs4))
  have g0 := cell_of_row w1 _ 0 _ _ _ hp1
  have g1 := cell_of_row w1 _ 1 _ _ _ hp1
  have f0 := frozen_of_row w1 p 0 _ _ hp1
  have f1 := frozen_of_row w1 p 1 _ _ hp1
  clear c0 c1 hp hb1 hp1 hs1 hs2 hs3 hs4 H
  cases bad with
  | true =>
    go_wp2_with fail
    go_ret
    exact ⟨rfl, HR.out, HR2.out⟩
  | false =>
    go_wp2_with fail
    go_ret
    exact ⟨rfl, HR.out, HR2.out⟩
end Go.Proofs.Ytcekecpbjmfbhaa
