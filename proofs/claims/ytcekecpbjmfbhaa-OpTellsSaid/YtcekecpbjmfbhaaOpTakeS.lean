/- op.take of a stamp: its walk. -/
import Derived.Test.YtcekecpbjmfbhaaOpTake0
namespace Go.Proofs.Ytcekecpbjmfbhaa
open Go.RowKit Go.Proofs.YtcekecpbjmfbhaaW.PrintWords Go.Proofs.YtcekecpbjmfbhaaW.PrintLast Go.Proofs.YtcekecpbjmfbhaaW.PrintMore Pk
set_option linter.unusedVariables false
set_option linter.unusedSimpArgs false

theorem takeS_world {w1 : World} {p b : Nat} {c1 c2 : Array Value} {t1 t2 t3 : TypeId} (hp : w1.heap[p]? = some (.cells c1 t1 (0, 0))) (hb : w1.heap[b]? = some (.cells c2 t2 (0, 0))) (hne : p ≠ b) (y B x0 x1 : Value) (X : Array Value) :
    let F := ((((w1.setCell ⟨p, 0, none⟩ y).setCell ⟨p, 1, none⟩ B).setCell ⟨b, 0, none⟩ x0).setCell ⟨b, 1, none⟩ x1).alloc (.cells X t3)
    F.heap[p]? = some (.cells ((c1.setIfInBounds 0 y).setIfInBounds 1 B) t1 (0, 0)) ∧ F.heap[b]? = some (.cells ((c2.setIfInBounds 0 x0).setIfInBounds 1 x1) t2 (0, 0)) ∧ F.os = w1.os ∧ F.tape = w1.tape ∧ F.output = w1.output ∧ w1.heap.size ≤ F.heap.size ∧ ∀ k, k < w1.heap.size → k ≠ p → k ≠ b → F.heap[k]? = w1.heap[k]? := by
  obtain ⟨a1, r1⟩ := setc_but hp 0 y
  obtain ⟨a2, r2⟩ := setc_but a1 1 B
  have hlb := (Array.getElem?_eq_some_iff.1 hb).1
  have hlp := (Array.getElem?_eq_some_iff.1 hp).1
  have r12 := r1.trans r2
  have b2 := (r12.block b hlb (Ne.symm hne)).trans hb
  obtain ⟨a3, r3⟩ := setc_but b2 0 x0
  obtain ⟨a4, r4⟩ := setc_but a3 1 x1
  have r34 := r3.trans r4
  have p4 := (r34.block p (Nat.lt_of_lt_of_le hlp r12.size) hne).trans a2
  refine ⟨(heap_alloc_old _ _ (Array.getElem?_eq_some_iff.1 p4).1).trans p4, (heap_alloc_old _ _ (Array.getElem?_eq_some_iff.1 a4).1).trans a4, r34.os.trans r12.os, r34.tape.trans r12.tape, r34.output.trans r12.output, ?_, fun k hk h1 h2 => ?_⟩
  · have := r12.size; have := r34.size; first | (simp; done) | (simp; omega)
  · have hk2 := Nat.lt_of_lt_of_le hk r12.size
    have hk3 := Nat.lt_of_lt_of_le hk2 r34.size
    exact (heap_alloc_old _ _ hk3).trans ((r34.block k hk2 h2).trans (r12.block k hk h1))
set_option maxHeartbeats 2000000 in
set_option maxRecDepth 100000 in
/-- op.take of a stamp: what was read; the reader's block is laid anew. -/
theorem optake_stamp (p : Nat) (rest : ByteArray) (bad : Bool) (x0 x1 : Int) (y : ByteArray) (c : Int) (w : World) (hp : Reads p rest bad w)
    (H : Hd (∀ w, Calls Try.prog 54 #[.string rest] w fun e w' => e = .returned (.tuple #[.agg #[.int .i64 x0, .int .i64 x1], .string y, .int .i64 c]) ∧ Below w.heap.size w w')) :
    Calls Try.prog 53 #[.pointer (some ⟨p, 0, none⟩), .func (.func 54) #[] #[]] w fun e w' => e = .returned (.agg #[.int .i64 x0, .int .i64 x1]) ∧ Reads p y (bad || c != 0) w' ∧ RBut p w w' := by
  have hlt : p < w.heap.size := (Array.getElem?_eq_some_iff.1 hp).1
  have c0 := cell_of_row w _ 0 _ _ _ hp
  have c1 := cell_of_row w _ 1 _ _ _ hp
  go_enter Try.func53, Try.ntmps53
  go_wp2_with fail
  have K0 := Hd.mk (Holds.start1 w (.cells #[.int .i64 0, .int .i64 0] 48 (0, 0)))
  refine world_gen_calls (fun W_ => Holds w [(w.heap.size, .cells #[.int .i64 0, .int .i64 0] 48 (0, 0))] W_) K0.out (fun W hK => ?_)
  refine (H.out _).mono ?_; rintro e w1 ⟨rfl, hb1⟩
  have K1 := Hd.mk (hK.call hb1)
  clear hK hb1 K0 H c0 c1
  have hp1 : Reads p rest bad w1 := (K1.out.2.block p hlt).trans hp
  have g0 := cell_of_row w1 _ 0 _ _ _ hp1
  have g1 := cell_of_row w1 _ 1 _ _ _ hp1
  have f0 := frozen_of_row w1 p 0 _ _ hp1
  have f1 := frozen_of_row w1 p 1 _ _ hp1
  have z0 := cell_of_row w1 _ 0 _ _ _ (K1.out.get 0 rfl)
  have z1 := cell_of_row w1 _ 1 _ _ _ (K1.out.get 0 rfl)
  have q0 := frozen_of_row w1 w.heap.size 0 _ _ (K1.out.get 0 rfl)
  have q1 := frozen_of_row w1 w.heap.size 1 _ _ (K1.out.get 0 rfl)
  have hlt1 : p < w1.heap.size := (Array.getElem?_eq_some_iff.1 hp1).1
  have hlt2 := K1.out.lt 0 rfl
  have hne : p ≠ w.heap.size := Nat.ne_of_lt hlt
  have hne2 : w.heap.size ≠ p := Ne.symm hne
  cases bad with
  | true =>
    go_wp2_with fail
    obtain ⟨e1, e2, e3, e4, e5, e6, e7⟩ := takeS_world (t3 := 48) hp1 (K1.out.get 0 rfl) hne (.string y) (.bool true) (.int .i64 x0) (.int .i64 x1) #[.int .i64 x0, .int .i64 x1]
    have z5 := cell_of_row _ _ 0 _ _ _ e2
    have z6 := cell_of_row _ _ 1 _ _ _ e2
    have HR : RBut p w _ := ⟨e3.trans K1.out.2.os, e4.trans K1.out.2.tape, e5.trans K1.out.2.output, Nat.le_trans K1.out.2.size e6, fun k hk h1 => (e7 k (Nat.lt_of_lt_of_le hk K1.out.2.size) h1 (Nat.ne_of_lt hk)).trans (K1.out.2.block k hk)⟩
    have E1 := Hd.mk e1
    have HR := Hd.mk HR
    clear e1 e2 e3 e4 e5 e6 e7
    generalize World.alloc _ _ = F at *
    exact bodyPost_ret (v := .agg #[.int .i64 x0, .int .i64 x1]) (by simp [results, Try.results53, go_sem, z5, z6]) rfl ⟨rfl, E1.out, HR.out⟩
  | false =>
    go_wp2_with fail
    obtain ⟨e1, e2, e3, e4, e5, e6, e7⟩ := takeS_world (t3 := 48) hp1 (K1.out.get 0 rfl) hne (.string y) (.bool (c != 0)) (.int .i64 x0) (.int .i64 x1) #[.int .i64 x0, .int .i64 x1]
    have z5 := cell_of_row _ _ 0 _ _ _ e2
    have z6 := cell_of_row _ _ 1 _ _ _ e2
    have HR : RBut p w _ := ⟨e3.trans K1.out.2.os, e4.trans K1.out.2.tape, e5.trans K1.out.2.output, Nat.le_trans K1.out.2.size e6, fun k hk h1 => (e7 k (Nat.lt_of_lt_of_le hk K1.out.2.size) h1 (Nat.ne_of_lt hk)).trans (K1.out.2.block k hk)⟩
    have E1 := Hd.mk e1
    have HR := Hd.mk HR
    clear e1 e2 e3 e4 e5 e6 e7
    generalize World.alloc _ _ = F at *
    exact bodyPost_ret (v := .agg #[.int .i64 x0, .int .i64 x1]) (by simp [results, Try.results53, go_sem, z5, z6]) rfl ⟨rfl, E1.out, HR.out⟩
end Go.Proofs.Ytcekecpbjmfbhaa
