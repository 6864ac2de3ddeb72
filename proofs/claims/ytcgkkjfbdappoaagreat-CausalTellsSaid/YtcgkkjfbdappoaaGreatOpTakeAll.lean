/- Texts that belong together, in one. -/
import Derived.Test.YtcgkkjfbdappoaaGreatOpPutAll
/- op.text, op.take: their walks. -/
namespace Go.Proofs.YtcgkkjfbdappoaaGreat
open Go.RowKit Go.Proofs.YtcgkkjfbdappoaaGreatW.PrintWords Go.Proofs.YtcgkkjfbdappoaaGreatW.PrintLast Go.Proofs.YtcgkkjfbdappoaaGreatW.PrintMore Pk
set_option linter.unusedVariables false
set_option linter.unusedSimpArgs false

theorem op_text (s : ByteArray) (hs : s.size ≤ 140737488355328) (w : World) : Calls Tryz.prog 73 #[.string s] w fun e w' => e = .returned (txV (tx 64 (tk s.data.toList 0 0))) ∧ Below w.heap.size w w' := by
  have H := pack_TakeText s hs 64 (by decide) (by decide)
  cases hT : tx 64 (tk s.data.toList 0 0) with
  | none =>
    rw [hT] at H
    simp only [txV] at H ⊢
    have H := Hd.mk H
    clear hT hs
    go_enter Tryz.func73, Tryz.ntmps73
    go_wp2_with fail
    refine (H.out _).mono ?_; rintro e w1 ⟨rfl, hb1⟩
    go_wp2_with fail
    go_ret3
    exact ⟨rfl, hb1⟩
  | some p =>
    obtain ⟨a, b⟩ := p
    rw [hT] at H
    simp only [txV] at H ⊢
    have H := Hd.mk H
    clear hT hs
    generalize (⟨a.toArray⟩ : ByteArray) = x at *
    generalize (⟨b.toArray⟩ : ByteArray) = y at *
    go_enter Tryz.func73, Tryz.ntmps73
    go_wp2_with fail
    refine (H.out _).mono ?_; rintro e w1 ⟨rfl, hb1⟩
    go_wp2_with fail
    go_ret3
    exact ⟨rfl, hb1⟩
/-- Only one block of those that were there is turned. -/
structure RBut (p : Nat) (w w' : World) : Prop where
  os : w'.os = w.os
  tape : w'.tape = w.tape
  output : w'.output = w.output
  size : w.heap.size ≤ w'.heap.size
  block : ∀ k, k < w.heap.size → k ≠ p → w'.heap[k]? = w.heap[k]?
theorem RBut.trans {p : Nat} {a b c : World} (h : RBut p a b) (k : RBut p b c) : RBut p a c := ⟨k.os.trans h.os, k.tape.trans h.tape, k.output.trans h.output, Nat.le_trans h.size k.size, fun j hj hn => (k.block j (Nat.lt_of_lt_of_le hj h.size) hn).trans (h.block j hj hn)⟩
theorem RBut.ofBelow {p : Nat} {w w' : World} (h : Below w.heap.size w w') : RBut p w w' := ⟨h.os, h.tape, h.output, h.size, fun k hk _ => h.block k hk⟩
theorem RBut.below {p n : Nat} {a w w' : World} (h : RBut p w w') (hb : Below n a w) (hn : n ≤ p) (hs : n ≤ w.heap.size) : Below n a w' :=
  hb.trans ⟨h.os, h.tape, h.output, h.size, fun k hk => h.block k (by omega) (by omega)⟩
/-- A reader: its block. -/
def Reads (p : Nat) (rest : ByteArray) (bad : Bool) (w : World) : Prop := w.heap[p]? = some (.cells #[.string rest, .bool bad] 125 (0, 0))
theorem setc_but {w : World} {p : Nat} {cs : Array Value} {t : TypeId} (h : w.heap[p]? = some (.cells cs t (0, 0))) (i : Nat) (v : Value) : (w.setCell ⟨p, i, none⟩ v).heap[p]? = some (.cells (cs.setIfInBounds i v) t (0, 0)) ∧ RBut p w (w.setCell ⟨p, i, none⟩ v) := by
  have hB : Below p w (w.setCell ⟨p, i, none⟩ v) := (Below.refl _ _).setCell (p := ⟨p, i, none⟩) (Nat.le_refl _) v
  refine ⟨heap_setCell_same _ _ _ _ _ _ h, hB.os, hB.tape, hB.output, hB.size, fun k hk hn => heap_setCell_other _ _ _ _ hn⟩
set_option maxHeartbeats 2000000 in
set_option maxRecDepth 100000 in
/-- op.take of a text: what was read; the reader's block is laid anew. -/
theorem optake_text (p : Nat) (rest : ByteArray) (bad : Bool) (x y : ByteArray) (c : Int) (w : World) (hp : Reads p rest bad w)
    (H : Hd (∀ w, Calls Tryz.prog 73 #[.string rest] w fun e w' => e = .returned (.tuple #[.string x, .string y, .int .i64 c]) ∧ Below w.heap.size w w')) :
    Calls Tryz.prog 72 #[.pointer (some ⟨p, 0, none⟩), .func (.func 73) #[] #[]] w fun e w' => e = .returned (.string x) ∧ Reads p y (bad || c != 0) w' ∧ RBut p w w' := by
  have c0 := cell_of_row w _ 0 _ _ _ hp
  have c1 := cell_of_row w _ 1 _ _ _ hp
  go_enter Tryz.func72, Tryz.ntmps72
  go_wp2_with fail
  refine (H.out _).mono ?_; rintro e w1 ⟨rfl, hb1⟩
  have hp1 : Reads p rest bad w1 := (hb1.block p (Array.getElem?_eq_some_iff.1 hp).1).trans hp
  have HB := Hd.mk (RBut.ofBelow (p := p) hb1)
  have HP := Hd.mk hp1
  obtain ⟨hs1, hs2⟩ := setc_but hp1 0 (.string y)
  obtain ⟨hs3, hs4⟩ := setc_but hs1 1 (.bool (bad || c != 0))
  have HR := Hd.mk hs3
  have HR2 := Hd.mk (HB.out.trans (hs2.trans hs4))
  have g0 := cell_of_row w1 _ 0 _ _ _ hp1
  have g1 := cell_of_row w1 _ 1 _ _ _ hp1
  have f0 := frozen_of_row w1 p 0 _ _ hp1
  have f1 := frozen_of_row w1 p 1 _ _ hp1
  clear c0 c1 hp hb1 hp1 hs1 hs2 hs3 hs4 H
  cases bad with
  | true =>
    go_wp2_with fail
    go_ret
    exact ⟨rfl, HR.out, HR2.out⟩
  | false =>
    go_wp2_with fail
    go_ret
    exact ⟨rfl, HR.out, HR2.out⟩
set_option maxHeartbeats 2000000 in
set_option maxRecDepth 100000 in
/-- op.take of a number: what was read; the reader's block is laid anew. -/
theorem optake_int (p : Nat) (rest : ByteArray) (bad : Bool) (x : Int) (y : ByteArray) (c : Int) (w : World) (hp : Reads p rest bad w)
    (H : Hd (∀ w, Calls Tryz.prog 41 #[.string rest] w fun e w' => e = .returned (.tuple #[.int .i64 x, .string y, .int .i64 c]) ∧ Below w.heap.size w w')) :
    Calls Tryz.prog 69 #[.pointer (some ⟨p, 0, none⟩), .func (.func 41) #[] #[]] w fun e w' => e = .returned (.int .i64 x) ∧ Reads p y (bad || c != 0) w' ∧ RBut p w w' := by
  have c0 := cell_of_row w _ 0 _ _ _ hp
  have c1 := cell_of_row w _ 1 _ _ _ hp
  go_enter Tryz.func69, Tryz.ntmps69
  go_wp2_with fail
  refine (H.out _).mono ?_; rintro e w1 ⟨rfl, hb1⟩
  have hp1 : Reads p rest bad w1 := (hb1.block p (Array.getElem?_eq_some_iff.1 hp).1).trans hp
  have HB := Hd.mk (RBut.ofBelow (p := p) hb1)
  have HP := Hd.mk hp1
  obtain ⟨hs1, hs2⟩ := setc_but hp1 0 (.string y)
  obtain ⟨hs3, hs4⟩ := setc_but hs1 1 (.bool (bad || c != 0))
  have HR := Hd.mk hs3
  have HR2 := Hd.mk (HB.out.trans (hs2.trans hs4))
  have g0 := cell_of_row w1 _ 0 _ _ _ hp1
  have g1 := cell_of_row w1 _ 1 _ _ _ hp1
  have f0 := frozen_of_row w1 p 0 _ _ hp1
  have f1 := frozen_of_row w1 p 1 _ _ hp1
  clear c0 c1 hp hb1 hp1 hs1 hs2 hs3 hs4 H
  cases bad with
  | true =>
    go_wp2_with fail
    go_ret
    exact ⟨rfl, HR.out, HR2.out⟩
  | false =>
    go_wp2_with fail
    go_ret
    exact ⟨rfl, HR.out, HR2.out⟩
end Go.Proofs.YtcgkkjfbdappoaaGreat

/- op.take of a stamp: its walk. -/
namespace Go.Proofs.YtcgkkjfbdappoaaGreat
open Go.RowKit Go.Proofs.YtcgkkjfbdappoaaGreatW.PrintWords Go.Proofs.YtcgkkjfbdappoaaGreatW.PrintLast Go.Proofs.YtcgkkjfbdappoaaGreatW.PrintMore Pk
set_option linter.unusedVariables false
set_option linter.unusedSimpArgs false

theorem takeS_world {w1 : World} {p b : Nat} {c1 c2 : Array Value} {t1 t2 t3 : TypeId} (hp : w1.heap[p]? = some (.cells c1 t1 (0, 0))) (hb : w1.heap[b]? = some (.cells c2 t2 (0, 0))) (hne : p ≠ b) (y B x0 x1 : Value) (X : Array Value) :
    let F := ((((w1.setCell ⟨p, 0, none⟩ y).setCell ⟨p, 1, none⟩ B).setCell ⟨b, 0, none⟩ x0).setCell ⟨b, 1, none⟩ x1).alloc (.cells X t3)
    F.heap[p]? = some (.cells ((c1.setIfInBounds 0 y).setIfInBounds 1 B) t1 (0, 0)) ∧ F.heap[b]? = some (.cells ((c2.setIfInBounds 0 x0).setIfInBounds 1 x1) t2 (0, 0)) ∧ F.os = w1.os ∧ F.tape = w1.tape ∧ F.output = w1.output ∧ w1.heap.size ≤ F.heap.size ∧ ∀ k, k < w1.heap.size → k ≠ p → k ≠ b → F.heap[k]? = w1.heap[k]? := by
  obtain ⟨a1, r1⟩ := setc_but hp 0 y
  obtain ⟨a2, r2⟩ := setc_but a1 1 B
  have hlb := (Array.getElem?_eq_some_iff.1 hb).1
  have hlp := (Array.getElem?_eq_some_iff.1 hp).1
  have r12 := r1.trans r2
  have b2 := (r12.block b hlb (Ne.symm hne)).trans hb
  obtain ⟨a3, r3⟩ := setc_but b2 0 x0
  obtain ⟨a4, r4⟩ := setc_but a3 1 x1
  have r34 := r3.trans r4
  have p4 := (r34.block p (Nat.lt_of_lt_of_le hlp r12.size) hne).trans a2
  refine ⟨(heap_alloc_old _ _ (Array.getElem?_eq_some_iff.1 p4).1).trans p4, (heap_alloc_old _ _ (Array.getElem?_eq_some_iff.1 a4).1).trans a4, r34.os.trans r12.os, r34.tape.trans r12.tape, r34.output.trans r12.output, ?_, fun k hk h1 h2 => ?_⟩
  · have := r12.size; have := r34.size; first | (simp; done) | (simp; omega)
  · have hk2 := Nat.lt_of_lt_of_le hk r12.size
    have hk3 := Nat.lt_of_lt_of_le hk2 r34.size
    exact (heap_alloc_old _ _ hk3).trans ((r34.block k hk2 h2).trans (r12.block k hk h1))
set_option maxHeartbeats 2000000 in
set_option maxRecDepth 100000 in
/-- op.take of a stamp: what was read; the reader's block is laid anew. -/
theorem optake_stamp (p : Nat) (rest : ByteArray) (bad : Bool) (x0 x1 : Int) (y : ByteArray) (c : Int) (w : World) (hp : Reads p rest bad w)
    (H : Hd (∀ w, Calls Tryz.prog 71 #[.string rest] w fun e w' => e = .returned (.tuple #[.agg #[.int .i64 x0, .int .i64 x1], .string y, .int .i64 c]) ∧ Below w.heap.size w w')) :
    Calls Tryz.prog 70 #[.pointer (some ⟨p, 0, none⟩), .func (.func 71) #[] #[]] w fun e w' => e = .returned (.agg #[.int .i64 x0, .int .i64 x1]) ∧ Reads p y (bad || c != 0) w' ∧ RBut p w w' := by
  have hlt : p < w.heap.size := (Array.getElem?_eq_some_iff.1 hp).1
  have c0 := cell_of_row w _ 0 _ _ _ hp
  have c1 := cell_of_row w _ 1 _ _ _ hp
  go_enter Tryz.func70, Tryz.ntmps70
  go_wp2_with fail
  have K0 := Hd.mk (Holds.start1 w (.cells #[.int .i64 0, .int .i64 0] 34 (0, 0)))
  refine world_gen_calls (fun W_ => Holds w [(w.heap.size, .cells #[.int .i64 0, .int .i64 0] 34 (0, 0))] W_) K0.out (fun W hK => ?_)
  refine (H.out _).mono ?_; rintro e w1 ⟨rfl, hb1⟩
  have K1 := Hd.mk (hK.call hb1)
  clear hK hb1 K0 H c0 c1
  have hp1 : Reads p rest bad w1 := (K1.out.2.block p hlt).trans hp
  have g0 := cell_of_row w1 _ 0 _ _ _ hp1
  have g1 := cell_of_row w1 _ 1 _ _ _ hp1
  have f0 := frozen_of_row w1 p 0 _ _ hp1
  have f1 := frozen_of_row w1 p 1 _ _ hp1
  have z0 := cell_of_row w1 _ 0 _ _ _ (K1.out.get 0 rfl)
  have z1 := cell_of_row w1 _ 1 _ _ _ (K1.out.get 0 rfl)
  have q0 := frozen_of_row w1 w.heap.size 0 _ _ (K1.out.get 0 rfl)
  have q1 := frozen_of_row w1 w.heap.size 1 _ _ (K1.out.get 0 rfl)
  have hlt1 : p < w1.heap.size := (Array.getElem?_eq_some_iff.1 hp1).1
  have hlt2 := K1.out.lt 0 rfl
  have hne : p ≠ w.heap.size := Nat.ne_of_lt hlt
  have hne2 : w.heap.size ≠ p := Ne.symm hne
  cases bad with
  | true =>
    go_wp2_with fail
    obtain ⟨e1, e2, e3, e4, e5, e6, e7⟩ := takeS_world (t3 := 34) hp1 (K1.out.get 0 rfl) hne (.string y) (.bool true) (.int .i64 x0) (.int .i64 x1) #[.int .i64 x0, .int .i64 x1]
    have z5 := cell_of_row _ _ 0 _ _ _ e2
    have z6 := cell_of_row _ _ 1 _ _ _ e2
    have HR : RBut p w _ := ⟨e3.trans K1.out.2.os, e4.trans K1.out.2.tape, e5.trans K1.out.2.output, Nat.le_trans K1.out.2.size e6, fun k hk h1 => (e7 k (Nat.lt_of_lt_of_le hk K1.out.2.size) h1 (Nat.ne_of_lt hk)).trans (K1.out.2.block k hk)⟩
    have E1 := Hd.mk e1
    have HR := Hd.mk HR
    clear e1 e2 e3 e4 e5 e6 e7
    generalize World.alloc _ _ = F at *
    exact bodyPost_ret (v := .agg #[.int .i64 x0, .int .i64 x1]) (by simp [results, Tryz.results70, go_sem, z5, z6]) rfl ⟨rfl, E1.out, HR.out⟩
  | false =>
    go_wp2_with fail
    obtain ⟨e1, e2, e3, e4, e5, e6, e7⟩ := takeS_world (t3 := 34) hp1 (K1.out.get 0 rfl) hne (.string y) (.bool (c != 0)) (.int .i64 x0) (.int .i64 x1) #[.int .i64 x0, .int .i64 x1]
    have z5 := cell_of_row _ _ 0 _ _ _ e2
    have z6 := cell_of_row _ _ 1 _ _ _ e2
    have HR : RBut p w _ := ⟨e3.trans K1.out.2.os, e4.trans K1.out.2.tape, e5.trans K1.out.2.output, Nat.le_trans K1.out.2.size e6, fun k hk h1 => (e7 k (Nat.lt_of_lt_of_le hk K1.out.2.size) h1 (Nat.ne_of_lt hk)).trans (K1.out.2.block k hk)⟩
    have E1 := Hd.mk e1
    have HR := Hd.mk HR
    clear e1 e2 e3 e4 e5 e6 e7
    generalize World.alloc _ _ = F at *
    exact bodyPost_ret (v := .agg #[.int .i64 x0, .int .i64 x1]) (by simp [results, Tryz.results70, go_sem, z5, z6]) rfl ⟨rfl, E1.out, HR.out⟩
end Go.Proofs.YtcgkkjfbdappoaaGreat

/- op.Take: the operation with which a string begins: the walk. -/
namespace Go.Proofs.YtcgkkjfbdappoaaGreat
open Go.RowKit Go.Proofs.YtcgkkjfbdappoaaGreatW.PrintWords Go.Proofs.YtcgkkjfbdappoaaGreatW.PrintLast Go.Proofs.YtcgkkjfbdappoaaGreatW.PrintMore Pk
set_option linter.unusedVariables false
set_option linter.unusedSimpArgs false

theorem Holds.rbut {w wr w' : World} {l : List (Nat × Obj)} {p : Nat} (h : Holds w l wr) (hb : RBut p wr w') (hp : w.heap.size ≤ p) (hn : ∀ q ∈ l, q.1 ≠ p) : Holds w l w' :=
  ⟨fun q hq => (hb.block _ (Array.getElem?_eq_some_iff.1 (h.1 q hq)).1 (hn q hq)).trans (h.1 q hq), hb.below h.2 hp h.2.size⟩
/-- What lies in memory while an operation is read. -/
def TakeSt (w : World) (bo B2 : Nat) (oc : Array Value) (rest : ByteArray) (bad : Bool) (W : World) : Prop :=
  Holds w [(B2, .cells #[.pointer (some ⟨bo, 0, none⟩), .pointer (some ⟨bo, 3, none⟩), .pointer (some ⟨bo, 5, none⟩), .pointer (some ⟨bo, 7, none⟩)] 127 (0, 0)), (bo, .cells oc 36 (0, 0)), (w.heap.size, .cells #[.int .i64 0, .int .i64 0, .int .i64 0, .int .i64 0, .int .i64 0, .int .i64 0, .int .i64 0, .int .i64 0, .int .i64 0, .string ⟨#[]⟩, .string ⟨#[]⟩, .int .i64 0, .string ⟨#[]⟩] 36 (0, 0))] W ∧
  Reads (w.heap.size + 1) rest bad W ∧ w.heap.size + 1 < bo ∧ bo < B2
theorem TakeSt.call {w W W' : World} {bo B2 : Nat} {oc : Array Value} {rest y : ByteArray} {bad bad' : Bool} (h : TakeSt w bo B2 oc rest bad W) (hb : RBut (w.heap.size + 1) W W') (hr : Reads (w.heap.size + 1) y bad' W') : TakeSt w bo B2 oc y bad' W' := by
  obtain ⟨h1, h2, h3, h4⟩ := h
  refine ⟨h1.rbut hb (by omega) (fun q hq => ?_), hr, h3, h4⟩
  simp at hq
  rcases hq with rfl | rfl | rfl
  · exact Nat.ne_of_gt (by show w.heap.size + 1 < B2; omega)
  · exact Nat.ne_of_gt h3
  · exact Nat.ne_of_lt (by show w.heap.size < w.heap.size + 1; omega)
theorem TakeSt.store {w W : World} {bo B2 : Nat} {oc : Array Value} {rest : ByteArray} {bad : Bool} (h : TakeSt w bo B2 oc rest bad W) (i : Nat) (v : Value) : TakeSt w bo B2 (oc.setIfInBounds i v) rest bad (W.setCell ⟨bo, i, none⟩ v) := by
  obtain ⟨h1, h2, h3, h4⟩ := h
  obtain ⟨e1, e2⟩ := setc_but (h1.get 1 rfl) i v
  refine ⟨⟨fun q hq => ?_, e2.below h1.2 (by omega) h1.2.size⟩, (e2.block _ (Array.getElem?_eq_some_iff.1 h2).1 (by omega)).trans h2, h3, h4⟩
  simp at hq
  rcases hq with rfl | rfl | rfl
  · exact (e2.block _ (h1.lt 0 rfl) (by omega)).trans (h1.get 0 rfl)
  · exact e1
  · exact (e2.block _ (h1.lt 2 rfl) (by omega)).trans (h1.get 2 rfl)
theorem TakeSt.below {w W W' : World} {bo B2 : Nat} {oc : Array Value} {rest : ByteArray} {bad : Bool} (h : TakeSt w bo B2 oc rest bad W) (hb : Below W.heap.size W W') : TakeSt w bo B2 oc rest bad W' :=
  ⟨h.1.call hb, (hb.block _ (Array.getElem?_eq_some_iff.1 h.2.1).1).trans h.2.1, h.2.2⟩
theorem size_op13 : (Tryz.prog.info? 36).map (·.size) = some 13 := by kernel_rfl
theorem z13_one : (#[.int .i64 0, .int .i64 0, .int .i64 0, .int .i64 0, .int .i64 0, .int .i64 0, .int .i64 0, .int .i64 0, .int .i64 0, .string ⟨#[]⟩, .string ⟨#[]⟩, .int .i64 0, .string ⟨#[]⟩] : Array Value).all (·.oneCell') = true := by kernel_rfl
theorem c8_one (k s0 s1 a0 a1 i0 i1 t0 t1 off : Int) (nm nw dt : ByteArray) : (#[.int .i64 s0, .int .i64 s1, .int .i64 k, .int .i64 a0, .int .i64 a1, .int .i64 i0, .int .i64 i1, .int .i64 t0, .int .i64 t1, .string nm, .string nw, .int .i64 off, .string dt] : Array Value).all (·.oneCell') = true := by kernel_rfl
theorem run_store_row {P : Program} {o : Oper} {ρ : Operand → Value} {w : World} (ty : TypeId) (x y : Operand) (ho : o.op = .store ty x y)
    (g : Nat) (cells : Array Value) (hx : ρ x = .pointer (some ⟨g, 0, none⟩)) (hy : ρ y = .agg cells)
    (t : TypeId) (old : Array Value) (hg : w.heap[g]? = some (.cells old t (0, 0))) (hi : (P.info? ty).map (·.size) = some cells.size)
    (hold : old.size = cells.size) (h1 : cells.all (·.oneCell') = true) : (execOp ρ o).run P w = .ok .skip (w.setRow g cells) := by
  unfold execOp
  simp only [ho, hx, hy, Instr.storeAt, Instr.sureAddr, Sem.run_bind, Sem.run_pure, Result.andThen_ok, run_storeVar_row w g t ty old cells hg hi hold h1]
set_option maxHeartbeats 8000000 in
set_option maxRecDepth 100000 in
theorem Take_walk (b : ByteArray) (k s0 s1 a0 a1 i0 i1 t0 t1 off : Int) (nm nw dt y1 y2 y3 y4 y5 y6 y7 y8 y9 : ByteArray) (c1 c2 c3 c4 c5 c6 c7 c8 c9 : Int) (mB : Bool) (w : World)
    (H1 : Hd (∀ w, Calls Tryz.prog 41 #[.string b] w fun e w' => e = .returned (.tuple #[.int .i64 k, .string y1, .int .i64 c1]) ∧ Below w.heap.size w w'))
    (H2 : Hd (∀ w, Calls Tryz.prog 71 #[.string y1] w fun e w' => e = .returned (.tuple #[.agg #[.int .i64 s0, .int .i64 s1], .string y2, .int .i64 c2]) ∧ Below w.heap.size w w'))
    (H3 : Hd (∀ w, Calls Tryz.prog 71 #[.string y2] w fun e w' => e = .returned (.tuple #[.agg #[.int .i64 a0, .int .i64 a1], .string y3, .int .i64 c3]) ∧ Below w.heap.size w w'))
    (H4 : Hd (∀ w, Calls Tryz.prog 71 #[.string y3] w fun e w' => e = .returned (.tuple #[.agg #[.int .i64 i0, .int .i64 i1], .string y4, .int .i64 c4]) ∧ Below w.heap.size w w'))
    (H5 : Hd (∀ w, Calls Tryz.prog 71 #[.string y4] w fun e w' => e = .returned (.tuple #[.agg #[.int .i64 t0, .int .i64 t1], .string y5, .int .i64 c5]) ∧ Below w.heap.size w w'))
    (H6 : Hd (∀ w, Calls Tryz.prog 73 #[.string y5] w fun e w' => e = .returned (.tuple #[.string nm, .string y6, .int .i64 c6]) ∧ Below w.heap.size w w'))
    (H7 : Hd (∀ w, Calls Tryz.prog 73 #[.string y6] w fun e w' => e = .returned (.tuple #[.string nw, .string y7, .int .i64 c7]) ∧ Below w.heap.size w w'))
    (H8 : Hd (∀ w, Calls Tryz.prog 41 #[.string y7] w fun e w' => e = .returned (.tuple #[.int .i64 off, .string y8, .int .i64 c8]) ∧ Below w.heap.size w w'))
    (H9 : Hd (∀ w, Calls Tryz.prog 73 #[.string y8] w fun e w' => e = .returned (.tuple #[.string dt, .string y9, .int .i64 c9]) ∧ Below w.heap.size w w'))
    (HM : Hd (∀ w, Calls Tryz.prog 47 #[.agg #[.int .i64 s0, .int .i64 s1, .int .i64 k, .int .i64 a0, .int .i64 a1, .int .i64 i0, .int .i64 i1, .int .i64 t0, .int .i64 t1, .string nm, .string nw, .int .i64 off, .string dt]] w fun e w' => e = .returned (.bool mB) ∧ Below w.heap.size w w')) (B : Bool) (hB : Hd (B = (((((((((false || c1 != 0) || c2 != 0) || c3 != 0) || c4 != 0) || c5 != 0) || c6 != 0) || c7 != 0) || c8 != 0) || c9 != 0))) :
    Calls Tryz.prog 43 #[.string b] w fun e w' => e = .returned (if (B || !mB) = true then .tuple #[.agg #[.int .i64 0, .int .i64 0, .int .i64 0, .int .i64 0, .int .i64 0, .int .i64 0, .int .i64 0, .int .i64 0, .int .i64 0, .string ⟨#[]⟩, .string ⟨#[]⟩, .int .i64 0, .string ⟨#[]⟩], .string ⟨#[]⟩, .int .i64 2] else .tuple #[.agg #[.int .i64 s0, .int .i64 s1, .int .i64 k, .int .i64 a0, .int .i64 a1, .int .i64 i0, .int .i64 i1, .int .i64 t0, .int .i64 t1, .string nm, .string nw, .int .i64 off, .string dt], .string y9, .int .i64 0]) ∧ Below w.heap.size w w' := by
  have K0 := Hd.mk (Holds.start2 w (.cells #[.int .i64 0, .int .i64 0, .int .i64 0, .int .i64 0, .int .i64 0, .int .i64 0, .int .i64 0, .int .i64 0, .int .i64 0, .string ⟨#[]⟩, .string ⟨#[]⟩, .int .i64 0, .string ⟨#[]⟩] 36 (0, 0)) (.cells #[.string b, .bool false] 125 (0, 0)))
  have T1 := Hd.mk (fun p bad w (hp : Reads p b bad w) => optake_int p b bad k y1 c1 w hp H1)
  have T2 := Hd.mk (fun p bad w (hp : Reads p y1 bad w) => optake_stamp p y1 bad s0 s1 y2 c2 w hp H2)
  have T3 := Hd.mk (fun p bad w (hp : Reads p y2 bad w) => optake_stamp p y2 bad a0 a1 y3 c3 w hp H3)
  have T4 := Hd.mk (fun p bad w (hp : Reads p y3 bad w) => optake_stamp p y3 bad i0 i1 y4 c4 w hp H4)
  have T5 := Hd.mk (fun p bad w (hp : Reads p y4 bad w) => optake_stamp p y4 bad t0 t1 y5 c5 w hp H5)
  have T6 := Hd.mk (fun p bad w (hp : Reads p y5 bad w) => optake_text p y5 bad nm y6 c6 w hp H6)
  have T7 := Hd.mk (fun p bad w (hp : Reads p y6 bad w) => optake_text p y6 bad nw y7 c7 w hp H7)
  have T8 := Hd.mk (fun p bad w (hp : Reads p y7 bad w) => optake_int p y7 bad off y8 c8 w hp H8)
  have T9 := Hd.mk (fun p bad w (hp : Reads p y8 bad w) => optake_text p y8 bad dt y9 c9 w hp H9)
  clear H1 H2 H3 H4 H5 H6 H7 H8 H9
  go_enter Tryz.func43, Tryz.ntmps43
  go_wp2_with fail
  refine world_gen_calls _ K0.out (fun W hK => ?_)
  have K0 := Hd.mk hK
  clear hK
  refine (T1.out _ _ _ (K0.out.get 0 rfl)).mono ?_; rintro e w1 ⟨rfl, hr1, hb1⟩
  have HR1 := Hd.mk hr1
  have K1 := Hd.mk (Holds.rbut K0.out.rest hb1 (by simp) (by simp))
  have hlt := (Array.getElem?_eq_some_iff.1 hr1).1
  clear hr1 hb1 K0 T1
  have KA := Hd.mk ((K1.out.alloc (.cells #[.int .i64 0, .int .i64 0, .int .i64 k, .int .i64 0, .int .i64 0, .int .i64 0, .int .i64 0, .int .i64 0, .int .i64 0, .string ⟨#[]⟩, .string ⟨#[]⟩, .int .i64 0, .string ⟨#[]⟩] 36 (0, 0))).alloc (.cells #[.pointer (some ⟨w1.heap.size, 0, none⟩), .pointer (some ⟨w1.heap.size, 3, none⟩), .pointer (some ⟨w1.heap.size, 5, none⟩), .pointer (some ⟨w1.heap.size, 7, none⟩)] 127 (0, 0)))
  have KS : Hd (TakeSt w w1.heap.size (w1.heap.size + 1) #[.int .i64 0, .int .i64 0, .int .i64 k, .int .i64 0, .int .i64 0, .int .i64 0, .int .i64 0, .int .i64 0, .int .i64 0, .string ⟨#[]⟩, .string ⟨#[]⟩, .int .i64 0, .string ⟨#[]⟩] y1 (false || c1 != 0) ((w1.alloc (.cells #[.int .i64 0, .int .i64 0, .int .i64 k, .int .i64 0, .int .i64 0, .int .i64 0, .int .i64 0, .int .i64 0, .int .i64 0, .string ⟨#[]⟩, .string ⟨#[]⟩, .int .i64 0, .string ⟨#[]⟩] 36 (0, 0))).alloc (.cells #[.pointer (some ⟨w1.heap.size, 0, none⟩), .pointer (some ⟨w1.heap.size, 3, none⟩), .pointer (some ⟨w1.heap.size, 5, none⟩), .pointer (some ⟨w1.heap.size, 7, none⟩)] 127 (0, 0)))) := ⟨by
    have hsz : (w1.alloc (.cells #[.int .i64 0, .int .i64 0, .int .i64 k, .int .i64 0, .int .i64 0, .int .i64 0, .int .i64 0, .int .i64 0, .int .i64 0, .string ⟨#[]⟩, .string ⟨#[]⟩, .int .i64 0, .string ⟨#[]⟩] 36 (0, 0))).heap.size = w1.heap.size + 1 := by simp
    have h := KA.out
    rw [hsz] at h
    exact ⟨h, (heap_alloc_old _ _ (by rw [hsz]; omega)).trans ((heap_alloc_old _ _ hlt).trans HR1.out), hlt, by omega⟩⟩
  clear K1 HR1 KA hlt
  go_wp2_with fail
  generalize hbo : w1.heap.size = bo at *
  refine world_gen (fun W_ => TakeSt w bo (bo + 1) #[.int .i64 0, .int .i64 0, .int .i64 k, .int .i64 0, .int .i64 0, .int .i64 0, .int .i64 0, .int .i64 0, .int .i64 0, .string ⟨#[]⟩, .string ⟨#[]⟩, .int .i64 0, .string ⟨#[]⟩] y1 (false || c1 != 0) W_) KS.out (fun W2 hK => ?_)
  have KT := Hd.mk hK
  clear hK KS hbo
  go_loopg [8, 21] 4 (fun q _ v21 wx => ∃ i : Nat, i + q = 4 ∧ v21 = .int .i64 (i : Int) ∧ Hd (TakeSt w bo (bo + 1) (match i with | 0 => #[.int .i64 0, .int .i64 0, .int .i64 k, .int .i64 0, .int .i64 0, .int .i64 0, .int .i64 0, .int .i64 0, .int .i64 0, .string ⟨#[]⟩, .string ⟨#[]⟩, .int .i64 0, .string ⟨#[]⟩] | 1 => #[.int .i64 s0, .int .i64 s1, .int .i64 k, .int .i64 0, .int .i64 0, .int .i64 0, .int .i64 0, .int .i64 0, .int .i64 0, .string ⟨#[]⟩, .string ⟨#[]⟩, .int .i64 0, .string ⟨#[]⟩] | 2 => #[.int .i64 s0, .int .i64 s1, .int .i64 k, .int .i64 a0, .int .i64 a1, .int .i64 0, .int .i64 0, .int .i64 0, .int .i64 0, .string ⟨#[]⟩, .string ⟨#[]⟩, .int .i64 0, .string ⟨#[]⟩] | 3 => #[.int .i64 s0, .int .i64 s1, .int .i64 k, .int .i64 a0, .int .i64 a1, .int .i64 i0, .int .i64 i1, .int .i64 0, .int .i64 0, .string ⟨#[]⟩, .string ⟨#[]⟩, .int .i64 0, .string ⟨#[]⟩] | _ => #[.int .i64 s0, .int .i64 s1, .int .i64 k, .int .i64 a0, .int .i64 a1, .int .i64 i0, .int .i64 i1, .int .i64 t0, .int .i64 t1, .string ⟨#[]⟩, .string ⟨#[]⟩, .int .i64 0, .string ⟨#[]⟩]) (match i with | 0 => y1 | 1 => y2 | 2 => y3 | 3 => y4 | _ => y5) (match i with | 0 => (false || c1 != 0) | 1 => ((false || c1 != 0) || c2 != 0) | 2 => (((false || c1 != 0) || c2 != 0) || c3 != 0) | 3 => ((((false || c1 != 0) || c2 != 0) || c3 != 0) || c4 != 0) | _ => (((((false || c1 != 0) || c2 != 0) || c3 != 0) || c4 != 0) || c5 != 0)) wx))
  case atStart => exact ⟨0, rfl, rfl, KT⟩
  case round =>
    obtain ⟨i, hi, rfl, HT⟩ := hrel
    clear KT
    have h3 : i = 0 ∨ i = 1 ∨ i = 2 ∨ i = 3 ∨ i = 4 := by omega
    rcases h3 with rfl | rfl | rfl | rfl | rfl
    · have KT : Hd (TakeSt w bo (bo + 1) #[.int .i64 0, .int .i64 0, .int .i64 k, .int .i64 0, .int .i64 0, .int .i64 0, .int .i64 0, .int .i64 0, .int .i64 0, .string ⟨#[]⟩, .string ⟨#[]⟩, .int .i64 0, .string ⟨#[]⟩] y1 (false || c1 != 0) wr) := HT
      clear HT
      have g0 := cell_of_row wr _ 0 _ _ _ (KT.out.1.get 0 rfl)
      have g1 := cell_of_row wr _ 1 _ _ _ (KT.out.1.get 0 rfl)
      have g2 := cell_of_row wr _ 2 _ _ _ (KT.out.1.get 0 rfl)
      have g3 := cell_of_row wr _ 3 _ _ _ (KT.out.1.get 0 rfl)
      go_wp2_with fail
      refine (T2.out _ _ _ KT.out.2.1).mono ?_; rintro e w5 ⟨rfl, hr, hb⟩
      have K5 := Hd.mk (KT.out.call hb hr)
      have K6 := Hd.mk ((K5.out.store 0 (.int .i64 s0)).store 1 (.int .i64 s1))
      clear hr hb KT
      clear g0 g1 g2 g3
      have z0 := cell_of_row w5 _ 0 _ _ _ (K5.out.1.get 1 rfl)
      have z1 := cell_of_row w5 _ 1 _ _ _ (K5.out.1.get 1 rfl)
      have q0 := frozen_of_row w5 bo 0 _ _ (K5.out.1.get 1 rfl)
      have q1 := frozen_of_row w5 bo 1 _ _ (K5.out.1.get 1 rfl)
      go_wp2_with fail
      go_roundg (3)
      case measure => omega
      case rel => exact ⟨1, by omega, rfl, K6⟩
    · have KT : Hd (TakeSt w bo (bo + 1) #[.int .i64 s0, .int .i64 s1, .int .i64 k, .int .i64 0, .int .i64 0, .int .i64 0, .int .i64 0, .int .i64 0, .int .i64 0, .string ⟨#[]⟩, .string ⟨#[]⟩, .int .i64 0, .string ⟨#[]⟩] y2 ((false || c1 != 0) || c2 != 0) wr) := HT
      clear HT
      have g0 := cell_of_row wr _ 0 _ _ _ (KT.out.1.get 0 rfl)
      have g1 := cell_of_row wr _ 1 _ _ _ (KT.out.1.get 0 rfl)
      have g2 := cell_of_row wr _ 2 _ _ _ (KT.out.1.get 0 rfl)
      have g3 := cell_of_row wr _ 3 _ _ _ (KT.out.1.get 0 rfl)
      go_wp2_with fail
      refine (T3.out _ _ _ KT.out.2.1).mono ?_; rintro e w5 ⟨rfl, hr, hb⟩
      have K5 := Hd.mk (KT.out.call hb hr)
      have K6 := Hd.mk ((K5.out.store 3 (.int .i64 a0)).store 4 (.int .i64 a1))
      clear hr hb KT
      clear g0 g1 g2 g3
      have z0 := cell_of_row w5 _ 3 _ _ _ (K5.out.1.get 1 rfl)
      have z1 := cell_of_row w5 _ 4 _ _ _ (K5.out.1.get 1 rfl)
      have q0 := frozen_of_row w5 bo 3 _ _ (K5.out.1.get 1 rfl)
      have q1 := frozen_of_row w5 bo 4 _ _ (K5.out.1.get 1 rfl)
      go_wp2_with fail
      go_roundg (2)
      case measure => omega
      case rel => exact ⟨2, by omega, rfl, K6⟩
    · have KT : Hd (TakeSt w bo (bo + 1) #[.int .i64 s0, .int .i64 s1, .int .i64 k, .int .i64 a0, .int .i64 a1, .int .i64 0, .int .i64 0, .int .i64 0, .int .i64 0, .string ⟨#[]⟩, .string ⟨#[]⟩, .int .i64 0, .string ⟨#[]⟩] y3 (((false || c1 != 0) || c2 != 0) || c3 != 0) wr) := HT
      clear HT
      have g0 := cell_of_row wr _ 0 _ _ _ (KT.out.1.get 0 rfl)
      have g1 := cell_of_row wr _ 1 _ _ _ (KT.out.1.get 0 rfl)
      have g2 := cell_of_row wr _ 2 _ _ _ (KT.out.1.get 0 rfl)
      have g3 := cell_of_row wr _ 3 _ _ _ (KT.out.1.get 0 rfl)
      go_wp2_with fail
      refine (T4.out _ _ _ KT.out.2.1).mono ?_; rintro e w5 ⟨rfl, hr, hb⟩
      have K5 := Hd.mk (KT.out.call hb hr)
      have K6 := Hd.mk ((K5.out.store 5 (.int .i64 i0)).store 6 (.int .i64 i1))
      clear hr hb KT
      clear g0 g1 g2 g3
      have z0 := cell_of_row w5 _ 5 _ _ _ (K5.out.1.get 1 rfl)
      have z1 := cell_of_row w5 _ 6 _ _ _ (K5.out.1.get 1 rfl)
      have q0 := frozen_of_row w5 bo 5 _ _ (K5.out.1.get 1 rfl)
      have q1 := frozen_of_row w5 bo 6 _ _ (K5.out.1.get 1 rfl)
      go_wp2_with fail
      go_roundg (1)
      case measure => omega
      case rel => exact ⟨3, by omega, rfl, K6⟩
    · have KT : Hd (TakeSt w bo (bo + 1) #[.int .i64 s0, .int .i64 s1, .int .i64 k, .int .i64 a0, .int .i64 a1, .int .i64 i0, .int .i64 i1, .int .i64 0, .int .i64 0, .string ⟨#[]⟩, .string ⟨#[]⟩, .int .i64 0, .string ⟨#[]⟩] y4 ((((false || c1 != 0) || c2 != 0) || c3 != 0) || c4 != 0) wr) := HT
      clear HT
      have g0 := cell_of_row wr _ 0 _ _ _ (KT.out.1.get 0 rfl)
      have g1 := cell_of_row wr _ 1 _ _ _ (KT.out.1.get 0 rfl)
      have g2 := cell_of_row wr _ 2 _ _ _ (KT.out.1.get 0 rfl)
      have g3 := cell_of_row wr _ 3 _ _ _ (KT.out.1.get 0 rfl)
      go_wp2_with fail
      refine (T5.out _ _ _ KT.out.2.1).mono ?_; rintro e w5 ⟨rfl, hr, hb⟩
      have K5 := Hd.mk (KT.out.call hb hr)
      have K6 := Hd.mk ((K5.out.store 7 (.int .i64 t0)).store 8 (.int .i64 t1))
      clear hr hb KT
      clear g0 g1 g2 g3
      have z0 := cell_of_row w5 _ 7 _ _ _ (K5.out.1.get 1 rfl)
      have z1 := cell_of_row w5 _ 8 _ _ _ (K5.out.1.get 1 rfl)
      have q0 := frozen_of_row w5 bo 7 _ _ (K5.out.1.get 1 rfl)
      have q1 := frozen_of_row w5 bo 8 _ _ (K5.out.1.get 1 rfl)
      go_wp2_with fail
      go_roundg (0)
      case measure => omega
      case rel => exact ⟨4, by omega, rfl, K6⟩
    · have KT : Hd (TakeSt w bo (bo + 1) #[.int .i64 s0, .int .i64 s1, .int .i64 k, .int .i64 a0, .int .i64 a1, .int .i64 i0, .int .i64 i1, .int .i64 t0, .int .i64 t1, .string ⟨#[]⟩, .string ⟨#[]⟩, .int .i64 0, .string ⟨#[]⟩] y5 (((((false || c1 != 0) || c2 != 0) || c3 != 0) || c4 != 0) || c5 != 0) wr) := HT
      clear HT T2 T3 T4 T5
      go_wp2_with fail
      refine (T6.out _ _ _ KT.out.2.1).mono ?_; rintro e v6 ⟨rfl, hr, hb⟩
      have K5 := Hd.mk (KT.out.call hb hr)
      have K6 : Hd (TakeSt w bo (bo + 1) #[.int .i64 s0, .int .i64 s1, .int .i64 k, .int .i64 a0, .int .i64 a1, .int .i64 i0, .int .i64 i1, .int .i64 t0, .int .i64 t1, .string nm, .string ⟨#[]⟩, .int .i64 0, .string ⟨#[]⟩] y6 ((((((false || c1 != 0) || c2 != 0) || c3 != 0) || c4 != 0) || c5 != 0) || c6 != 0) _) := ⟨K5.out.store 9 (.string nm)⟩
      clear hr hb KT
      have z0 := cell_of_row v6 _ 9 _ _ _ (K5.out.1.get 1 rfl)
      have q0 := frozen_of_row v6 bo 9 _ _ (K5.out.1.get 1 rfl)
      go_wp2_with fail
      refine world_gen_calls (fun W_ => TakeSt w bo (bo + 1) #[.int .i64 s0, .int .i64 s1, .int .i64 k, .int .i64 a0, .int .i64 a1, .int .i64 i0, .int .i64 i1, .int .i64 t0, .int .i64 t1, .string nm, .string ⟨#[]⟩, .int .i64 0, .string ⟨#[]⟩] y6 ((((((false || c1 != 0) || c2 != 0) || c3 != 0) || c4 != 0) || c5 != 0) || c6 != 0) W_) K6.out (fun W6 hK => ?_)
      have KT := Hd.mk hK
      clear hK K5 K6 z0 q0
      refine (T7.out _ _ _ KT.out.2.1).mono ?_; rintro e v7 ⟨rfl, hr, hb⟩
      have K5 := Hd.mk (KT.out.call hb hr)
      have K6 : Hd (TakeSt w bo (bo + 1) #[.int .i64 s0, .int .i64 s1, .int .i64 k, .int .i64 a0, .int .i64 a1, .int .i64 i0, .int .i64 i1, .int .i64 t0, .int .i64 t1, .string nm, .string nw, .int .i64 0, .string ⟨#[]⟩] y7 (((((((false || c1 != 0) || c2 != 0) || c3 != 0) || c4 != 0) || c5 != 0) || c6 != 0) || c7 != 0) _) := ⟨K5.out.store 10 (.string nw)⟩
      clear hr hb KT
      have z0 := cell_of_row v7 _ 10 _ _ _ (K5.out.1.get 1 rfl)
      have q0 := frozen_of_row v7 bo 10 _ _ (K5.out.1.get 1 rfl)
      go_wp2_with fail
      refine world_gen_calls (fun W_ => TakeSt w bo (bo + 1) #[.int .i64 s0, .int .i64 s1, .int .i64 k, .int .i64 a0, .int .i64 a1, .int .i64 i0, .int .i64 i1, .int .i64 t0, .int .i64 t1, .string nm, .string nw, .int .i64 0, .string ⟨#[]⟩] y7 (((((((false || c1 != 0) || c2 != 0) || c3 != 0) || c4 != 0) || c5 != 0) || c6 != 0) || c7 != 0) W_) K6.out (fun W7 hK => ?_)
      have KT := Hd.mk hK
      clear hK K5 K6 z0 q0
      refine (T8.out _ _ _ KT.out.2.1).mono ?_; rintro e v8 ⟨rfl, hr, hb⟩
      have K5 := Hd.mk (KT.out.call hb hr)
      have K6 : Hd (TakeSt w bo (bo + 1) #[.int .i64 s0, .int .i64 s1, .int .i64 k, .int .i64 a0, .int .i64 a1, .int .i64 i0, .int .i64 i1, .int .i64 t0, .int .i64 t1, .string nm, .string nw, .int .i64 off, .string ⟨#[]⟩] y8 ((((((((false || c1 != 0) || c2 != 0) || c3 != 0) || c4 != 0) || c5 != 0) || c6 != 0) || c7 != 0) || c8 != 0) _) := ⟨K5.out.store 11 (.int .i64 off)⟩
      clear hr hb KT
      have z0 := cell_of_row v8 _ 11 _ _ _ (K5.out.1.get 1 rfl)
      have q0 := frozen_of_row v8 bo 11 _ _ (K5.out.1.get 1 rfl)
      go_wp2_with fail
      refine world_gen_calls (fun W_ => TakeSt w bo (bo + 1) #[.int .i64 s0, .int .i64 s1, .int .i64 k, .int .i64 a0, .int .i64 a1, .int .i64 i0, .int .i64 i1, .int .i64 t0, .int .i64 t1, .string nm, .string nw, .int .i64 off, .string ⟨#[]⟩] y8 ((((((((false || c1 != 0) || c2 != 0) || c3 != 0) || c4 != 0) || c5 != 0) || c6 != 0) || c7 != 0) || c8 != 0) W_) K6.out (fun W8 hK => ?_)
      have KT := Hd.mk hK
      clear hK K5 K6 z0 q0
      refine (T9.out _ _ _ KT.out.2.1).mono ?_; rintro e v9 ⟨rfl, hr, hb⟩
      have K5 := Hd.mk (KT.out.call hb hr)
      have K6 : Hd (TakeSt w bo (bo + 1) #[.int .i64 s0, .int .i64 s1, .int .i64 k, .int .i64 a0, .int .i64 a1, .int .i64 i0, .int .i64 i1, .int .i64 t0, .int .i64 t1, .string nm, .string nw, .int .i64 off, .string dt] y9 (((((((((false || c1 != 0) || c2 != 0) || c3 != 0) || c4 != 0) || c5 != 0) || c6 != 0) || c7 != 0) || c8 != 0) || c9 != 0) _) := ⟨K5.out.store 12 (.string dt)⟩
      clear hr hb KT
      have z0 := cell_of_row v9 _ 12 _ _ _ (K5.out.1.get 1 rfl)
      have q0 := frozen_of_row v9 bo 12 _ _ (K5.out.1.get 1 rfl)
      go_upto_region 12 with (fail)
      refine world_gen (fun W_ => TakeSt w bo (bo + 1) #[.int .i64 s0, .int .i64 s1, .int .i64 k, .int .i64 a0, .int .i64 a1, .int .i64 i0, .int .i64 i1, .int .i64 t0, .int .i64 t1, .string nm, .string nw, .int .i64 off, .string dt] y9 (((((((((false || c1 != 0) || c2 != 0) || c3 != 0) || c4 != 0) || c5 != 0) || c6 != 0) || c7 != 0) || c8 != 0) || c9 != 0) W_) K6.out (fun W9 hK => ?_)
      have KT := Hd.mk hK
      clear hK K5 K6 z0 q0
      rw [← hB.out] at KT
      have r0 := cell_of_row W9 _ 0 _ _ _ KT.out.2.1
      have r1 := cell_of_row W9 _ 1 _ _ _ KT.out.2.1
      clear hB T6 T7 T8 T9
      cases B with
      | true =>
        go_wp2_with (first | ((with_reducible refine gate_store (t := 36) rfl ?_); refine wpList_store_row rfl _ _ _ rfl w.heap.size #[.int .i64 0, .int .i64 0, .int .i64 0, .int .i64 0, .int .i64 0, .int .i64 0, .int .i64 0, .int .i64 0, .int .i64 0, .string ⟨#[]⟩, .string ⟨#[]⟩, .int .i64 0, .string ⟨#[]⟩] rfl rfl 36 #[.int .i64 0, .int .i64 0, .int .i64 0, .int .i64 0, .int .i64 0, .int .i64 0, .int .i64 0, .int .i64 0, .int .i64 0, .string ⟨#[]⟩, .string ⟨#[]⟩, .int .i64 0, .string ⟨#[]⟩] (KT.out.1.get 2 rfl) size_op13 rfl z13_one ?_))
        have hz : (W9.setRow w.heap.size #[.int .i64 0, .int .i64 0, .int .i64 0, .int .i64 0, .int .i64 0, .int .i64 0, .int .i64 0, .int .i64 0, .int .i64 0, .string ⟨#[]⟩, .string ⟨#[]⟩, .int .i64 0, .string ⟨#[]⟩]).heap[w.heap.size]? = some (.cells #[.int .i64 0, .int .i64 0, .int .i64 0, .int .i64 0, .int .i64 0, .int .i64 0, .int .i64 0, .int .i64 0, .int .i64 0, .string ⟨#[]⟩, .string ⟨#[]⟩, .int .i64 0, .string ⟨#[]⟩] 36 (0, 0)) := setRow_heap _ _ _ _ _ _ (KT.out.1.get 2 rfl)
        have hb := below_setRow KT.out.1.2 (Nat.le_refl _) #[.int .i64 0, .int .i64 0, .int .i64 0, .int .i64 0, .int .i64 0, .int .i64 0, .int .i64 0, .int .i64 0, .int .i64 0, .string ⟨#[]⟩, .string ⟨#[]⟩, .int .i64 0, .string ⟨#[]⟩]
        generalize W9.setRow w.heap.size #[.int .i64 0, .int .i64 0, .int .i64 0, .int .i64 0, .int .i64 0, .int .i64 0, .int .i64 0, .int .i64 0, .int .i64 0, .string ⟨#[]⟩, .string ⟨#[]⟩, .int .i64 0, .string ⟨#[]⟩] = WF at *
        have o0 := cell_of_row WF _ 0 _ _ _ (hz)
        have o1 := cell_of_row WF _ 1 _ _ _ (hz)
        have o2 := cell_of_row WF _ 2 _ _ _ (hz)
        have o3 := cell_of_row WF _ 3 _ _ _ (hz)
        have o4 := cell_of_row WF _ 4 _ _ _ (hz)
        have o5 := cell_of_row WF _ 5 _ _ _ (hz)
        have o6 := cell_of_row WF _ 6 _ _ _ (hz)
        have o7 := cell_of_row WF _ 7 _ _ _ (hz)
        have o8 := cell_of_row WF _ 8 _ _ _ (hz)
        have o9 := cell_of_row WF _ 9 _ _ _ (hz)
        have o10 := cell_of_row WF _ 10 _ _ _ (hz)
        have o11 := cell_of_row WF _ 11 _ _ _ (hz)
        have o12 := cell_of_row WF _ 12 _ _ _ (hz)
        exact bodyPost_ret (v := .tuple #[.agg #[.int .i64 0, .int .i64 0, .int .i64 0, .int .i64 0, .int .i64 0, .int .i64 0, .int .i64 0, .int .i64 0, .int .i64 0, .string ⟨#[]⟩, .string ⟨#[]⟩, .int .i64 0, .string ⟨#[]⟩], .string ⟨#[]⟩, .int .i64 2]) (by simp [results, Tryz.results43, go_sem, o0, o1, o2, o3, o4, o5, o6, o7, o8, o9, o10, o11, o12]) rfl ⟨by simp, hb⟩
      | false =>
        have o0 := cell_of_row W9 _ 0 _ _ _ (KT.out.1.get 1 rfl)
        have o1 := cell_of_row W9 _ 1 _ _ _ (KT.out.1.get 1 rfl)
        have o2 := cell_of_row W9 _ 2 _ _ _ (KT.out.1.get 1 rfl)
        have o3 := cell_of_row W9 _ 3 _ _ _ (KT.out.1.get 1 rfl)
        have o4 := cell_of_row W9 _ 4 _ _ _ (KT.out.1.get 1 rfl)
        have o5 := cell_of_row W9 _ 5 _ _ _ (KT.out.1.get 1 rfl)
        have o6 := cell_of_row W9 _ 6 _ _ _ (KT.out.1.get 1 rfl)
        have o7 := cell_of_row W9 _ 7 _ _ _ (KT.out.1.get 1 rfl)
        have o8 := cell_of_row W9 _ 8 _ _ _ (KT.out.1.get 1 rfl)
        have o9 := cell_of_row W9 _ 9 _ _ _ (KT.out.1.get 1 rfl)
        have o10 := cell_of_row W9 _ 10 _ _ _ (KT.out.1.get 1 rfl)
        have o11 := cell_of_row W9 _ 11 _ _ _ (KT.out.1.get 1 rfl)
        have o12 := cell_of_row W9 _ 12 _ _ _ (KT.out.1.get 1 rfl)
        go_wp2_with fail
        refine (HM.out _).mono ?_; rintro e x1 ⟨rfl, hb⟩
        have KM := Hd.mk (KT.out.below hb)
        clear hb KT r0 r1
        clear o0 o1 o2 o3 o4 o5 o6 o7 o8 o9 o10 o11 o12
        cases mB with
        | true =>
          go_wp2_with fail
          have KD := Hd.mk (KM.out.below (Below.refl _ _).drew)
          clear KM
          refine st_ 8 (S := fun W_ => (w.heap.size < W_.heap.size ∧ Below w.heap.size w W_) ∧ W_.heap[bo]? = some (.cells #[.int .i64 s0, .int .i64 s1, .int .i64 k, .int .i64 a0, .int .i64 a1, .int .i64 i0, .int .i64 i1, .int .i64 t0, .int .i64 t1, .string nm, .string nw, .int .i64 off, .string dt] 36 (0, 0)) ∧ Reads (w.heap.size + 1) y9 false W_) (ds := []) (⟨⟨KD.out.1.lt 2 rfl, KD.out.1.2⟩, KD.out.1.get 1 rfl, KD.out.2.1⟩) (fun hHeld => ?_)
          refine tk_ 0 (some 52) (.agg #[.int .i64 s0, .int .i64 s1, .int .i64 k, .int .i64 a0, .int .i64 a1, .int .i64 i0, .int .i64 i1, .int .i64 t0, .int .i64 t1, .string nm, .string nw, .int .i64 off, .string dt]) rfl (fun w' h => run_load_mid 36 _ rfl bo 0 #[.int .i64 s0, .int .i64 s1, .int .i64 k, .int .i64 a0, .int .i64 a1, .int .i64 i0, .int .i64 i1, .int .i64 t0, .int .i64 t1, .string nm, .string nw, .int .i64 off, .string dt].toList rfl _ _ _ h.2.1 (fun j v hj => by simpa using hj) _ Tryz.underlying36 rfl size_op13) hHeld ?_
          refine pu_ 1 (some 53) ?_
          refine pu_ 2 (some 54) ?_
          refine pu_ 3 (some 55) ?_
          refine tk_ 4 (some 56) (.string y9) rfl (fun w' h => by have c := cell_of_row w' _ 0 _ _ _ h.2.2; go_simp) hHeld ?_
          refine one_ (i := 5) (N := none) #[true, true, true, true, true, true, false, false] rfl rfl (by kernel_rfl) (by decide) (fun K hK => ?_)
          refine skip_ (by rfl) rfl (run_store_row _ _ _ rfl w.heap.size #[.int .i64 s0, .int .i64 s1, .int .i64 k, .int .i64 a0, .int .i64 a1, .int .i64 i0, .int .i64 i1, .int .i64 t0, .int .i64 t1, .string nm, .string nw, .int .i64 off, .string dt] rfl rfl 36 #[.int .i64 0, .int .i64 0, .int .i64 0, .int .i64 0, .int .i64 0, .int .i64 0, .int .i64 0, .int .i64 0, .int .i64 0, .string ⟨#[]⟩, .string ⟨#[]⟩, .int .i64 0, .string ⟨#[]⟩] (KD.out.1.get 2 rfl) size_op13 rfl (c8_one ..)) ?_
          refine hK.out _ _ (⟨⟨by simpa using hHeld.1.1, below_setRow hHeld.1.2 (Nat.le_refl _) _⟩, (setRow_other _ _ _ _ (by have := KD.out.2.2.1; omega)).trans hHeld.2.1, (setRow_other _ _ _ _ (by omega)).trans hHeld.2.2⟩) (fun hHeld => ?_)
          clear hK K
          refine pu_ 6 (some 3) ?_
          refine pu_ 7 (some 4) ?_
          refine done_ (by kernel_rfl) ?_
          have hz := setRow_heap _ _ _ #[.int .i64 s0, .int .i64 s1, .int .i64 k, .int .i64 a0, .int .i64 a1, .int .i64 i0, .int .i64 i1, .int .i64 t0, .int .i64 t1, .string nm, .string nw, .int .i64 off, .string dt] _ _ (KD.out.1.get 2 rfl)
          have hb := below_setRow KD.out.1.2 (Nat.le_refl _) #[.int .i64 s0, .int .i64 s1, .int .i64 k, .int .i64 a0, .int .i64 a1, .int .i64 i0, .int .i64 i1, .int .i64 t0, .int .i64 t1, .string nm, .string nw, .int .i64 off, .string dt]
          generalize World.setRow _ w.heap.size #[.int .i64 s0, .int .i64 s1, .int .i64 k, .int .i64 a0, .int .i64 a1, .int .i64 i0, .int .i64 i1, .int .i64 t0, .int .i64 t1, .string nm, .string nw, .int .i64 off, .string dt] = WF at *
          go_wp2_with fail
          have o0 := cell_of_row WF _ 0 _ _ _ (hz)
          have o1 := cell_of_row WF _ 1 _ _ _ (hz)
          have o2 := cell_of_row WF _ 2 _ _ _ (hz)
          have o3 := cell_of_row WF _ 3 _ _ _ (hz)
          have o4 := cell_of_row WF _ 4 _ _ _ (hz)
          have o5 := cell_of_row WF _ 5 _ _ _ (hz)
          have o6 := cell_of_row WF _ 6 _ _ _ (hz)
          have o7 := cell_of_row WF _ 7 _ _ _ (hz)
          have o8 := cell_of_row WF _ 8 _ _ _ (hz)
          have o9 := cell_of_row WF _ 9 _ _ _ (hz)
          have o10 := cell_of_row WF _ 10 _ _ _ (hz)
          have o11 := cell_of_row WF _ 11 _ _ _ (hz)
          have o12 := cell_of_row WF _ 12 _ _ _ (hz)
          exact bodyPost_ret (v := .tuple #[.agg #[.int .i64 s0, .int .i64 s1, .int .i64 k, .int .i64 a0, .int .i64 a1, .int .i64 i0, .int .i64 i1, .int .i64 t0, .int .i64 t1, .string nm, .string nw, .int .i64 off, .string dt], .string y9, .int .i64 0]) (by simp [results, Tryz.results43, go_sem, o0, o1, o2, o3, o4, o5, o6, o7, o8, o9, o10, o11, o12]) rfl ⟨by simp, hb⟩
        | false =>
          go_wp2_with (first | ((with_reducible refine gate_store (t := 36) rfl ?_); refine wpList_store_row rfl _ _ _ rfl w.heap.size #[.int .i64 0, .int .i64 0, .int .i64 0, .int .i64 0, .int .i64 0, .int .i64 0, .int .i64 0, .int .i64 0, .int .i64 0, .string ⟨#[]⟩, .string ⟨#[]⟩, .int .i64 0, .string ⟨#[]⟩] rfl rfl 36 #[.int .i64 0, .int .i64 0, .int .i64 0, .int .i64 0, .int .i64 0, .int .i64 0, .int .i64 0, .int .i64 0, .int .i64 0, .string ⟨#[]⟩, .string ⟨#[]⟩, .int .i64 0, .string ⟨#[]⟩] (KM.out.1.get 2 rfl) size_op13 rfl z13_one ?_))
          have hz : (x1.setRow w.heap.size #[.int .i64 0, .int .i64 0, .int .i64 0, .int .i64 0, .int .i64 0, .int .i64 0, .int .i64 0, .int .i64 0, .int .i64 0, .string ⟨#[]⟩, .string ⟨#[]⟩, .int .i64 0, .string ⟨#[]⟩]).heap[w.heap.size]? = some (.cells #[.int .i64 0, .int .i64 0, .int .i64 0, .int .i64 0, .int .i64 0, .int .i64 0, .int .i64 0, .int .i64 0, .int .i64 0, .string ⟨#[]⟩, .string ⟨#[]⟩, .int .i64 0, .string ⟨#[]⟩] 36 (0, 0)) := setRow_heap _ _ _ _ _ _ (KM.out.1.get 2 rfl)
          have hb := below_setRow KM.out.1.2 (Nat.le_refl _) #[.int .i64 0, .int .i64 0, .int .i64 0, .int .i64 0, .int .i64 0, .int .i64 0, .int .i64 0, .int .i64 0, .int .i64 0, .string ⟨#[]⟩, .string ⟨#[]⟩, .int .i64 0, .string ⟨#[]⟩]
          generalize x1.setRow w.heap.size #[.int .i64 0, .int .i64 0, .int .i64 0, .int .i64 0, .int .i64 0, .int .i64 0, .int .i64 0, .int .i64 0, .int .i64 0, .string ⟨#[]⟩, .string ⟨#[]⟩, .int .i64 0, .string ⟨#[]⟩] = WF at *
          have o0 := cell_of_row WF _ 0 _ _ _ (hz)
          have o1 := cell_of_row WF _ 1 _ _ _ (hz)
          have o2 := cell_of_row WF _ 2 _ _ _ (hz)
          have o3 := cell_of_row WF _ 3 _ _ _ (hz)
          have o4 := cell_of_row WF _ 4 _ _ _ (hz)
          have o5 := cell_of_row WF _ 5 _ _ _ (hz)
          have o6 := cell_of_row WF _ 6 _ _ _ (hz)
          have o7 := cell_of_row WF _ 7 _ _ _ (hz)
          have o8 := cell_of_row WF _ 8 _ _ _ (hz)
          have o9 := cell_of_row WF _ 9 _ _ _ (hz)
          have o10 := cell_of_row WF _ 10 _ _ _ (hz)
          have o11 := cell_of_row WF _ 11 _ _ _ (hz)
          have o12 := cell_of_row WF _ 12 _ _ _ (hz)
          exact bodyPost_ret (v := .tuple #[.agg #[.int .i64 0, .int .i64 0, .int .i64 0, .int .i64 0, .int .i64 0, .int .i64 0, .int .i64 0, .int .i64 0, .int .i64 0, .string ⟨#[]⟩, .string ⟨#[]⟩, .int .i64 0, .string ⟨#[]⟩], .string ⟨#[]⟩, .int .i64 2]) (by simp [results, Tryz.results43, go_sem, o0, o1, o2, o3, o4, o5, o6, o7, o8, o9, o10, o11, o12]) rfl ⟨by simp, hb⟩
end Go.Proofs.YtcgkkjfbdappoaaGreat

/- op.Take: what it answers, and that it is what was put: plain laws. -/
namespace Go.Proofs.YtcgkkjfbdappoaaGreat
open Go.RowKit Go.Proofs.YtcgkkjfbdappoaaGreatW.PrintWords Go.Proofs.YtcgkkjfbdappoaaGreatW.PrintLast Go.Proofs.YtcgkkjfbdappoaaGreatW.PrintMore Pk
set_option linter.unusedVariables false
set_option linter.unusedSimpArgs false

/-- An operation. -/
structure OpV where
  t : Int
  r : Int
  k : Int
  a0 : Int
  a1 : Int
  i0 : Int
  i1 : Int
  t0 : Int
  t1 : Int
  nm : ByteArray
  nw : ByteArray
  off : Int
  dt : ByteArray
namespace OpV
def cells (o : OpV) : Array Value := #[.int .i64 o.t, .int .i64 o.r, .int .i64 o.k, .int .i64 o.a0, .int .i64 o.a1, .int .i64 o.i0, .int .i64 o.i1, .int .i64 o.t0, .int .i64 o.t1, .string o.nm, .string o.nw, .int .i64 o.off, .string o.dt]
def may (o : OpV) : Bool := mayO o.t o.r o.k o.a0 o.a1 o.i0 o.i1 o.t0 o.t1 o.nm o.nw o.off o.dt
def put (o : OpV) : ByteArray := putO o.t o.r o.k o.a0 o.a1 o.i0 o.i1 o.t0 o.t1 o.nm o.nw o.off o.dt
structure Fine (o : OpV) : Prop where
  rng : OpRng o.t o.r o.k o.a0 o.a1 o.i0 o.i1 o.t0 o.t1 o.off
  nm : o.nm.size ≤ 140737488355328
  nw : o.nw.size ≤ 140737488355328
  dt : o.dt.size ≤ 140737488355328
def zero : OpV := ⟨0, 0, 0, 0, 0, 0, 0, 0, 0, ⟨#[]⟩, ⟨#[]⟩, 0, ⟨#[]⟩⟩
end OpV
/-- A number, a stamp, a text with which a string begins; its rest; 2 where there is none. -/
def tiT (s : ByteArray) : Int × ByteArray × Int :=
  match tk s.data.toList 0 0 with
  | none => (0, ⟨#[]⟩, 2)
  | some (n, r) => (unzig n, ⟨r.toArray⟩, 0)
def tsT (s : ByteArray) : Int × Int × ByteArray × Int :=
  match tkS s.data.toList with
  | none => (0, 0, ⟨#[]⟩, 2)
  | some (t, r, q) => (t, r, ⟨q.toArray⟩, 0)
def txT (s : ByteArray) : ByteArray × ByteArray × Int :=
  match tx 64 (tk s.data.toList 0 0) with
  | none => (⟨#[]⟩, ⟨#[]⟩, 2)
  | some (a, b) => (⟨a.toArray⟩, ⟨b.toArray⟩, 0)
theorem take_i (s : ByteArray) (hs : s.size ≤ 140737488355328) (w : World) : Calls Tryz.prog 41 #[.string s] w fun e w' => e = .returned (.tuple #[.int .i64 (tiT s).1, .string (tiT s).2.1, .int .i64 (tiT s).2.2]) ∧ Below w.heap.size w w' := by
  have h := pack_TakeInt s (by unfold maxLen; omega) w
  unfold tiT
  cases hT : tk s.data.toList 0 0 with
  | none => rw [hT] at h; exact h
  | some p => rw [hT] at h; exact h
theorem take_s (s : ByteArray) (hs : s.size ≤ 140737488355328) (w : World) : Calls Tryz.prog 71 #[.string s] w fun e w' => e = .returned (.tuple #[.agg #[.int .i64 (tsT s).1, .int .i64 (tsT s).2.1], .string (tsT s).2.2.1, .int .i64 (tsT s).2.2.2]) ∧ Below w.heap.size w w' := by
  have h := stamp_Take s hs w
  unfold tsT
  cases hT : tkS s.data.toList with
  | none => rw [hT] at h; exact h
  | some p => rw [hT] at h; exact h
theorem take_x (s : ByteArray) (hs : s.size ≤ 140737488355328) (w : World) : Calls Tryz.prog 73 #[.string s] w fun e w' => e = .returned (.tuple #[.string (txT s).1, .string (txT s).2.1, .int .i64 (txT s).2.2]) ∧ Below w.heap.size w w' := by
  have h := op_text s hs w
  unfold txT
  cases hT : tx 64 (tk s.data.toList 0 0) with
  | none => rw [hT] at h; exact h
  | some p => rw [hT] at h; exact h
theorem tk_fits {l : List UInt8} {n : Nat} {r : List UInt8} (h : tk l 0 0 = some (n, r)) : n < 18446744073709551616 := tk_bd l 0 0 n r (by decide) (by decide) h
theorem tiT_rest (s : ByteArray) : (tiT s).2.1.size ≤ s.size ∧ Rng (tiT s).1 := by
  unfold tiT
  cases hT : tk s.data.toList 0 0 with
  | none => exact ⟨Nat.zero_le _, by constructor <;> decide⟩
  | some p =>
    obtain ⟨n, r⟩ := p
    have h1 := tk_len _ _ _ _ _ hT
    have hsl : s.data.toList.length = s.size := rfl
    exact ⟨by show (⟨r.toArray⟩ : ByteArray).size ≤ _; rw [size_of]; omega, unzig_bd (tk_fits hT)⟩
theorem tiT_ok {s : ByteArray} (h : (tiT s).2.2 = 0) : strOfNums (num (zig (tiT s).1)) ++ (tiT s).2.1 = s := by
  unfold tiT at h ⊢
  cases hT : tk s.data.toList 0 0 with
  | none => rw [hT] at h; exact absurd h (by decide)
  | some p =>
    obtain ⟨n, r⟩ := p
    show strOfNums (num (zig (unzig n))) ++ ⟨r.toArray⟩ = s
    rw [zig_unzig, numB_str, mk_append, ← tk_bytes hT]
theorem tiT_put {n : Int} (hn : Rng n) (s : ByteArray) : tiT (strOfNums (num (zig n)) ++ s) = (n, s, 0) := by
  unfold tiT
  rw [num_list, tk_back (zig_lt hn.1 hn.2), ]
  show (unzig (zig n), (⟨s.data.toList.toArray⟩ : ByteArray), (0 : Int)) = _
  rw [unzig_zig]
theorem tkS_putO (t r : Int) (ht : Rng t) (hr : Rng r) (s : ByteArray) :
    tkS (putS t r ++ s).data.toList = if mayS t r = true then some (t, r, s.data.toList) else none := by
  have e : (putS t r ++ s).data.toList = numB (zig t) ++ (numB (zig r) ++ s.data.toList) := by
    unfold putS; rw [append_list, append_list, numB_str, numB_str]; simp
  rw [e]
  unfold tkS
  rw [tk_back (zig_lt ht.1 ht.2)]
  show (match tk (numB (zig r) ++ s.data.toList) 0 0 with | none => none | some (m, q) => _) = _
  rw [tk_back (zig_lt hr.1 hr.2), unzig_zig]
  show (if mayS t (unzig (zig r)) = true then some (t, unzig (zig r), s.data.toList) else none) = _
  rw [unzig_zig]
theorem tsT_put {t r : Int} (ht : Rng t) (hr : Rng r) (s : ByteArray) : tsT (putS t r ++ s) = if mayS t r = true then (t, r, s, 0) else (0, 0, ⟨#[]⟩, 2) := by
  unfold tsT
  rw [tkS_putO t r ht hr]
  cases mayS t r <;> rfl
theorem tkS_bytes {s : ByteArray} {t r : Int} {q : List UInt8} (h : tkS s.data.toList = some (t, r, q)) :
    putS t r ++ ⟨q.toArray⟩ = s ∧ mayS t r = true ∧ Rng t ∧ Rng r ∧ q.length ≤ s.size := by
  unfold tkS at h
  cases hT : tk s.data.toList 0 0 with
  | none => rw [hT] at h; simp at h
  | some p =>
    obtain ⟨n, r1⟩ := p
    rw [hT] at h
    change (match tk r1 0 0 with | none => none | some (m, q) => if mayS (unzig n) (unzig m) = true then some (unzig n, unzig m, q) else none) = _ at h
    cases hT2 : tk r1 0 0 with
    | none => rw [hT2] at h; simp at h
    | some p2 =>
      obtain ⟨m, q2⟩ := p2
      rw [hT2] at h
      change (if mayS (unzig n) (unzig m) = true then some (unzig n, unzig m, q2) else none) = _ at h
      split at h
      · rename_i hm
        simp only [Option.some.injEq, Prod.mk.injEq] at h
        obtain ⟨rfl, rfl, rfl⟩ := h
        have b1 := tk_bytes hT
        have b2 := tk_bytes hT2
        have l1 := tk_len _ _ _ _ _ hT
        have l2 := tk_len _ _ _ _ _ hT2
        have hsl : s.data.toList.length = s.size := rfl
        refine ⟨?_, hm, unzig_bd (tk_fits hT), unzig_bd (tk_fits hT2), by omega⟩
        unfold putS
        rw [zig_unzig, zig_unzig, numB_str, numB_str, mk_append, mk_append, List.append_assoc, ← b2, ← b1]
      · simp at h
theorem tsT_rest (s : ByteArray) : (tsT s).2.2.1.size ≤ s.size ∧ Rng (tsT s).1 ∧ Rng (tsT s).2.1 := by
  unfold tsT
  cases hT : tkS s.data.toList with
  | none => exact ⟨Nat.zero_le _, by constructor <;> decide, by constructor <;> decide⟩
  | some p =>
    obtain ⟨t, r, q⟩ := p
    obtain ⟨-, -, h1, h2, h3⟩ := tkS_bytes hT
    exact ⟨by show (⟨q.toArray⟩ : ByteArray).size ≤ _; rw [size_of]; exact h3, h1, h2⟩
theorem tsT_ok {s : ByteArray} (h : (tsT s).2.2.2 = 0) : putS (tsT s).1 (tsT s).2.1 ++ (tsT s).2.2.1 = s := by
  unfold tsT at h ⊢
  cases hT : tkS s.data.toList with
  | none => rw [hT] at h; exact absurd h (by decide)
  | some p =>
    obtain ⟨t, r, q⟩ := p
    exact (tkS_bytes hT).1
theorem txT_rest (s : ByteArray) : (txT s).2.1.size ≤ s.size ∧ (txT s).1.size ≤ 64 := by
  unfold txT
  cases hT : tk s.data.toList 0 0 with
  | none => exact ⟨Nat.zero_le _, by decide⟩
  | some p =>
    obtain ⟨n, r⟩ := p
    have h1 := tk_len _ _ _ _ _ hT
    have hsl : s.data.toList.length = s.size := rfl
    by_cases hc : (64 : Int) < 0 ∨ (64 : Int) < n ∨ r.length < n
    · simp only [tx, if_pos hc]
      exact ⟨Nat.zero_le _, by decide⟩
    · simp only [tx, if_neg hc]
      constructor
      · show (⟨(r.drop n).toArray⟩ : ByteArray).size ≤ _
        rw [size_of, List.length_drop]; omega
      · show (⟨(r.take n).toArray⟩ : ByteArray).size ≤ _
        rw [size_of, List.length_take]; omega
theorem txT_ok {s : ByteArray} (h : (txT s).2.2 = 0) : strOfNums (num (txT s).1.size) ++ (txT s).1 ++ (txT s).2.1 = s := by
  unfold txT at h ⊢
  cases hT : tk s.data.toList 0 0 with
  | none => rw [hT] at h; exact absurd h (by decide)
  | some p =>
    obtain ⟨n, r⟩ := p
    rw [hT] at h
    by_cases hc : (64 : Int) < 0 ∨ (64 : Int) < n ∨ r.length < n
    · simp only [tx, if_pos hc] at h
      exact absurd h (by decide)
    · simp only [tx, if_neg hc]
      have hl : (r.take n).length = n := by rw [List.length_take]; omega
      rw [size_of, hl, numB_str, mk_append, mk_append, List.append_assoc, List.take_append_drop, ← tk_bytes hT]
theorem txT_put {x : ByteArray} (hx : x.size ≤ 140737488355328) (s : ByteArray) : txT (strOfNums (num x.size) ++ x ++ s) = if x.size ≤ 64 then (x, s, 0) else (⟨#[]⟩, ⟨#[]⟩, 2) := by
  unfold txT
  have e : (strOfNums (num x.size) ++ x ++ s).data.toList = numB x.size ++ (x.data.toList ++ s.data.toList) := by
    rw [append_list, append_list, numB_str]; simp
  rw [e, tk_back (by omega)]
  have hl : x.data.toList.length = x.size := rfl
  by_cases h : x.size ≤ 64
  · have hc : ¬ ((64 : Int) < 0 ∨ (64 : Int) < x.size ∨ (x.data.toList ++ s.data.toList).length < x.size) := by
      rw [List.length_append]; omega
    simp only [tx, if_neg hc, if_pos h]
    rw [← hl, List.take_left' rfl, List.drop_left' rfl]
  · have hc : ((64 : Int) < 0 ∨ (64 : Int) < x.size ∨ (x.data.toList ++ s.data.toList).length < x.size) := by omega
    simp only [tx, if_pos hc, if_neg h]
/-- The rests, one behind the other. -/
def y1 (b : ByteArray) : ByteArray := (tiT b).2.1
def y2 (b : ByteArray) : ByteArray := (tsT (y1 b)).2.2.1
def y3 (b : ByteArray) : ByteArray := (tsT (y2 b)).2.2.1
def y4 (b : ByteArray) : ByteArray := (tsT (y3 b)).2.2.1
def y5 (b : ByteArray) : ByteArray := (tsT (y4 b)).2.2.1
def y6 (b : ByteArray) : ByteArray := (txT (y5 b)).2.1
def y7 (b : ByteArray) : ByteArray := (txT (y6 b)).2.1
def y8 (b : ByteArray) : ByteArray := (tiT (y7 b)).2.1
def y9 (b : ByteArray) : ByteArray := (txT (y8 b)).2.1
theorem y_sizes (b : ByteArray) : (y1 b).size ≤ b.size ∧ (y2 b).size ≤ b.size ∧ (y3 b).size ≤ b.size ∧ (y4 b).size ≤ b.size ∧ (y5 b).size ≤ b.size ∧ (y6 b).size ≤ b.size ∧ (y7 b).size ≤ b.size ∧ (y8 b).size ≤ b.size ∧ (y9 b).size ≤ b.size := by
  have h1 : (y1 b).size ≤ b.size := (tiT_rest b).1
  have h2 : (y2 b).size ≤ b.size := Nat.le_trans (tsT_rest (y1 b)).1 h1
  have h3 : (y3 b).size ≤ b.size := Nat.le_trans (tsT_rest (y2 b)).1 h2
  have h4 : (y4 b).size ≤ b.size := Nat.le_trans (tsT_rest (y3 b)).1 h3
  have h5 : (y5 b).size ≤ b.size := Nat.le_trans (tsT_rest (y4 b)).1 h4
  have h6 : (y6 b).size ≤ b.size := Nat.le_trans (txT_rest (y5 b)).1 h5
  have h7 : (y7 b).size ≤ b.size := Nat.le_trans (txT_rest (y6 b)).1 h6
  have h8 : (y8 b).size ≤ b.size := Nat.le_trans (tiT_rest (y7 b)).1 h7
  have h9 : (y9 b).size ≤ b.size := Nat.le_trans (txT_rest (y8 b)).1 h8
  exact ⟨h1, h2, h3, h4, h5, h6, h7, h8, h9⟩
/-- What Take reads, well or not. -/
def rawV (b : ByteArray) : OpV := ⟨(tsT (y1 b)).1, (tsT (y1 b)).2.1, (tiT b).1, (tsT (y2 b)).1, (tsT (y2 b)).2.1, (tsT (y3 b)).1, (tsT (y3 b)).2.1, (tsT (y4 b)).1, (tsT (y4 b)).2.1, (txT (y5 b)).1, (txT (y6 b)).1, (tiT (y7 b)).1, (txT (y8 b)).1⟩
def rawB (b : ByteArray) : Bool := (((((((((false || (tiT b).2.2 != 0) || (tsT (y1 b)).2.2.2 != 0) || (tsT (y2 b)).2.2.2 != 0) || (tsT (y3 b)).2.2.2 != 0) || (tsT (y4 b)).2.2.2 != 0) || (txT (y5 b)).2.2 != 0) || (txT (y6 b)).2.2 != 0) || (tiT (y7 b)).2.2 != 0) || (txT (y8 b)).2.2 != 0)
/-- The operation with which a string begins, and what is behind. -/
def takeO (b : ByteArray) : Option (OpV × ByteArray) :=
  if (rawB b || !(rawV b).may) = true then none else some (rawV b, y9 b)
def toV : Option (OpV × ByteArray) → Value
  | none => .tuple #[.agg OpV.zero.cells, .string ⟨#[]⟩, .int .i64 2]
  | some (o, r) => .tuple #[.agg o.cells, .string r, .int .i64 0]
theorem le64 {n : Nat} (h : n ≤ 64) : n ≤ 140737488355328 := by omega
theorem rawV_fine (b : ByteArray) : (rawV b).Fine ∧ (rawV b).nm.size ≤ 64 ∧ (rawV b).nw.size ≤ 64 ∧ (rawV b).dt.size ≤ 64 := by
  obtain ⟨-, r1, r2⟩ := tsT_rest (y1 b)
  obtain ⟨-, r3, r4⟩ := tsT_rest (y2 b)
  obtain ⟨-, r5, r6⟩ := tsT_rest (y3 b)
  obtain ⟨-, r7, r8⟩ := tsT_rest (y4 b)
  have r9 := (tiT_rest b).2
  have r10 := (tiT_rest (y7 b)).2
  have x1 := (txT_rest (y5 b)).2
  have x2 := (txT_rest (y6 b)).2
  have x3 := (txT_rest (y8 b)).2
  unfold rawV
  generalize tsT (y1 b) = z1 at *
  generalize tsT (y2 b) = z2 at *
  generalize tsT (y3 b) = z3 at *
  generalize tsT (y4 b) = z4 at *
  generalize tiT b = z5 at *
  generalize tiT (y7 b) = z6 at *
  generalize txT (y5 b) = z7 at *
  generalize txT (y6 b) = z8 at *
  generalize txT (y8 b) = z9 at *
  exact ⟨⟨⟨r1, r2, r9, r3, r4, r5, r6, r7, r8, r10⟩, le64 x1, le64 x2, le64 x3⟩, x1, x2, x3⟩
theorem op_Take (b : ByteArray) (hb : b.size ≤ 140737488355328) (w : World) : Calls Tryz.prog 43 #[.string b] w fun e w' => e = .returned (toV (takeO b)) ∧ Below w.heap.size w w' := by
  obtain ⟨l1, l2, l3, l4, l5, l6, l7, l8, l9⟩ := y_sizes b
  have hd := (rawV_fine b).1.dt
  have q1 : ∀ w, Calls Tryz.prog 41 #[.string (b)] w fun e w' => e = .returned (.tuple #[.int .i64 (rawV b).k, .string (y1 b), .int .i64 (tiT b).2.2]) ∧ Below w.heap.size w w' := by
    intro w
    have h := take_i b hb w
    simpa only [rawV, y1] using h
  have q2 : ∀ w, Calls Tryz.prog 71 #[.string (y1 b)] w fun e w' => e = .returned (.tuple #[.agg #[.int .i64 (rawV b).t, .int .i64 (rawV b).r], .string (y2 b), .int .i64 (tsT (y1 b)).2.2.2]) ∧ Below w.heap.size w w' := by
    intro w
    have h := take_s (y1 b) (Nat.le_trans l1 hb) w
    simpa only [rawV, y2] using h
  have q3 : ∀ w, Calls Tryz.prog 71 #[.string (y2 b)] w fun e w' => e = .returned (.tuple #[.agg #[.int .i64 (rawV b).a0, .int .i64 (rawV b).a1], .string (y3 b), .int .i64 (tsT (y2 b)).2.2.2]) ∧ Below w.heap.size w w' := by
    intro w
    have h := take_s (y2 b) (Nat.le_trans l2 hb) w
    simpa only [rawV, y3] using h
  have q4 : ∀ w, Calls Tryz.prog 71 #[.string (y3 b)] w fun e w' => e = .returned (.tuple #[.agg #[.int .i64 (rawV b).i0, .int .i64 (rawV b).i1], .string (y4 b), .int .i64 (tsT (y3 b)).2.2.2]) ∧ Below w.heap.size w w' := by
    intro w
    have h := take_s (y3 b) (Nat.le_trans l3 hb) w
    simpa only [rawV, y4] using h
  have q5 : ∀ w, Calls Tryz.prog 71 #[.string (y4 b)] w fun e w' => e = .returned (.tuple #[.agg #[.int .i64 (rawV b).t0, .int .i64 (rawV b).t1], .string (y5 b), .int .i64 (tsT (y4 b)).2.2.2]) ∧ Below w.heap.size w w' := by
    intro w
    have h := take_s (y4 b) (Nat.le_trans l4 hb) w
    simpa only [rawV, y5] using h
  have q6 : ∀ w, Calls Tryz.prog 73 #[.string (y5 b)] w fun e w' => e = .returned (.tuple #[.string (rawV b).nm, .string (y6 b), .int .i64 (txT (y5 b)).2.2]) ∧ Below w.heap.size w w' := by
    intro w
    have h := take_x (y5 b) (Nat.le_trans l5 hb) w
    simpa only [rawV, y6] using h
  have q7 : ∀ w, Calls Tryz.prog 73 #[.string (y6 b)] w fun e w' => e = .returned (.tuple #[.string (rawV b).nw, .string (y7 b), .int .i64 (txT (y6 b)).2.2]) ∧ Below w.heap.size w w' := by
    intro w
    have h := take_x (y6 b) (Nat.le_trans l6 hb) w
    simpa only [rawV, y7] using h
  have q8 : ∀ w, Calls Tryz.prog 41 #[.string (y7 b)] w fun e w' => e = .returned (.tuple #[.int .i64 (rawV b).off, .string (y8 b), .int .i64 (tiT (y7 b)).2.2]) ∧ Below w.heap.size w w' := by
    intro w
    have h := take_i (y7 b) (Nat.le_trans l7 hb) w
    simpa only [rawV, y8] using h
  have q9 : ∀ w, Calls Tryz.prog 73 #[.string (y8 b)] w fun e w' => e = .returned (.tuple #[.string (rawV b).dt, .string (y9 b), .int .i64 (txT (y8 b)).2.2]) ∧ Below w.heap.size w w' := by
    intro w
    have h := take_x (y8 b) (Nat.le_trans l8 hb) w
    simpa only [rawV, y9] using h
  have h := Take_walk b (rawV b).k (rawV b).t (rawV b).r (rawV b).a0 (rawV b).a1 (rawV b).i0 (rawV b).i1 (rawV b).t0 (rawV b).t1 (rawV b).off (rawV b).nm (rawV b).nw (rawV b).dt
    (y1 b) (y2 b) (y3 b) (y4 b) (y5 b) (y6 b) (y7 b) (y8 b) (y9 b) (tiT b).2.2 (tsT (y1 b)).2.2.2 (tsT (y2 b)).2.2.2 (tsT (y3 b)).2.2.2 (tsT (y4 b)).2.2.2 (txT (y5 b)).2.2 (txT (y6 b)).2.2 (tiT (y7 b)).2.2 (txT (y8 b)).2.2 (rawV b).may w
    ⟨q1⟩ ⟨q2⟩ ⟨q3⟩ ⟨q4⟩ ⟨q5⟩ ⟨q6⟩ ⟨q7⟩ ⟨q8⟩ ⟨q9⟩
    ⟨op_May _ _ _ _ _ _ _ _ _ _ _ _ _ hd⟩ (rawB b) ⟨rfl⟩
  refine h.mono fun e w' h => ⟨h.1.trans ?_, h.2⟩
  unfold takeO
  by_cases hc : (rawB b || !(rawV b).may) = true
  · rw [if_pos hc, if_pos hc]; rfl
  · rw [if_neg hc, if_neg hc]; rfl
set_option maxHeartbeats 2000000 in
theorem put_app (o : OpV) (s : ByteArray) : o.put ++ s = strOfNums (num (zig o.k)) ++ (putS o.t o.r ++ (putS o.a0 o.a1 ++ (putS o.i0 o.i1 ++ (putS o.t0 o.t1 ++ (strOfNums (num o.nm.size) ++ o.nm ++ (strOfNums (num o.nw.size) ++ o.nw ++ (strOfNums (num (zig o.off)) ++ (strOfNums (num o.dt.size) ++ o.dt ++ s)))))))) := by
  unfold OpV.put putO
  simp only [ByteArray.append_assoc]
set_option maxHeartbeats 2000000 in
theorem takeO_very {s : ByteArray} {o : OpV} {r : ByteArray} (h : takeO s = some (o, r)) : o.put ++ r = s ∧ o.may = true ∧ o.Fine ∧ r.size ≤ s.size := by
  unfold takeO at h
  split at h
  · cases h
  · rename_i hc
    simp only [Option.some.injEq, Prod.mk.injEq] at h
    obtain ⟨rfl, rfl⟩ := h
    have hf := rawV_fine s
    rw [Bool.not_eq_true, Bool.or_eq_false_iff] at hc
    refine ⟨?_, by simpa using hc.2, hf.1, (y_sizes s).2.2.2.2.2.2.2.2⟩
    have hb : rawB s = false := hc.1
    clear hc hf
    unfold rawB at hb
    simp only [Bool.or_eq_false_iff, bne_eq_false_iff_eq] at hb
    obtain ⟨⟨⟨⟨⟨⟨⟨⟨⟨-, c1⟩, c2⟩, c3⟩, c4⟩, c5⟩, c6⟩, c7⟩, c8⟩, c9⟩ := hb
    rw [put_app]
    unfold rawV y9
    dsimp only
    rw [txT_ok c9, show y8 s = (tiT (y7 s)).2.1 from rfl, tiT_ok c8, show y7 s = (txT (y6 s)).2.1 from rfl, txT_ok c7, show y6 s = (txT (y5 s)).2.1 from rfl, txT_ok c6, show y5 s = (tsT (y4 s)).2.2.1 from rfl, tsT_ok c5, show y4 s = (tsT (y3 s)).2.2.1 from rfl, tsT_ok c4, show y3 s = (tsT (y2 s)).2.2.1 from rfl, tsT_ok c3, show y2 s = (tsT (y1 s)).2.2.1 from rfl, tsT_ok c2, show y1 s = (tiT s).2.1 from rfl, tiT_ok c1]
set_option maxHeartbeats 2000000 in
theorem mayO_parts {t r k a0 a1 i0 i1 t0 t1 : Int} {nm nw : ByteArray} {off : Int} {dt : ByteArray} (h : mayO t r k a0 a1 i0 i1 t0 t1 nm nw off dt = true) : mayS t r = true ∧ mayS a0 a1 = true ∧ mayS i0 i1 = true ∧ mayS t0 t1 = true := by
  have z : ∀ a b, isZ a b = true → mayS a b = true := fun a b h => by
    unfold isZ at h
    simp only [Bool.and_eq_true, beq_iff_eq] at h
    exact decide_eq_true (.inl h)
  have hs : mayS t r = true := by
    unfold mayO at h
    simp only [Bool.and_eq_true] at h
    exact h.1.1.2
  refine ⟨hs, ?_⟩
  rcases k_cases k with rfl | rfl | rfl | rfl | rfl | rfl | rfl | rfl | rfl | rfl | h0
  all_goals first
    | (rw [mayO_zero h0] at h; cases h)
    | (simp [mayO, fieldsN, rowsOk, rowOk] at h; refine ⟨?_, ?_, ?_⟩ <;> first | (simp_all; done) | exact z _ _ (by simp_all))
theorem takeO_put {o : OpV} (ho : o.Fine) (s : ByteArray) : takeO (o.put ++ s) = if o.may = true then some (o, s) else none := by
  obtain ⟨⟨b1, b2, b3, b4, b5, b6, b7, b8, b9, b10⟩, n1, n2, n3⟩ := ho
  rw [put_app]
  have e1 := tiT_put b3 (putS o.t o.r ++ (putS o.a0 o.a1 ++ (putS o.i0 o.i1 ++ (putS o.t0 o.t1 ++ (strOfNums (num o.nm.size) ++ o.nm ++ (strOfNums (num o.nw.size) ++ o.nw ++ (strOfNums (num (zig o.off)) ++ (strOfNums (num o.dt.size) ++ o.dt ++ s))))))))
  have e2 := tsT_put b1 b2 (putS o.a0 o.a1 ++ (putS o.i0 o.i1 ++ (putS o.t0 o.t1 ++ (strOfNums (num o.nm.size) ++ o.nm ++ (strOfNums (num o.nw.size) ++ o.nw ++ (strOfNums (num (zig o.off)) ++ (strOfNums (num o.dt.size) ++ o.dt ++ s)))))))
  have e3 := tsT_put b4 b5 (putS o.i0 o.i1 ++ (putS o.t0 o.t1 ++ (strOfNums (num o.nm.size) ++ o.nm ++ (strOfNums (num o.nw.size) ++ o.nw ++ (strOfNums (num (zig o.off)) ++ (strOfNums (num o.dt.size) ++ o.dt ++ s))))))
  have e4 := tsT_put b6 b7 (putS o.t0 o.t1 ++ (strOfNums (num o.nm.size) ++ o.nm ++ (strOfNums (num o.nw.size) ++ o.nw ++ (strOfNums (num (zig o.off)) ++ (strOfNums (num o.dt.size) ++ o.dt ++ s)))))
  have e5 := tsT_put b8 b9 (strOfNums (num o.nm.size) ++ o.nm ++ (strOfNums (num o.nw.size) ++ o.nw ++ (strOfNums (num (zig o.off)) ++ (strOfNums (num o.dt.size) ++ o.dt ++ s))))
  have e6 := txT_put n1 (strOfNums (num o.nw.size) ++ o.nw ++ (strOfNums (num (zig o.off)) ++ (strOfNums (num o.dt.size) ++ o.dt ++ s)))
  have e7 := txT_put n2 (strOfNums (num (zig o.off)) ++ (strOfNums (num o.dt.size) ++ o.dt ++ s))
  have e8 := tiT_put b10 (strOfNums (num o.dt.size) ++ o.dt ++ s)
  have e9 := txT_put n3 s
  generalize strOfNums (num o.dt.size) ++ o.dt ++ s = z9 at *
  generalize strOfNums (num (zig o.off)) ++ z9 = z8 at *
  generalize strOfNums (num o.nw.size) ++ o.nw ++ z8 = z7 at *
  generalize strOfNums (num o.nm.size) ++ o.nm ++ z7 = z6 at *
  generalize putS o.t0 o.t1 ++ z6 = z5 at *
  generalize putS o.i0 o.i1 ++ z5 = z4 at *
  generalize putS o.a0 o.a1 ++ z4 = z3 at *
  generalize putS o.t o.r ++ z3 = z2 at *
  generalize strOfNums (num (zig o.k)) ++ z2 = z1 at *
  have raw_bad : rawB z1 = true → takeO z1 = none := fun h => by unfold takeO; rw [h]; rfl
  have not_may : ∀ h : o.may = true → False, (if o.may = true then some (o, s) else none) = none := fun h => if_neg h
  by_cases m1 : mayS o.t o.r = true
  · rw [if_pos m1] at e2
    by_cases m2 : mayS o.a0 o.a1 = true
    · rw [if_pos m2] at e3
      by_cases m3 : mayS o.i0 o.i1 = true
      · rw [if_pos m3] at e4
        by_cases m4 : mayS o.t0 o.t1 = true
        · rw [if_pos m4] at e5
          by_cases m5 : o.nm.size ≤ 64
          · rw [if_pos m5] at e6
            by_cases m6 : o.nw.size ≤ 64
            · rw [if_pos m6] at e7
              by_cases m7 : o.dt.size ≤ 64
              · rw [if_pos m7] at e9
                have hr1 : rawV z1 = o := by
                  simp only [rawV, y1, y2, y3, y4, y5, y6, y7, y8, e1, e2, e3, e4, e5, e6, e7, e8, e9]
                have hr2 : rawB z1 = false := by
                  unfold rawB
                  simp only [y1, y2, y3, y4, y5, y6, y7, y8, e1, e2, e3, e4, e5, e6, e7, e8, e9]
                  rfl
                have hr3 : y9 z1 = s := by
                  simp only [y1, y2, y3, y4, y5, y6, y7, y8, y9, e1, e2, e3, e4, e5, e6, e7, e8, e9]
                unfold takeO
                rw [hr1, hr2, hr3]
                cases hm : o.may <;> rfl
              · rw [if_neg m7] at e9
                rw [raw_bad (by unfold rawB; simp [y1, y2, y3, y4, y5, y6, y7, y8, y9, e1, e2, e3, e4, e5, e6, e7, e8, e9]), not_may (fun h => m7 (mayO_Off h).2.1)]
            · rw [if_neg m6] at e7
              rw [raw_bad (by unfold rawB; simp [y1, y2, y3, y4, y5, y6, y7, y8, y9, e1, e2, e3, e4, e5, e6, e7]), not_may (fun h => m6 (Nat.le_trans (mayO_name h).2 (by decide)))]
          · rw [if_neg m5] at e6
            rw [raw_bad (by unfold rawB; simp [y1, y2, y3, y4, y5, y6, y7, y8, y9, e1, e2, e3, e4, e5, e6]), not_may (fun h => m5 (Nat.le_trans (mayO_name h).1 (by decide)))]
        · rw [if_neg m4] at e5
          rw [raw_bad (by unfold rawB; simp [y1, y2, y3, y4, y5, y6, y7, y8, y9, e1, e2, e3, e4, e5]), not_may (fun h => m4 (mayO_parts h).2.2.2)]
      · rw [if_neg m3] at e4
        rw [raw_bad (by unfold rawB; simp [y1, y2, y3, y4, y5, y6, y7, y8, y9, e1, e2, e3, e4]), not_may (fun h => m3 (mayO_parts h).2.2.1)]
    · rw [if_neg m2] at e3
      rw [raw_bad (by unfold rawB; simp [y1, y2, y3, y4, y5, y6, y7, y8, y9, e1, e2, e3]), not_may (fun h => m2 (mayO_parts h).2.1)]
  · rw [if_neg m1] at e2
    rw [raw_bad (by unfold rawB; simp [y1, y2, y3, y4, y5, y6, y7, y8, y9, e1, e2]), not_may (fun h => m1 (mayO_parts h).1)]
end Go.Proofs.YtcgkkjfbdappoaaGreat
