/- op.Take: the operation with which a string begins: the walk. -/
import Derived.Test.YtcekecpbjmfbhaaOpTakeS
namespace Go.Proofs.Ytcekecpbjmfbhaa
open Go.RowKit Go.Proofs.YtcekecpbjmfbhaaW.PrintWords Go.Proofs.YtcekecpbjmfbhaaW.PrintLast Go.Proofs.YtcekecpbjmfbhaaW.PrintMore Pk
set_option linter.unusedVariables false
set_option linter.unusedSimpArgs false

theorem Holds.rbut {w wr w' : World} {l : List (Nat × Obj)} {p : Nat} (h : Holds w l wr) (hb : RBut p wr w') (hp : w.heap.size ≤ p) (hn : ∀ q ∈ l, q.1 ≠ p) : Holds w l w' :=
  ⟨fun q hq => (hb.block _ (Array.getElem?_eq_some_iff.1 (h.1 q hq)).1 (hn q hq)).trans (h.1 q hq), hb.below h.2 hp h.2.size⟩
/-- What lies in memory while an operation is read. -/
def TakeSt (w : World) (bo B2 : Nat) (oc : Array Value) (rest : ByteArray) (bad : Bool) (W : World) : Prop :=
  Holds w [(B2, .cells #[.pointer (some ⟨bo, 0, none⟩), .pointer (some ⟨bo, 3, none⟩), .pointer (some ⟨bo, 5, none⟩), .pointer (some ⟨bo, 7, none⟩)] 84 (0, 0)), (bo, .cells oc 50 (0, 0)), (w.heap.size, .cells #[.int .i64 0, .int .i64 0, .int .i64 0, .int .i64 0, .int .i64 0, .int .i64 0, .int .i64 0, .int .i64 0, .int .i64 0, .string ⟨#[]⟩, .string ⟨#[]⟩, .int .i64 0, .string ⟨#[]⟩] 50 (0, 0))] W ∧
  Reads (w.heap.size + 1) rest bad W ∧ w.heap.size + 1 < bo ∧ bo < B2
theorem TakeSt.call {w W W' : World} {bo B2 : Nat} {oc : Array Value} {rest y : ByteArray} {bad bad' : Bool} (h : TakeSt w bo B2 oc rest bad W) (hb : RBut (w.heap.size + 1) W W') (hr : Reads (w.heap.size + 1) y bad' W') : TakeSt w bo B2 oc y bad' W' := by
  obtain ⟨h1, h2, h3, h4⟩ := h
  refine ⟨h1.rbut hb (by omega) (fun q hq => ?_), hr, h3, h4⟩
  simp at hq
  rcases hq with rfl | rfl | rfl
  · exact Nat.ne_of_gt (by show w.heap.size + 1 < B2; omega)
  · exact Nat.ne_of_gt h3
  · exact Nat.ne_of_lt (by show w.heap.size < w.heap.size + 1; omega)
theorem TakeSt.store {w W : World} {bo B2 : Nat} {oc : Array Value} {rest : ByteArray} {bad : Bool} (h : TakeSt w bo B2 oc rest bad W) (i : Nat) (v : Value) : TakeSt w bo B2 (oc.setIfInBounds i v) rest bad (W.setCell ⟨bo, i, none⟩ v) := by
  obtain ⟨h1, h2, h3, h4⟩ := h
  obtain ⟨e1, e2⟩ := setc_but (h1.get 1 rfl) i v
  refine ⟨⟨fun q hq => ?_, e2.below h1.2 (by omega) h1.2.size⟩, (e2.block _ (Array.getElem?_eq_some_iff.1 h2).1 (by omega)).trans h2, h3, h4⟩
  simp at hq
  rcases hq with rfl | rfl | rfl
  · exact (e2.block _ (h1.lt 0 rfl) (by omega)).trans (h1.get 0 rfl)
  · exact e1
  · exact (e2.block _ (h1.lt 2 rfl) (by omega)).trans (h1.get 2 rfl)
theorem TakeSt.below {w W W' : World} {bo B2 : Nat} {oc : Array Value} {rest : ByteArray} {bad : Bool} (h : TakeSt w bo B2 oc rest bad W) (hb : Below W.heap.size W W') : TakeSt w bo B2 oc rest bad W' :=
  ⟨h.1.call hb, (hb.block _ (Array.getElem?_eq_some_iff.1 h.2.1).1).trans h.2.1, h.2.2⟩
theorem size_op13 : (Try.prog.info? 50).map (·.size) = some 13 := by kernel_rfl
theorem z13_one : (#[.int .i64 0, .int .i64 0, .int .i64 0, .int .i64 0, .int .i64 0, .int .i64 0, .int .i64 0, .int .i64 0, .int .i64 0, .string ⟨#[]⟩, .string ⟨#[]⟩, .int .i64 0, .string ⟨#[]⟩] : Array Value).all (·.oneCell') = true := by kernel_rfl
theorem c8_one (k s0 s1 a0 a1 i0 i1 t0 t1 off : Int) (nm nw dt : ByteArray) : (#[.int .i64 s0, .int .i64 s1, .int .i64 k, .int .i64 a0, .int .i64 a1, .int .i64 i0, .int .i64 i1, .int .i64 t0, .int .i64 t1, .string nm, .string nw, .int .i64 off, .string dt] : Array Value).all (·.oneCell') = true := by kernel_rfl
theorem run_store_row {P : Program} {o : Oper} {ρ : Operand → Value} {w : World} (ty : TypeId) (x y : Operand) (ho : o.op = .store ty x y)
    (g : Nat) (cells : Array Value) (hx : ρ x = .pointer (some ⟨g, 0, none⟩)) (hy : ρ y = .agg cells)
    (t : TypeId) (old : Array Value) (hg : w.heap[g]? = some (.cells old t (0, 0))) (hi : (P.info? ty).map (·.size) = some cells.size)
    (hold : old.size = cells.size) (h1 : cells.all (·.oneCell') = true) : (execOp ρ o).run P w = .ok .skip (w.setRow g cells) := by
  unfold execOp
  simp only [ho, hx, hy, Instr.storeAt, Instr.sureAddr, Sem.run_bind, Sem.run_pure, Result.andThen_ok, run_storeVar_row w g t ty old cells hg hi hold h1]
set_option maxHeartbeats 8000000 in
set_option maxRecDepth 100000 in
theorem Take_walk (b : ByteArray) (k s0 s1 a0 a1 i0 i1 t0 t1 off : Int) (nm nw dt y1 y2 y3 y4 y5 y6 y7 y8 y9 : ByteArray) (c1 c2 c3 c4 c5 c6 c7 c8 c9 : Int) (mB : Bool) (w : World)
    (H1 : Hd (∀ w, Calls Try.prog 52 #[.string b] w fun e w' => e = .returned (.tuple #[.int .i64 k, .string y1, .int .i64 c1]) ∧ Below w.heap.size w w'))
    (H2 : Hd (∀ w, Calls Try.prog 54 #[.string y1] w fun e w' => e = .returned (.tuple #[.agg #[.int .i64 s0, .int .i64 s1], .string y2, .int .i64 c2]) ∧ Below w.heap.size w w'))
    (H3 : Hd (∀ w, Calls Try.prog 54 #[.string y2] w fun e w' => e = .returned (.tuple #[.agg #[.int .i64 a0, .int .i64 a1], .string y3, .int .i64 c3]) ∧ Below w.heap.size w w'))
    (H4 : Hd (∀ w, Calls Try.prog 54 #[.string y3] w fun e w' => e = .returned (.tuple #[.agg #[.int .i64 i0, .int .i64 i1], .string y4, .int .i64 c4]) ∧ Below w.heap.size w w'))
    (H5 : Hd (∀ w, Calls Try.prog 54 #[.string y4] w fun e w' => e = .returned (.tuple #[.agg #[.int .i64 t0, .int .i64 t1], .string y5, .int .i64 c5]) ∧ Below w.heap.size w w'))
    (H6 : Hd (∀ w, Calls Try.prog 56 #[.string y5] w fun e w' => e = .returned (.tuple #[.string nm, .string y6, .int .i64 c6]) ∧ Below w.heap.size w w'))
    (H7 : Hd (∀ w, Calls Try.prog 56 #[.string y6] w fun e w' => e = .returned (.tuple #[.string nw, .string y7, .int .i64 c7]) ∧ Below w.heap.size w w'))
    (H8 : Hd (∀ w, Calls Try.prog 52 #[.string y7] w fun e w' => e = .returned (.tuple #[.int .i64 off, .string y8, .int .i64 c8]) ∧ Below w.heap.size w w'))
    (H9 : Hd (∀ w, Calls Try.prog 56 #[.string y8] w fun e w' => e = .returned (.tuple #[.string dt, .string y9, .int .i64 c9]) ∧ Below w.heap.size w w'))
    (HM : Hd (∀ w, Calls Try.prog 25 #[.agg #[.int .i64 s0, .int .i64 s1, .int .i64 k, .int .i64 a0, .int .i64 a1, .int .i64 i0, .int .i64 i1, .int .i64 t0, .int .i64 t1, .string nm, .string nw, .int .i64 off, .string dt]] w fun e w' => e = .returned (.bool mB) ∧ Below w.heap.size w w')) (B : Bool) (hB : Hd (B = (((((((((false || c1 != 0) || c2 != 0) || c3 != 0) || c4 != 0) || c5 != 0) || c6 != 0) || c7 != 0) || c8 != 0) || c9 != 0))) :
    Calls Try.prog 31 #[.string b] w fun e w' => e = .returned (if (B || !mB) = true then .tuple #[.agg #[.int .i64 0, .int .i64 0, .int .i64 0, .int .i64 0, .int .i64 0, .int .i64 0, .int .i64 0, .int .i64 0, .int .i64 0, .string ⟨#[]⟩, .string ⟨#[]⟩, .int .i64 0, .string ⟨#[]⟩], .string ⟨#[]⟩, .int .i64 2] else .tuple #[.agg #[.int .i64 s0, .int .i64 s1, .int .i64 k, .int .i64 a0, .int .i64 a1, .int .i64 i0, .int .i64 i1, .int .i64 t0, .int .i64 t1, .string nm, .string nw, .int .i64 off, .string dt], .string y9, .int .i64 0]) ∧ Below w.heap.size w w' := by
  have K0 := Hd.mk (Holds.start2 w (.cells #[.int .i64 0, .int .i64 0, .int .i64 0, .int .i64 0, .int .i64 0, .int .i64 0, .int .i64 0, .int .i64 0, .int .i64 0, .string ⟨#[]⟩, .string ⟨#[]⟩, .int .i64 0, .string ⟨#[]⟩] 50 (0, 0)) (.cells #[.string b, .bool false] 81 (0, 0)))
  have T1 := Hd.mk (fun p bad w (hp : Reads p b bad w) => optake_int p b bad k y1 c1 w hp H1)
  have T2 := Hd.mk (fun p bad w (hp : Reads p y1 bad w) => optake_stamp p y1 bad s0 s1 y2 c2 w hp H2)
  have T3 := Hd.mk (fun p bad w (hp : Reads p y2 bad w) => optake_stamp p y2 bad a0 a1 y3 c3 w hp H3)
  have T4 := Hd.mk (fun p bad w (hp : Reads p y3 bad w) => optake_stamp p y3 bad i0 i1 y4 c4 w hp H4)
  have T5 := Hd.mk (fun p bad w (hp : Reads p y4 bad w) => optake_stamp p y4 bad t0 t1 y5 c5 w hp H5)
  have T6 := Hd.mk (fun p bad w (hp : Reads p y5 bad w) => optake_text p y5 bad nm y6 c6 w hp H6)
  have T7 := Hd.mk (fun p bad w (hp : Reads p y6 bad w) => optake_text p y6 bad nw y7 c7 w hp H7)
  have T8 := Hd.mk (fun p bad w (hp : Reads p y7 bad w) => optake_int p y7 bad off y8 c8 w hp H8)
  have T9 := Hd.mk (fun p bad w (hp : Reads p y8 bad w) => optake_text p y8 bad dt y9 c9 w hp H9)
  clear H1 H2 H3 H4 H5 H6 H7 H8 H9
  go_enter Try.func31, Try.ntmps31
  go_wp2_with fail
  refine world_gen_calls _ K0.out (fun W hK => ?_)
  have K0 := Hd.mk hK
  clear hK
  refine (T1.out _ _ _ (K0.out.get 0 rfl)).mono ?_; rintro e w1 ⟨rfl, hr1, hb1⟩
  have HR1 := Hd.mk hr1
  have K1 := Hd.mk (Holds.rbut K0.out.rest hb1 (by simp) (by simp))
  have hlt := (Array.getElem?_eq_some_iff.1 hr1).1
  clear hr1 hb1 K0 T1
  have KA := Hd.mk ((K1.out.alloc (.cells #[.int .i64 0, .int .i64 0, .int .i64 k, .int .i64 0, .int .i64 0, .int .i64 0, .int .i64 0, .int .i64 0, .int .i64 0, .string ⟨#[]⟩, .string ⟨#[]⟩, .int .i64 0, .string ⟨#[]⟩] 50 (0, 0))).alloc (.cells #[.pointer (some ⟨w1.heap.size, 0, none⟩), .pointer (some ⟨w1.heap.size, 3, none⟩), .pointer (some ⟨w1.heap.size, 5, none⟩), .pointer (some ⟨w1.heap.size, 7, none⟩)] 84 (0, 0)))
  have KS : Hd (TakeSt w w1.heap.size (w1.heap.size + 1) #[.int .i64 0, .int .i64 0, .int .i64 k, .int .i64 0, .int .i64 0, .int .i64 0, .int .i64 0, .int .i64 0, .int .i64 0, .string ⟨#[]⟩, .string ⟨#[]⟩, .int .i64 0, .string ⟨#[]⟩] y1 (false || c1 != 0) ((w1.alloc (.cells #[.int .i64 0, .int .i64 0, .int .i64 k, .int .i64 0, .int .i64 0, .int .i64 0, .int .i64 0, .int .i64 0, .int .i64 0, .string ⟨#[]⟩, .string ⟨#[]⟩, .int .i64 0, .string ⟨#[]⟩] 50 (0, 0))).alloc (.cells #[.pointer (some ⟨w1.heap.size, 0, none⟩), .pointer (some ⟨w1.heap.size, 3, none⟩), .pointer (some ⟨w1.heap.size, 5, none⟩), .pointer (some ⟨w1.heap.size, 7, none⟩)] 84 (0, 0)))) := ⟨by
    have hsz : (w1.alloc (.cells #[.int .i64 0, .int .i64 0, .int .i64 k, .int .i64 0, .int .i64 0, .int .i64 0, .int .i64 0, .int .i64 0, .int .i64 0, .string ⟨#[]⟩, .string ⟨#[]⟩, .int .i64 0, .string ⟨#[]⟩] 50 (0, 0))).heap.size = w1.heap.size + 1 := by simp
    have h := KA.out
    rw [hsz] at h
    exact ⟨h, (heap_alloc_old _ _ (by rw [hsz]; omega)).trans ((heap_alloc_old _ _ hlt).trans HR1.out), hlt, by omega⟩⟩
  clear K1 HR1 KA hlt
  go_wp2_with fail
  generalize hbo : w1.heap.size = bo at *
  refine world_gen (fun W_ => TakeSt w bo (bo + 1) #[.int .i64 0, .int .i64 0, .int .i64 k, .int .i64 0, .int .i64 0, .int .i64 0, .int .i64 0, .int .i64 0, .int .i64 0, .string ⟨#[]⟩, .string ⟨#[]⟩, .int .i64 0, .string ⟨#[]⟩] y1 (false || c1 != 0) W_) KS.out (fun W2 hK => ?_)
  have KT := Hd.mk hK
  clear hK KS hbo
  go_loopg [8, 21] 4 (fun q _ v21 wx => ∃ i : Nat, i + q = 4 ∧ v21 = .int .i64 (i : Int) ∧ Hd (TakeSt w bo (bo + 1) (match i with | 0 => #[.int .i64 0, .int .i64 0, .int .i64 k, .int .i64 0, .int .i64 0, .int .i64 0, .int .i64 0, .int .i64 0, .int .i64 0, .string ⟨#[]⟩, .string ⟨#[]⟩, .int .i64 0, .string ⟨#[]⟩] | 1 => #[.int .i64 s0, .int .i64 s1, .int .i64 k, .int .i64 0, .int .i64 0, .int .i64 0, .int .i64 0, .int .i64 0, .int .i64 0, .string ⟨#[]⟩, .string ⟨#[]⟩, .int .i64 0, .string ⟨#[]⟩] | 2 => #[.int .i64 s0, .int .i64 s1, .int .i64 k, .int .i64 a0, .int .i64 a1, .int .i64 0, .int .i64 0, .int .i64 0, .int .i64 0, .string ⟨#[]⟩, .string ⟨#[]⟩, .int .i64 0, .string ⟨#[]⟩] | 3 => #[.int .i64 s0, .int .i64 s1, .int .i64 k, .int .i64 a0, .int .i64 a1, .int .i64 i0, .int .i64 i1, .int .i64 0, .int .i64 0, .string ⟨#[]⟩, .string ⟨#[]⟩, .int .i64 0, .string ⟨#[]⟩] | _ => #[.int .i64 s0, .int .i64 s1, .int .i64 k, .int .i64 a0, .int .i64 a1, .int .i64 i0, .int .i64 i1, .int .i64 t0, .int .i64 t1, .string ⟨#[]⟩, .string ⟨#[]⟩, .int .i64 0, .string ⟨#[]⟩]) (match i with | 0 => y1 | 1 => y2 | 2 => y3 | 3 => y4 | _ => y5) (match i with | 0 => (false || c1 != 0) | 1 => ((false || c1 != 0) || c2 != 0) | 2 => (((false || c1 != 0) || c2 != 0) || c3 != 0) | 3 => ((((false || c1 != 0) || c2 != 0) || c3 != 0) || c4 != 0) | _ => (((((false || c1 != 0) || c2 != 0) || c3 != 0) || c4 != 0) || c5 != 0)) wx))
  case atStart => exact ⟨0, rfl, rfl, KT⟩
  case round =>
    obtain ⟨i, hi, rfl, HT⟩ := hrel
    clear KT
    have h3 : i = 0 ∨ i = 1 ∨ i = 2 ∨ i = 3 ∨ i = 4 := by omega
    rcases h3 with rfl | rfl | rfl | rfl | rfl
    · have KT : Hd (TakeSt w bo (bo + 1) #[.int .i64 0, .int .i64 0, .int .i64 k, .int .i64 0, .int .i64 0, .int .i64 0, .int .i64 0, .int .i64 0, .int .i64 0, .string ⟨#[]⟩, .string ⟨#[]⟩, .int .i64 0, .string ⟨#[]⟩] y1 (false || c1 != 0) wr) := HT
      clear HT
      have g0 := cell_of_row wr _ 0 _ _ _ (KT.out.1.get 0 rfl)
      have g1 := cell_of_row wr _ 1 _ _ _ (KT.out.1.get 0 rfl)
      have g2 := cell_of_row wr _ 2 _ _ _ (KT.out.1.get 0 rfl)
      have g3 := cell_of_row wr _ 3 _ _ _ (KT.out.1.get 0 rfl)
      go_wp2_with fail
      refine (T2.out _ _ _ KT.out.2.1).mono ?_; rintro e w5 ⟨rfl, hr, hb⟩
      have K5 := Hd.mk (KT.out.call hb hr)
      have K6 := Hd.mk ((K5.out.store 0 (.int .i64 s0)).store 1 (.int .i64 s1))
      clear hr hb KT
      clear g0 g1 g2 g3
      have z0 := cell_of_row w5 _ 0 _ _ _ (K5.out.1.get 1 rfl)
      have z1 := cell_of_row w5 _ 1 _ _ _ (K5.out.1.get 1 rfl)
      have q0 := frozen_of_row w5 bo 0 _ _ (K5.out.1.get 1 rfl)
      have q1 := frozen_of_row w5 bo 1 _ _ (K5.out.1.get 1 rfl)
      go_wp2_with fail
      go_roundg (3)
      case measure => omega
      case rel => exact ⟨1, by omega, rfl, K6⟩
    · have KT : Hd (TakeSt w bo (bo + 1) #[.int .i64 s0, .int .i64 s1, .int .i64 k, .int .i64 0, .int .i64 0, .int .i64 0, .int .i64 0, .int .i64 0, .int .i64 0, .string ⟨#[]⟩, .string ⟨#[]⟩, .int .i64 0, .string ⟨#[]⟩] y2 ((false || c1 != 0) || c2 != 0) wr) := HT
      clear HT
      have g0 := cell_of_row wr _ 0 _ _ _ (KT.out.1.get 0 rfl)
      have g1 := cell_of_row wr _ 1 _ _ _ (KT.out.1.get 0 rfl)
      have g2 := cell_of_row wr _ 2 _ _ _ (KT.out.1.get 0 rfl)
      have g3 := cell_of_row wr _ 3 _ _ _ (KT.out.1.get 0 rfl)
      go_wp2_with fail
      refine (T3.out _ _ _ KT.out.2.1).mono ?_; rintro e w5 ⟨rfl, hr, hb⟩
      have K5 := Hd.mk (KT.out.call hb hr)
      have K6 := Hd.mk ((K5.out.store 3 (.int .i64 a0)).store 4 (.int .i64 a1))
      clear hr hb KT
      clear g0 g1 g2 g3
      have z0 := cell_of_row w5 _ 3 _ _ _ (K5.out.1.get 1 rfl)
      have z1 := cell_of_row w5 _ 4 _ _ _ (K5.out.1.get 1 rfl)
      have q0 := frozen_of_row w5 bo 3 _ _ (K5.out.1.get 1 rfl)
      have q1 := frozen_of_row w5 bo 4 _ _ (K5.out.1.get 1 rfl)
      go_wp2_with fail
      go_roundg (2)
      case measure => omega
      case rel => exact ⟨2, by omega, rfl, K6⟩
    · have KT : Hd (TakeSt w bo (bo + 1) #[.int .i64 s0, .int .i64 s1, .int .i64 k, .int .i64 a0, .int .i64 a1, .int .i64 0, .int .i64 0, .int .i64 0, .int .i64 0, .string ⟨#[]⟩, .string ⟨#[]⟩, .int .i64 0, .string ⟨#[]⟩] y3 (((false || c1 != 0) || c2 != 0) || c3 != 0) wr) := HT
      clear HT
      have g0 := cell_of_row wr _ 0 _ _ _ (KT.out.1.get 0 rfl)
      have g1 := cell_of_row wr _ 1 _ _ _ (KT.out.1.get 0 rfl)
      have g2 := cell_of_row wr _ 2 _ _ _ (KT.out.1.get 0 rfl)
      have g3 := cell_of_row wr _ 3 _ _ _ (KT.out.1.get 0 rfl)
      go_wp2_with fail
      refine (T4.out _ _ _ KT.out.2.1).mono ?_; rintro e w5 ⟨rfl, hr, hb⟩
      have K5 := Hd.mk (KT.out.call hb hr)
      have K6 := Hd.mk ((K5.out.store 5 (.int .i64 i0)).store 6 (.int .i64 i1))
      clear hr hb KT
      clear g0 g1 g2 g3
      have z0 := cell_of_row w5 _ 5 _ _ _ (K5.out.1.get 1 rfl)
      have z1 := cell_of_row w5 _ 6 _ _ _ (K5.out.1.get 1 rfl)
      have q0 := frozen_of_row w5 bo 5 _ _ (K5.out.1.get 1 rfl)
      have q1 := frozen_of_row w5 bo 6 _ _ (K5.out.1.get 1 rfl)
      go_wp2_with fail
      go_roundg (1)
      case measure => omega
      case rel => exact ⟨3, by omega, rfl, K6⟩
    · have KT : Hd (TakeSt w bo (bo + 1) #[.int .i64 s0, .int .i64 s1, .int .i64 k, .int .i64 a0, .int .i64 a1, .int .i64 i0, .int .i64 i1, .int .i64 0, .int .i64 0, .string ⟨#[]⟩, .string ⟨#[]⟩, .int .i64 0, .string ⟨#[]⟩] y4 ((((false || c1 != 0) || c2 != 0) || c3 != 0) || c4 != 0) wr) := HT
      clear HT
      have g0 := cell_of_row wr _ 0 _ _ _ (KT.out.1.get 0 rfl)
      have g1 := cell_of_row wr _ 1 _ _ _ (KT.out.1.get 0 rfl)
      have g2 := cell_of_row wr _ 2 _ _ _ (KT.out.1.get 0 rfl)
      have g3 := cell_of_row wr _ 3 _ _ _ (KT.out.1.get 0 rfl)
      go_wp2_with fail
      refine (T5.out _ _ _ KT.out.2.1).mono ?_; rintro e w5 ⟨rfl, hr, hb⟩
      have K5 := Hd.mk (KT.out.call hb hr)
      have K6 := Hd.mk ((K5.out.store 7 (.int .i64 t0)).store 8 (.int .i64 t1))
      clear hr hb KT
      clear g0 g1 g2 g3
      have z0 := cell_of_row w5 _ 7 _ _ _ (K5.out.1.get 1 rfl)
      have z1 := cell_of_row w5 _ 8 _ _ _ (K5.out.1.get 1 rfl)
      have q0 := frozen_of_row w5 bo 7 _ _ (K5.out.1.get 1 rfl)
      have q1 := frozen_of_row w5 bo 8 _ _ (K5.out.1.get 1 rfl)
      go_wp2_with fail
      go_roundg (0)
      case measure => omega
      case rel => exact ⟨4, by omega, rfl, K6⟩
    · have KT : Hd (TakeSt w bo (bo + 1) #[.int .i64 s0, .int .i64 s1, .int .i64 k, .int .i64 a0, .int .i64 a1, .int .i64 i0, .int .i64 i1, .int .i64 t0, .int .i64 t1, .string ⟨#[]⟩, .string ⟨#[]⟩, .int .i64 0, .string ⟨#[]⟩] y5 (((((false || c1 != 0) || c2 != 0) || c3 != 0) || c4 != 0) || c5 != 0) wr) := HT
      clear HT T2 T3 T4 T5
      go_wp2_with fail
      refine (T6.out _ _ _ KT.out.2.1).mono ?_; rintro e v6 ⟨rfl, hr, hb⟩
      have K5 := Hd.mk (KT.out.call hb hr)
      have K6 : Hd (TakeSt w bo (bo + 1) #[.int .i64 s0, .int .i64 s1, .int .i64 k, .int .i64 a0, .int .i64 a1, .int .i64 i0, .int .i64 i1, .int .i64 t0, .int .i64 t1, .string nm, .string ⟨#[]⟩, .int .i64 0, .string ⟨#[]⟩] y6 ((((((false || c1 != 0) || c2 != 0) || c3 != 0) || c4 != 0) || c5 != 0) || c6 != 0) _) := ⟨K5.out.store 9 (.string nm)⟩
      clear hr hb KT
      have z0 := cell_of_row v6 _ 9 _ _ _ (K5.out.1.get 1 rfl)
      have q0 := frozen_of_row v6 bo 9 _ _ (K5.out.1.get 1 rfl)
      go_wp2_with fail
      refine world_gen_calls (fun W_ => TakeSt w bo (bo + 1) #[.int .i64 s0, .int .i64 s1, .int .i64 k, .int .i64 a0, .int .i64 a1, .int .i64 i0, .int .i64 i1, .int .i64 t0, .int .i64 t1, .string nm, .string ⟨#[]⟩, .int .i64 0, .string ⟨#[]⟩] y6 ((((((false || c1 != 0) || c2 != 0) || c3 != 0) || c4 != 0) || c5 != 0) || c6 != 0) W_) K6.out (fun W6 hK => ?_)
      have KT := Hd.mk hK
      clear hK K5 K6 z0 q0
      refine (T7.out _ _ _ KT.out.2.1).mono ?_; rintro e v7 ⟨rfl, hr, hb⟩
      have K5 := Hd.mk (KT.out.call hb hr)
      have K6 : Hd (TakeSt w bo (bo + 1) #[.int .i64 s0, .int .i64 s1, .int .i64 k, .int .i64 a0, .int .i64 a1, .int .i64 i0, .int .i64 i1, .int .i64 t0, .int .i64 t1, .string nm, .string nw, .int .i64 0, .string ⟨#[]⟩] y7 (((((((false || c1 != 0) || c2 != 0) || c3 != 0) || c4 != 0) || c5 != 0) || c6 != 0) || c7 != 0) _) := ⟨K5.out.store 10 (.string nw)⟩
      clear hr hb KT
      have z0 := cell_of_row v7 _ 10 _ _ _ (K5.out.1.get 1 rfl)
      have q0 := frozen_of_row v7 bo 10 _ _ (K5.out.1.get 1 rfl)
      go_wp2_with fail
      refine world_gen_calls (fun W_ => TakeSt w bo (bo + 1) #[.int .i64 s0, .int .i64 s1, .int .i64 k, .int .i64 a0, .int .i64 a1, .int .i64 i0, .int .i64 i1, .int .i64 t0, .int .i64 t1, .string nm, .string nw, .int .i64 0, .string ⟨#[]⟩] y7 (((((((false || c1 != 0) || c2 != 0) || c3 != 0) || c4 != 0) || c5 != 0) || c6 != 0) || c7 != 0) W_) K6.out (fun W7 hK => ?_)
      have KT := Hd.mk hK
      clear hK K5 K6 z0 q0
      refine (T8.out _ _ _ KT.out.2.1).mono ?_; rintro e v8 ⟨rfl, hr, hb⟩
      have K5 := Hd.mk (KT.out.call hb hr)
      have K6 : Hd (TakeSt w bo (bo + 1) #[.int .i64 s0, .int .i64 s1, .int .i64 k, .int .i64 a0, .int .i64 a1, .int .i64 i0, .int .i64 i1, .int .i64 t0, .int .i64 t1, .string nm, .string nw, .int .i64 off, .string ⟨#[]⟩] y8 ((((((((false || c1 != 0) || c2 != 0) || c3 != 0) || c4 != 0) || c5 != 0) || c6 != 0) || c7 != 0) || c8 != 0) _) := ⟨K5.out.store 11 (.int .i64 off)⟩
      clear hr hb KT
      have z0 := cell_of_row v8 _ 11 _ _ _ (K5.out.1.get 1 rfl)
      have q0 := frozen_of_row v8 bo 11 _ _ (K5.out.1.get 1 rfl)
      go_wp2_with fail
      refine world_gen_calls (fun W_ => TakeSt w bo (bo + 1) #[.int .i64 s0, .int .i64 s1, .int .i64 k, .int .i64 a0, .int .i64 a1, .int .i64 i0, .int .i64 i1, .int .i64 t0, .int .i64 t1, .string nm, .string nw, .int .i64 off, .string ⟨#[]⟩] y8 ((((((((false || c1 != 0) || c2 != 0) || c3 != 0) || c4 != 0) || c5 != 0) || c6 != 0) || c7 != 0) || c8 != 0) W_) K6.out (fun W8 hK => ?_)
      have KT := Hd.mk hK
      clear hK K5 K6 z0 q0
      refine (T9.out _ _ _ KT.out.2.1).mono ?_; rintro e v9 ⟨rfl, hr, hb⟩
      have K5 := Hd.mk (KT.out.call hb hr)
      have K6 : Hd (TakeSt w bo (bo + 1) #[.int .i64 s0, .int .i64 s1, .int .i64 k, .int .i64 a0, .int .i64 a1, .int .i64 i0, .int .i64 i1, .int .i64 t0, .int .i64 t1, .string nm, .string nw, .int .i64 off, .string dt] y9 (((((((((false || c1 != 0) || c2 != 0) || c3 != 0) || c4 != 0) || c5 != 0) || c6 != 0) || c7 != 0) || c8 != 0) || c9 != 0) _) := ⟨K5.out.store 12 (.string dt)⟩
      clear hr hb KT
      have z0 := cell_of_row v9 _ 12 _ _ _ (K5.out.1.get 1 rfl)
      have q0 := frozen_of_row v9 bo 12 _ _ (K5.out.1.get 1 rfl)
      go_upto_region 12 with (fail)
      refine world_gen (fun W_ => TakeSt w bo (bo + 1) #[.int .i64 s0, .int .i64 s1, .int .i64 k, .int .i64 a0, .int .i64 a1, .int .i64 i0, .int .i64 i1, .int .i64 t0, .int .i64 t1, .string nm, .string nw, .int .i64 off, .string dt] y9 (((((((((false || c1 != 0) || c2 != 0) || c3 != 0) || c4 != 0) || c5 != 0) || c6 != 0) || c7 != 0) || c8 != 0) || c9 != 0) W_) K6.out (fun W9 hK => ?_)
      have KT := Hd.mk hK
      clear hK K5 K6 z0 q0
      rw [← hB.out] at KT
      have r0 := cell_of_row W9 _ 0 _ _ _ KT.out.2.1
      have r1 := cell_of_row W9 _ 1 _ _ _ KT.out.2.1
      clear hB T6 T7 T8 T9
      cases B with
      | true =>
        go_wp2_with (first | ((with_reducible refine gate_store (t := 50) rfl ?_); refine wpList_store_row rfl _ _ _ rfl w.heap.size #[.int .i64 0, .int .i64 0, .int .i64 0, .int .i64 0, .int .i64 0, .int .i64 0, .int .i64 0, .int .i64 0, .int .i64 0, .string ⟨#[]⟩, .string ⟨#[]⟩, .int .i64 0, .string ⟨#[]⟩] rfl rfl 50 #[.int .i64 0, .int .i64 0, .int .i64 0, .int .i64 0, .int .i64 0, .int .i64 0, .int .i64 0, .int .i64 0, .int .i64 0, .string ⟨#[]⟩, .string ⟨#[]⟩, .int .i64 0, .string ⟨#[]⟩] (KT.out.1.get 2 rfl) size_op13 rfl z13_one ?_))
        have hz : (W9.setRow w.heap.size #[.int .i64 0, .int .i64 0, .int .i64 0, .int .i64 0, .int .i64 0, .int .i64 0, .int .i64 0, .int .i64 0, .int .i64 0, .string ⟨#[]⟩, .string ⟨#[]⟩, .int .i64 0, .string ⟨#[]⟩]).heap[w.heap.size]? = some (.cells #[.int .i64 0, .int .i64 0, .int .i64 0, .int .i64 0, .int .i64 0, .int .i64 0, .int .i64 0, .int .i64 0, .int .i64 0, .string ⟨#[]⟩, .string ⟨#[]⟩, .int .i64 0, .string ⟨#[]⟩] 50 (0, 0)) := setRow_heap _ _ _ _ _ _ (KT.out.1.get 2 rfl)
        have hb := below_setRow KT.out.1.2 (Nat.le_refl _) #[.int .i64 0, .int .i64 0, .int .i64 0, .int .i64 0, .int .i64 0, .int .i64 0, .int .i64 0, .int .i64 0, .int .i64 0, .string ⟨#[]⟩, .string ⟨#[]⟩, .int .i64 0, .string ⟨#[]⟩]
        generalize W9.setRow w.heap.size #[.int .i64 0, .int .i64 0, .int .i64 0, .int .i64 0, .int .i64 0, .int .i64 0, .int .i64 0, .int .i64 0, .int .i64 0, .string ⟨#[]⟩, .string ⟨#[]⟩, .int .i64 0, .string ⟨#[]⟩] = WF at *
        have o0 := cell_of_row WF _ 0 _ _ _ (hz)
        have o1 := cell_of_row WF _ 1 _ _ _ (hz)
        have o2 := cell_of_row WF _ 2 _ _ _ (hz)
        have o3 := cell_of_row WF _ 3 _ _ _ (hz)
        have o4 := cell_of_row WF _ 4 _ _ _ (hz)
        have o5 := cell_of_row WF _ 5 _ _ _ (hz)
        have o6 := cell_of_row WF _ 6 _ _ _ (hz)
        have o7 := cell_of_row WF _ 7 _ _ _ (hz)
        have o8 := cell_of_row WF _ 8 _ _ _ (hz)
        have o9 := cell_of_row WF _ 9 _ _ _ (hz)
        have o10 := cell_of_row WF _ 10 _ _ _ (hz)
        have o11 := cell_of_row WF _ 11 _ _ _ (hz)
        have o12 := cell_of_row WF _ 12 _ _ _ (hz)
        exact bodyPost_ret (v := .tuple #[.agg #[.int .i64 0, .int .i64 0, .int .i64 0, .int .i64 0, .int .i64 0, .int .i64 0, .int .i64 0, .int .i64 0, .int .i64 0, .string ⟨#[]⟩, .string ⟨#[]⟩, .int .i64 0, .string ⟨#[]⟩], .string ⟨#[]⟩, .int .i64 2]) (by simp [results, Try.results31, go_sem, o0, o1, o2, o3, o4, o5, o6, o7, o8, o9, o10, o11, o12]) rfl ⟨by simp, hb⟩
      | false =>
        have o0 := cell_of_row W9 _ 0 _ _ _ (KT.out.1.get 1 rfl)
        have o1 := cell_of_row W9 _ 1 _ _ _ (KT.out.1.get 1 rfl)
        have o2 := cell_of_row W9 _ 2 _ _ _ (KT.out.1.get 1 rfl)
        have o3 := cell_of_row W9 _ 3 _ _ _ (KT.out.1.get 1 rfl)
        have o4 := cell_of_row W9 _ 4 _ _ _ (KT.out.1.get 1 rfl)
        have o5 := cell_of_row W9 _ 5 _ _ _ (KT.out.1.get 1 rfl)
        have o6 := cell_of_row W9 _ 6 _ _ _ (KT.out.1.get 1 rfl)
        have o7 := cell_of_row W9 _ 7 _ _ _ (KT.out.1.get 1 rfl)
        have o8 := cell_of_row W9 _ 8 _ _ _ (KT.out.1.get 1 rfl)
        have o9 := cell_of_row W9 _ 9 _ _ _ (KT.out.1.get 1 rfl)
        have o10 := cell_of_row W9 _ 10 _ _ _ (KT.out.1.get 1 rfl)
        have o11 := cell_of_row W9 _ 11 _ _ _ (KT.out.1.get 1 rfl)
        have o12 := cell_of_row W9 _ 12 _ _ _ (KT.out.1.get 1 rfl)
        go_wp2_with fail
        refine (HM.out _).mono ?_; rintro e x1 ⟨rfl, hb⟩
        have KM := Hd.mk (KT.out.below hb)
        clear hb KT r0 r1
        clear o0 o1 o2 o3 o4 o5 o6 o7 o8 o9 o10 o11 o12
        cases mB with
        | true =>
          go_wp2_with fail
          have KD := Hd.mk (KM.out.below (Below.refl _ _).drew)
          clear KM
          refine start_ (n := 8) (S := fun W_ => (w.heap.size < W_.heap.size ∧ Below w.heap.size w W_) ∧ W_.heap[bo]? = some (.cells #[.int .i64 s0, .int .i64 s1, .int .i64 k, .int .i64 a0, .int .i64 a1, .int .i64 i0, .int .i64 i1, .int .i64 t0, .int .i64 t1, .string nm, .string nw, .int .i64 off, .string dt] 50 (0, 0)) ∧ Reads (w.heap.size + 1) y9 false W_) (ds := []) #[false, false, false, false, false, false, false, false] (by kernel_rfl) rfl rfl (⟨⟨KD.out.1.lt 2 rfl, KD.out.1.2⟩, KD.out.1.get 1 rfl, KD.out.2.1⟩) (fun hHeld => ?_)
          refine take_ (i := 0) (N := some 52) (v := .agg #[.int .i64 s0, .int .i64 s1, .int .i64 k, .int .i64 a0, .int .i64 a1, .int .i64 i0, .int .i64 i1, .int .i64 t0, .int .i64 t1, .string nm, .string nw, .int .i64 off, .string dt]) (a' := ?_) #[true, false, false, false, false, false, false, false] rfl rfl (by kernel_rfl) (fun _ _ _ h => h) (Or.inl ⟨by rfl, fun w' h => run_load_mid 50 _ rfl bo 0 #[.int .i64 s0, .int .i64 s1, .int .i64 k, .int .i64 a0, .int .i64 a1, .int .i64 i0, .int .i64 i1, .int .i64 t0, .int .i64 t1, .string nm, .string nw, .int .i64 off, .string dt].toList rfl _ _ _ h.2.1 (fun j v hj => by simpa using hj) _ Try.underlying50 rfl size_op13⟩) hHeld ?_ ?_
          rotate_left
          · simp only [Act.put, List.setIfInBounds_toArray, List.set_cons_zero, List.set_cons_succ]
            rfl
          refine pure_ (i := 1) (N := some 53) (v := ?_) (a' := ?_) #[true, true, false, false, false, false, false, false] rfl rfl (by kernel_rfl) (fun _ _ _ h => h) (Or.inl ⟨by rfl, ?_⟩) ?_ ?_
          rotate_left
          · intro w_
            go_simp
            try with_reducible rfl
          rotate_left
          · simp only [Act.put, List.setIfInBounds_toArray, List.set_cons_zero, List.set_cons_succ]
            rfl
          refine pure_ (i := 2) (N := some 54) (v := ?_) (a' := ?_) #[true, true, true, false, false, false, false, false] rfl rfl (by kernel_rfl) (fun _ _ _ h => h) (Or.inl ⟨by rfl, ?_⟩) ?_ ?_
          rotate_left
          · intro w_
            go_simp
            try with_reducible rfl
          rotate_left
          · simp only [Act.put, List.setIfInBounds_toArray, List.set_cons_zero, List.set_cons_succ]
            rfl
          refine pure_ (i := 3) (N := some 55) (v := ?_) (a' := ?_) #[true, true, true, true, false, false, false, false] rfl rfl (by kernel_rfl) (fun _ _ _ h => h) (Or.inl ⟨by rfl, ?_⟩) ?_ ?_
          rotate_left
          · intro w_
            go_simp
            try with_reducible rfl
          rotate_left
          · simp only [Act.put, List.setIfInBounds_toArray, List.set_cons_zero, List.set_cons_succ]
            rfl
          refine take_ (i := 4) (N := some 56) (v := .string y9) (a' := ?_) #[true, true, true, true, true, false, false, false] rfl rfl (by kernel_rfl) (fun _ _ _ h => h) (Or.inl ⟨by rfl, fun w' h => by have c := cell_of_row w' _ 0 _ _ _ h.2.2; go_simp⟩) hHeld ?_ ?_
          rotate_left
          · simp only [Act.put, List.setIfInBounds_toArray, List.set_cons_zero, List.set_cons_succ]
            rfl
          refine one_ (i := 5) (N := none) #[true, true, true, true, true, true, false, false] rfl rfl (by kernel_rfl) (by decide) (fun K hK => ?_)
          refine skip_ (by rfl) rfl (run_store_row _ _ _ rfl w.heap.size #[.int .i64 s0, .int .i64 s1, .int .i64 k, .int .i64 a0, .int .i64 a1, .int .i64 i0, .int .i64 i1, .int .i64 t0, .int .i64 t1, .string nm, .string nw, .int .i64 off, .string dt] rfl rfl 50 #[.int .i64 0, .int .i64 0, .int .i64 0, .int .i64 0, .int .i64 0, .int .i64 0, .int .i64 0, .int .i64 0, .int .i64 0, .string ⟨#[]⟩, .string ⟨#[]⟩, .int .i64 0, .string ⟨#[]⟩] (KD.out.1.get 2 rfl) size_op13 rfl (c8_one ..)) ?_
          refine hK.out _ _ (⟨⟨by simpa using hHeld.1.1, below_setRow hHeld.1.2 (Nat.le_refl _) _⟩, (setRow_other _ _ _ _ (by have := KD.out.2.2.1; omega)).trans hHeld.2.1, (setRow_other _ _ _ _ (by omega)).trans hHeld.2.2⟩) (fun hHeld => ?_)
          clear hK K
          refine pure_ (i := 6) (N := some 3) (v := ?_) (a' := ?_) #[true, true, true, true, true, true, true, false] rfl rfl (by kernel_rfl) (fun _ _ _ h => h) (Or.inl ⟨by rfl, ?_⟩) ?_ ?_
          rotate_left
          · intro w_
            go_simp
            try with_reducible rfl
          rotate_left
          · simp only [Act.put, List.setIfInBounds_toArray, List.set_cons_zero, List.set_cons_succ]
            rfl
          refine pure_ (i := 7) (N := some 4) (v := ?_) (a' := ?_) #[true, true, true, true, true, true, true, true] rfl rfl (by kernel_rfl) (fun _ _ _ h => h) (Or.inl ⟨by rfl, ?_⟩) ?_ ?_
          rotate_left
          · intro w_
            go_simp
            try with_reducible rfl
          rotate_left
          · simp only [Act.put, List.setIfInBounds_toArray, List.set_cons_zero, List.set_cons_succ]
            rfl
          refine done_ (by kernel_rfl) ?_
          have hz := setRow_heap _ _ _ #[.int .i64 s0, .int .i64 s1, .int .i64 k, .int .i64 a0, .int .i64 a1, .int .i64 i0, .int .i64 i1, .int .i64 t0, .int .i64 t1, .string nm, .string nw, .int .i64 off, .string dt] _ _ (KD.out.1.get 2 rfl)
          have hb := below_setRow KD.out.1.2 (Nat.le_refl _) #[.int .i64 s0, .int .i64 s1, .int .i64 k, .int .i64 a0, .int .i64 a1, .int .i64 i0, .int .i64 i1, .int .i64 t0, .int .i64 t1, .string nm, .string nw, .int .i64 off, .string dt]
          generalize World.setRow _ w.heap.size #[.int .i64 s0, .int .i64 s1, .int .i64 k, .int .i64 a0, .int .i64 a1, .int .i64 i0, .int .i64 i1, .int .i64 t0, .int .i64 t1, .string nm, .string nw, .int .i64 off, .string dt] = WF at *
          go_wp2_with fail
          have o0 := cell_of_row WF _ 0 _ _ _ (hz)
          have o1 := cell_of_row WF _ 1 _ _ _ (hz)
          have o2 := cell_of_row WF _ 2 _ _ _ (hz)
          have o3 := cell_of_row WF _ 3 _ _ _ (hz)
          have o4 := cell_of_row WF _ 4 _ _ _ (hz)
          have o5 := cell_of_row WF _ 5 _ _ _ (hz)
          have o6 := cell_of_row WF _ 6 _ _ _ (hz)
          have o7 := cell_of_row WF _ 7 _ _ _ (hz)
          have o8 := cell_of_row WF _ 8 _ _ _ (hz)
          have o9 := cell_of_row WF _ 9 _ _ _ (hz)
          have o10 := cell_of_row WF _ 10 _ _ _ (hz)
          have o11 := cell_of_row WF _ 11 _ _ _ (hz)
          have o12 := cell_of_row WF _ 12 _ _ _ (hz)
          exact bodyPost_ret (v := .tuple #[.agg #[.int .i64 s0, .int .i64 s1, .int .i64 k, .int .i64 a0, .int .i64 a1, .int .i64 i0, .int .i64 i1, .int .i64 t0, .int .i64 t1, .string nm, .string nw, .int .i64 off, .string dt], .string y9, .int .i64 0]) (by simp [results, Try.results31, go_sem, o0, o1, o2, o3, o4, o5, o6, o7, o8, o9, o10, o11, o12]) rfl ⟨by simp, hb⟩
        | false =>
          go_wp2_with (first | ((with_reducible refine gate_store (t := 50) rfl ?_); refine wpList_store_row rfl _ _ _ rfl w.heap.size #[.int .i64 0, .int .i64 0, .int .i64 0, .int .i64 0, .int .i64 0, .int .i64 0, .int .i64 0, .int .i64 0, .int .i64 0, .string ⟨#[]⟩, .string ⟨#[]⟩, .int .i64 0, .string ⟨#[]⟩] rfl rfl 50 #[.int .i64 0, .int .i64 0, .int .i64 0, .int .i64 0, .int .i64 0, .int .i64 0, .int .i64 0, .int .i64 0, .int .i64 0, .string ⟨#[]⟩, .string ⟨#[]⟩, .int .i64 0, .string ⟨#[]⟩] (KM.out.1.get 2 rfl) size_op13 rfl z13_one ?_))
          have hz : (x1.setRow w.heap.size #[.int .i64 0, .int .i64 0, .int .i64 0, .int .i64 0, .int .i64 0, .int .i64 0, .int .i64 0, .int .i64 0, .int .i64 0, .string ⟨#[]⟩, .string ⟨#[]⟩, .int .i64 0, .string ⟨#[]⟩]).heap[w.heap.size]? = some (.cells #[.int .i64 0, .int .i64 0, .int .i64 0, .int .i64 0, .int .i64 0, .int .i64 0, .int .i64 0, .int .i64 0, .int .i64 0, .string ⟨#[]⟩, .string ⟨#[]⟩, .int .i64 0, .string ⟨#[]⟩] 50 (0, 0)) := setRow_heap _ _ _ _ _ _ (KM.out.1.get 2 rfl)
          have hb := below_setRow KM.out.1.2 (Nat.le_refl _) #[.int .i64 0, .int .i64 0, .int .i64 0, .int .i64 0, .int .i64 0, .int .i64 0, .int .i64 0, .int .i64 0, .int .i64 0, .string ⟨#[]⟩, .string ⟨#[]⟩, .int .i64 0, .string ⟨#[]⟩]
          generalize x1.setRow w.heap.size #[.int .i64 0, .int .i64 0, .int .i64 0, .int .i64 0, .int .i64 0, .int .i64 0, .int .i64 0, .int .i64 0, .int .i64 0, .string ⟨#[]⟩, .string ⟨#[]⟩, .int .i64 0, .string ⟨#[]⟩] = WF at *
          have o0 := cell_of_row WF _ 0 _ _ _ (hz)
          have o1 := cell_of_row WF _ 1 _ _ _ (hz)
          have o2 := cell_of_row WF _ 2 _ _ _ (hz)
          have o3 := cell_of_row WF _ 3 _ _ _ (hz)
          have o4 := cell_of_row WF _ 4 _ _ _ (hz)
          have o5 := cell_of_row WF _ 5 _ _ _ (hz)
          have o6 := cell_of_row WF _ 6 _ _ _ (hz)
          have o7 := cell_of_row WF _ 7 _ _ _ (hz)
          have o8 := cell_of_row WF _ 8 _ _ _ (hz)
          have o9 := cell_of_row WF _ 9 _ _ _ (hz)
          have o10 := cell_of_row WF _ 10 _ _ _ (hz)
          have o11 := cell_of_row WF _ 11 _ _ _ (hz)
          have o12 := cell_of_row WF _ 12 _ _ _ (hz)
          exact bodyPost_ret (v := .tuple #[.agg #[.int .i64 0, .int .i64 0, .int .i64 0, .int .i64 0, .int .i64 0, .int .i64 0, .int .i64 0, .int .i64 0, .int .i64 0, .string ⟨#[]⟩, .string ⟨#[]⟩, .int .i64 0, .string ⟨#[]⟩], .string ⟨#[]⟩, .int .i64 2]) (by simp [results, Try.results31, go_sem, o0, o1, o2, o3, o4, o5, o6, o7, o8, o9, o10, o11, o12]) rfl ⟨by simp, hb⟩
end Go.Proofs.Ytcekecpbjmfbhaa
