/- Texts that belong together, in one. -/
import Derived.Test.YtcgkkjfbdappoaaHistAll
import Derived.Test.YtcgkkjfbdappoaaCauRefMay
import Derived.Test.YtcgkkjfbdappoaaMsgOpen
import Derived.Test.YtcgkkjfbdappoaaCauShown
/- The laws' own histories (thimblelaw17.history): the walk. -/
namespace Go.Proofs.Ytcgkkjfbdappoaa
open Go.RowKit Go.Proofs.YtcgkkjfbdappoaaW.PrintWords Go.Proofs.YtcgkkjfbdappoaaW.PrintLast Go.Proofs.YtcgkkjfbdappoaaW.PrintMore
set_option linter.unusedVariables false
set_option linter.unusedSimpArgs false

/-- Operations in a slice. -/
def opvE : Elt OpV where
  ty := 32
  sl := 43
  n := 13
  bytes := 128
  zero := .agg OpV.zero.cells
  enc := fun o => o.cells.toList
  pos := by decide
  len := fun _ => rfl
  one := fun o u hu => by
    have : o.cells.all (·.oneCell') = true := by kernel_rfl
    rw [Array.all_eq_true_iff_forall_mem] at this
    exact this u (by simpa using hu)
  info := by kernel_rfl
  zlen := by kernel_rfl
  und := Try.underlying43
  small := by decide
/-- Bytes in a slice. -/
def byteE : Elt UInt8 where
  ty := 5
  sl := 44
  n := 1
  bytes := 1
  zero := .int .u8 0
  enc := fun x => [.int .u8 (x.toNat : Int)]
  pos := by decide
  len := fun _ => rfl
  one := fun x u hu => by simp at hu; subst hu; rfl
  info := by kernel_rfl
  zlen := rfl
  und := Try.underlying44
  small := by decide
theorem wrap_nat {s : Nat} (h : s < 100000) : wrap64 (s : Int) = (s : Int) ∧ IntKind.i64.wrap (s : Int) = (s : Int) := by
  constructor
  · unfold wrap64; omega
  · rw [IntKind.wrap_i64]; omega
theorem wrap_int {s : Int} (h : 0 ≤ s) (k : s < 100000) : wrap64 s = s ∧ IntKind.i64.wrap s = s := by
  constructor
  · unfold wrap64; omega
  · rw [IntKind.wrap_i64]; omega
theorem lt8_of {r : Nat} (h : r < 3) : (r : Int) < 8 := by omega
theorem byte_lt (u : UInt8) : u.toNat < 100000 := by have := u.toNat_lt; omega
theorem stp_one (t r : Int) : (#[Value.int .i64 t, .int .i64 r] : Array Value).all (·.oneCell') = true := by kernel_rfl
theorem opv_one (o : OpV) : o.cells.all (·.oneCell') = true := by kernel_rfl
theorem op13 : (Try.prog.info? 32).map (·.size) = some 13 := by kernel_rfl
theorem stp2 : (Try.prog.info? 30).map (·.size) = some 2 := by kernel_rfl
theorem rmsg22 : (Try.prog.info? 37).map (·.size) = some 22 := by kernel_rfl
theorem v88 : (Try.prog.info? 26).map (·.size) = some 8 := by kernel_rfl
theorem run_loadVar_at {P : Program} (w : World) (ad : Addr) (ty : TypeId) (cs : List Value) (d : TypeDesc) (hc : ∀ j v, cs[j]? = some v → w.cell? (ad.add j) = some v)
    (hu : P.underlying ty = some d) (hd : d.isRow = true) (hi : (P.info? ty).map (·.size) = some cs.length) : (loadVar ty ad).run P w = .ok (.agg cs.toArray) w := by
  have hl : (loadCells ad cs.length).run P w = .ok cs.toArray w := run_loadCells_list (P := P) w ad cs hc
  cases hq : P.info? ty with
  | none => simp [hq] at hi
  | some i =>
    have hs : i.size = cs.length := by simpa [hq] using hi
    have hagg : (isAgg ty).run P w = .ok true w := by
      unfold isAgg
      rw [Sem.run_bind, run_underlying hu w]
      cases d <;> simp_all
    simp [loadVar, Sem.run_bind, hagg, sizeOf, typeInfo, hq, hs, hl]
theorem wpList_load_at {P : Program} {ops : Array Oper} {rest : List Oper} {op : Oper} {a : Act} {w : World} {Q : Exit → Act → World → Prop} (hgd : op.guard = none) (ty : TypeId) (x : Operand) (ho : op.op = .load ty x)
    (ad : Addr) (hx : a.eval x = .pointer (some ad)) (cs : List Value) (d : TypeDesc) (hc : ∀ j v, cs[j]? = some v → w.cell? (ad.add j) = some v)
    (hu : P.underlying ty = some d) (hd : d.isRow = true) (hi : (P.info? ty).map (·.size) = some cs.length)
    (h : wpList P ops Q rest (a.put op.dst (.agg cs.toArray)) w) : wpList P ops Q (op :: rest) a w := by
  refine wpList_plain hgd fun K hK => ?_
  unfold Oper.wp execOp
  simp only [ho, hx, Instr.loadAt, Instr.sureAddr, Sem.run_bind, Sem.run_pure, Result.andThen_ok, run_loadVar_at w ad ty cs d hc hu hd hi]
  exact hK _ _ h
theorem elt_at {α : Type} {E : Elt α} {w : World} {a : Addr} {n cap : Nat} {l : List α} (h : E.Are w (.slice (some a) n cap) l) {j : Nat} {x : α} (hx : l[j]? = some x) : ∀ i u, (E.enc x)[i]? = some u → w.cell? ((a.add (j * E.n)).add i) = some u := fun i u hu => by
  obtain ⟨b, e, hc⟩ := h.at hx
  cases e
  rw [Deep.add_add]
  exact hc i u hu
theorem byte_at {w : World} {a : Addr} {n cap : Nat} {l : List UInt8} (h : byteE.Are w (.slice (some a) n cap) l) {j : Nat} {x : UInt8} (hx : l[j]? = some x) : w.cell? (a.add j) = some (.int .u8 (x.toNat : Int)) := by
  have c := elt_at h hx 0 _ rfl
  rw [Deep.add_add] at c
  simpa [byteE] using c
theorem len1 {α : Type} (h : List α) (m : α) : (h ++ [m]).length = h.length + 1 := by simp
/-- An operation with another stamp. -/
def OpV.stamped (o : OpV) (t r : Int) : OpV := { o with t := t, r := r }
theorem op_stamped {w W : World} {g : Nat} {o : OpV} (h : Holds w [(g, .cells o.cells 32 (0, 0))] W) (hg : w.heap.size ≤ g) (t r : Int) : Holds w [(g, .cells (o.stamped t r).cells 32 (0, 0))] (W.setCells g 0 (#[Value.int .i64 t, .int .i64 r] : Array Value).toList) := by
  refine ⟨fun p hp => ?_, below_setCellsC h.2 hg _ _⟩
  obtain rfl := List.mem_singleton.1 hp
  obtain ⟨cur, h1, h2, h3⟩ := setCells_row (#[Value.int .i64 t, .int .i64 r] : Array Value).toList 0 W _ (h.get 0 rfl) (by show 0 + 2 ≤ 13; decide)
  rw [h1]
  congr 2
  apply Array.ext'
  rw [h3]
  rfl
theorem op_there {w W : World} {g : Nat} {o : OpV} (h : Holds w [(g, .cells o.cells 32 (0, 0))] W) : W.there g 0 2 := fun j hj => by
  have hg := h.get 0 rfl
  refine ⟨?_, frozen_of_row W g _ _ _ hg⟩
  rw [cell_of_row W g _ _ _ _ hg, Array.getElem?_eq_getElem (by show 0 + j < 13; omega)]
  rfl
/-- The rows in their block. -/
def Mat (bs : Nat) (R : List (List Int)) (W : World) : Prop := W.heap[bs]? = some (.cells (rowsV R).toArray 64 (0, 0))
theorem Mat.row {bs : Nat} {R : List (List Int)} {W : World} (h : Mat bs R W) {r : Nat} {x : List Int} (hx : R[r]? = some x) (hl : x.length = 8) : W.rangeAt bs (r * 8) (vec x).toList := fun j v hj => by
  show W.cell? ⟨bs, r * 8 + j, none⟩ = some v
  rw [cell_of_row W bs _ _ _ _ h]
  rw [← rowV_eq hl] at hj
  have hj8 : j < 8 := by have := (List.getElem?_eq_some_iff.1 hj).1; rw [rowV_len] at this; exact this
  rw [rowV_at x hj8] at hj
  cases hj
  have := rowsV_at hx hj8
  simpa using this
theorem Mat.there {bs : Nat} {R : List (List Int)} {W : World} (h : Mat bs R W) {r : Nat} (hr : r < R.length) : W.there bs (r * 8) 8 := fun j hj => by
  refine ⟨?_, frozen_of_row W bs _ _ _ h⟩
  rw [cell_of_row W bs _ _ _ _ h, Array.getElem?_eq_getElem (by simp [rowsV_len]; omega)]
  rfl
theorem Mat.lay {bs : Nat} {R : List (List Int)} {W : World} (h : Mat bs R W) {r : Nat} (hr : r < R.length) {y : List Int} (hy : y.length = 8) : Mat bs (R.set r y) (W.setCells bs (r * 8) (vec y).toList) := by
  have hv : (vec y).toList.length = 8 := by rw [Array.length_toList, vec_size, hy]
  obtain ⟨cur, h1, h2, h3⟩ := setCells_row (vec y).toList (r * 8) W _ h (by simp [rowsV_len, vec_size, hy]; omega)
  show (W.setCells bs (r * 8) (vec y).toList).heap[bs]? = _
  rw [h1]
  congr 2
  apply Array.ext'
  rw [h3, hv, rowsV_set R r y hr, rowV_eq hy]
theorem Mat.cell {bs : Nat} {R : List (List Int)} {W : World} (h : Mat bs R W) {r k : Nat} {x : List Int} (hx : R[r]? = some x) (hl : x.length = 8) (hk : k < 8) (q : Int) : Mat bs (R.set r (x.set k q)) (W.setCell ⟨bs, r * 8 + k, none⟩ (.int .i64 q)) := by
  show (W.setCell ⟨bs, r * 8 + k, none⟩ (.int .i64 q)).heap[bs]? = _
  rw [heap_setCell_same _ _ _ _ _ _ h]
  congr 2
  apply Array.ext'
  rw [Array.toList_setIfInBounds, ← rowsV_cell q hx hl hk]
theorem Mat.at {bs : Nat} {R : List (List Int)} {W : World} (h : Mat bs R W) {r k : Nat} {x : List Int} (hx : R[r]? = some x) (hk : k < 8) : W.cell? ⟨bs, r * 8 + k, none⟩ = some (.int .i64 (nth x (k : Int))) := by
  rw [cell_of_row W bs _ _ _ _ h]
  have := rowsV_at hx hk
  simpa [nth] using this
theorem Mat.keep {bs : Nat} {R : List (List Int)} {W W' : World} (h : Mat bs R W) (hb : Below W.heap.size W W') : Mat bs R W' := (hb.block _ (lt_of h)).trans h
/-- What holds at the head of the loop. -/
structure Ser (w : World) (v : Value) (h : List MsgV) (R : List (List Int)) (n : Nat) (W : World) : Prop where
  bel : Below w.heap.size w W
  mat : Mat w.heap.size R W
  own : refMsgE.Own (w.heap.size + 1) W v h
  hist : Hist h
  small : ∀ m ∈ h, m.dt.size ≤ 140737488355328
  len : h.length ≤ n
  rows : HistI R h
theorem Ser.call {w W W' : World} {v : Value} {h : List MsgV} {R : List (List Int)} {n : Nat} (H : Ser w v h R n W) (hb : Below W.heap.size W W') : Ser w v h R n W' :=
  ⟨below_step H.bel hb, H.mat.keep hb, H.own.below hb, H.hist, H.small, H.len, H.rows⟩
/-- One row laid anew. -/
theorem Ser.lay {w W : World} {v : Value} {h : List MsgV} {R : List (List Int)} {n : Nat} (H : Ser w v h R n W) {r s : Nat} (hr : r < 3) {x y : List Int} (hx : R[r]? = some x) (hy : R[s]? = some y) : Ser w v h (R.set r (joinL x y)) n (W.setCells w.heap.size (r * 8) (vec (joinL x y)).toList) := by
  have hjl := joinL_len8 (H.rows.row r x hx) (H.rows.row s y hy)
  refine ⟨below_setCellsC H.bel (Nat.le_refl _) _ _, H.mat.lay (List.getElem?_eq_some_iff.1 hx).1 hjl, own_keep H.own (fun k hk => setCells_far _ _ _ (by have := (H.own.lt hk).1; omega)), H.hist, H.small, H.len, H.rows.join hr hx hy⟩
/-- One more message, and its number in its row. -/
theorem Ser.add {w W W2 : World} {v v2 : Value} {h : List MsgV} {R : List (List Int)} {n : Nat} (H : Ser w v h R n W) (hb : Below (w.heap.size + 1) W W2) {r : Nat} (hr : r < 3) {x : List Int} (hx : R[r]? = some x) {op : OpV} (ho : op.r = (r : Int)) (hd : op.dt.size ≤ 140737488355328) (hf : (mkMsg (nth x (r : Int) + 1) x op).fine = true)
    (hown : refMsgE.Own (w.heap.size + 1) W2 v2 (h ++ [mkMsg (nth x (r : Int) + 1) x op])) : Ser w v2 (h ++ [mkMsg (nth x (r : Int) + 1) x op]) (R.set r (x.set r (nth x (r : Int) + 1))) (n + 1) (W2.setCell ⟨w.heap.size, r * 8 + r, none⟩ (.int .i64 (nth x (r : Int) + 1))) := by
  have hxl := H.rows.row r x hx
  have hm : Mat w.heap.size R W2 := (hb.block _ (by omega)).trans H.mat
  refine ⟨(H.bel.trans (hb.mono (Nat.le_succ _))).setCell (Nat.le_refl _) _, hm.cell hx hxl (by omega) _, own_keep hown (fun k hk => heap_setCell_other _ _ _ _ (by have := (hown.lt hk).1; show k ≠ w.heap.size; omega)), Hist.add H.hist H.rows hr hx ho hf, ?_, ?_, H.rows.add hr hx (m := mkMsg (nth x (r : Int) + 1) x op) ho rfl⟩
  · intro m hm
    rcases List.mem_append.1 hm with hm | hm
    · exact H.small m hm
    · obtain rfl := List.mem_singleton.1 hm
      exact hd
  · have := H.len; simp; omega
theorem Ser.more {w W : World} {v : Value} {h : List MsgV} {R : List (List Int)} {n k : Nat} (H : Ser w v h R n W) (hk : n ≤ k) : Ser w v h R k W := ⟨H.bel, H.mat, H.own, H.hist, H.small, Nat.le_trans H.len hk, H.rows⟩
theorem ser_small {w W : World} {v : Value} {h : List MsgV} {R : List (List Int)} {n r : Nat} {x : List Int} (H : Ser w v h R n W) (hn : n < 30) (hr : r < 3) (hx : R[r]? = some x) : 0 ≤ nth x (r : Int) + 1 ∧ nth x (r : Int) + 1 < 100000 := by
  have h5 := H.rows.bd r x hx r (by omega)
  have h6 : cntM (r : Int) h ≤ (h.length : Int) := by unfold cntM; have := List.length_filter_le (fun m : MsgV => m.r == (r : Int)) h; omega
  have h7 := H.len
  omega
theorem ser_ne {w W : World} {v : Value} {h : List MsgV} {R : List (List Int)} {n : Nat} (H : Ser w v h R n W) {q : Nat} (e : v.ownBlock = some q) : q ≠ W.drew.heap.size := by
  have h1 := (H.own.lt e).2
  have h2 : W.drew.heap.size = W.heap.size := rfl
  omega
theorem ser_le {w W : World} {v : Value} {h : List MsgV} {R : List (List Int)} {n k : Nat} (H : Ser w v h R n W) (hk : k + n = 30) : h.length ≤ 30 := by have := H.len; omega
theorem ser_measure {k i : Nat} (h : k + i = 30) (hi : i < 30) : 29 - i < k := by omega
theorem ser_next {i i2 : Nat} (hi : i < 30) (h2 : i2 = i + 1) : 29 - i + i2 = 30 := by omega
theorem ser_len {w W : World} {v : Value} {h : List MsgV} {R : List (List Int)} {n : Nat} (H : Ser w v h R n W) (hn : n < 30) : h.length ≤ 50000000000 := by have := H.len; omega
theorem ser_base {w W : World} {v : Value} {h : List MsgV} {R : List (List Int)} {n : Nat} {o : Obj} (H : Ser w v h R n W) : w.heap.size + 1 ≤ (W.alloc o).heap.size := by have := lt_of H.mat; simp; omega
theorem ser_grown {w W w9 : World} {A : Option Addr} {n cap : Nat} {h : List MsgV} {R : List (List Int)} {k : Nat} {o : Obj} (H : Ser w (.slice A n cap) h R k W) (hg : (W.alloc o).grownBy w9 (Value.slice A n cap).ownBlock) : Below (w.heap.size + 1) W w9 := by
  have hl := lt_of H.mat
  have hb : Below (w.heap.size + 1) W (W.alloc o) := (Below.refl _ _).alloc (by omega) _
  exact hb.grown hg (by simp; omega) (fun q e => (H.own.lt e).1)
theorem ser_msg {w W w9 : World} {A : Option Addr} {n cap : Nat} {h : List MsgV} {R : List (List Int)} {k b10 : Nat} {o : Obj} {m : MsgV} (H : Ser w (.slice A n cap) h R k W) (hm : W.heap[b10]? = some (.cells (msgC m) 37 (0, 0))) (hg : (W.alloc o).grownBy w9 (Value.slice A n cap).ownBlock) (hne : ∀ q, (Value.slice A n cap).ownBlock = some q → q ≠ b10) : w9.heap[b10]? = some (.cells (msgC m) 37 (0, 0)) :=
  (hg.block b10 (by have := lt_of hm; simp; omega) (fun e => hne b10 e.symm rfl)).trans ((heap_alloc_old _ _ (lt_of hm)).trans hm)
theorem ser_mat {w W W2 : World} {v : Value} {h : List MsgV} {R : List (List Int)} {n : Nat} (H : Ser w v h R n W) (hb : Below (w.heap.size + 1) W W2) : Mat w.heap.size R W2 := (hb.block _ (by omega)).trans H.mat
theorem ser_far {w W X : World} {v : Value} {h : List MsgV} {R : List (List Int)} {n : Nat} {o : Obj} (H : Ser w v h R n W) (ho : X.heap[W.heap.size]? = some o) (k : Nat) (vs : List Value) : (X.setCells w.heap.size k vs).heap[W.heap.size]? = some o :=
  (setCells_far _ _ _ (by have := lt_of H.mat; omega)).trans ho
theorem run_buildC {o : Oper} {ρ : Operand → Value} {w : World} (t : TypeId) (parts : Array (Nat × Operand)) (ho : o.op = .build t parts) (vs : Array (Nat × Value)) (hvs : (parts.map fun (i, x) => (i, ρ x)) = vs) (v : Value) (hr : (Instr.build t vs).run Try.prog w = .ok v w) : (execOp ρ o).run Try.prog w = .ok (.value v) w := by
  unfold execOp
  simp only [ho, hvs, Sem.run_bind, Sem.run_pure, Result.andThen_ok, hr]
theorem run_allocC {o : Oper} {ρ : Operand → Value} {w : World} (ho : o.op = .alloc 37) : (execOp ρ o).run Try.prog w = .ok (.value (.pointer (some ⟨w.heap.size, 0, none⟩))) (w.alloc (.cells (msgC MsgV.zero) 37 (0, 0))) := by
  unfold execOp
  simp only [ho]
  go_simp
  rfl
theorem run_store_rm {o : Oper} {ρ : Operand → Value} {w : World} (x y : Operand) (ho : o.op = .store 37 x y) (m : MsgV) (hx : ρ x = .pointer (some ⟨w.heap.size, 0, none⟩)) (hy : ρ y = .agg (msgC m)) (old : Array Value) (hold : old.size = 22) :
    (execOp ρ o).run Try.prog (w.alloc (.cells old 37 (0, 0))) = .ok .skip (w.alloc (.cells (msgC m) 37 (0, 0))) := by
  rw [← alloc_setRow w old (msgC m)]
  exact run_store_row 37 x y ho w.heap.size (msgC m) hx hy 37 old (heap_alloc_new w _) rmsg22 hold (msgC_one m)
theorem build1r {o : Oper} {ρ : Operand → Value} {w : World} (x0 : Operand) (ho : o.op = .buildSlice 22 1 #[(0, x0)]) (m : MsgV) (h0 : ρ x0 = .agg (msgC m)) :
    (execOp ρ o).run Try.prog w = .ok (.value (.slice (some ⟨w.heap.size, 0, none⟩) 1 1)) (w.alloc (.cells (msgC m) 37 (0, 0))) := by
  obtain ⟨i, hi, e⟩ := Option.map_eq_some_iff.1 refMsgE.info
  simp only [Prod.mk.injEq] at e
  obtain ⟨e1, e2, e3⟩ := e
  unfold execOp
  simp only [ho, List.map_toArray, List.map_cons, List.map_nil, h0]
  have h22 : i.size = 22 := e2
  have hr := run_buildSlice (P := Try.prog) w 22 37 1 #[(0, .agg (msgC m))] (msgC m) i _ Try.underlying22 hi e1 (by rw [h22]; decide) (by rw [h22]; decide) (by rw [h22]; kernel_rfl)
  simp only [Sem.run_bind, hr, Result.andThen_ok, Sem.run_pure]
/-- What comes in. -/
def InOps (w : World) (v : Value) (A : Option Addr) (cap : Nat) (l : List OpV) : Prop := v = .slice A l.length cap ∧ opvE.Are w v l ∧ ∀ o ∈ l, o.dt.size ≤ 140737488351232
def InBytes (w : World) (v : Value) (A : Option Addr) (cap : Nat) (l : List UInt8) : Prop := v = .slice A l.length cap ∧ byteE.Are w v l
set_option maxHeartbeats 4000000 in
set_option maxRecDepth 100000 in
theorem cau_history (w : World) (vo vs : Value) (Ao As : Option Addr) (co cs : Nat) (lo : List OpV) (ls : List UInt8) (ho : InOps w vo Ao co lo) (hs : InBytes w vs As cs ls) (HMay : ∀ (m : MsgV) (hd : m.dt.size ≤ 140737488355328) (w : World), Calls Try.prog 28 #[.agg (msgC m)] w fun e w' => e = .returned (.bool m.fine) ∧ Below w.heap.size w w') :
    Calls Try.prog 13 #[vo, vs] w fun e w' => ∃ v h, e = .returned v ∧ refMsgE.Own (w.heap.size + 1) w' v h ∧ Hist h ∧ (∀ m ∈ h, m.dt.size ≤ 140737488355328) ∧ h.length ≤ 30 ∧ Below w.heap.size w w' := by
  obtain ⟨rfl, hao, hdo⟩ := ho
  obtain ⟨rfl, has⟩ := hs
  have HA := Hd.mk (⟨hao, hdo, has⟩ : _ ∧ _ ∧ _)
  clear hao hdo has
  go_enter Try.func13, Try.ntmps13
  go_upto_region 3 with (fail)
  refine world_gen (fun W => Ser w (.slice none 0 0) [] (List.replicate 8 zero8) 0 W) ⟨(Below.refl _ _).alloc (Nat.le_refl _) _, (heap_alloc_new w _).trans (by kernel_rfl), Elt.Own.nil _ _, Hist.nil, by simp, Nat.le_refl _, HistI.start⟩ (fun W hW => ?_)
  have HW := Hd.mk hW
  clear hW
  go_wp2_with fail
  go_loopg [5, 7] 30 (fun kq v5 v7 w' => ∃ (i : Nat) (h : List MsgV) (R : List (List Int)), v7 = .int .i64 (i : Int) ∧ Hd (kq + i = 30 ∧ Ser w v5 h R i w'))
  case atStart => exact ⟨0, [], _, rfl, ⟨by omega, HW.out⟩⟩
  case round =>
    clear HW
    obtain ⟨i, h, R, rfl, HR⟩ := hrel
    obtain ⟨hki, hser⟩ := HR.out
    obtain ⟨A5, c5, rfl⟩ := hser.own.slice
    have HSer := Hd.mk hser
    have HKI := Hd.mk hki
    clear hser hki HR
    by_cases h1 : i < lo.length
    · have e1 : (i : Int) < (lo.length : Int) := by omega
      by_cases h2 : i < 30
      · have e2 : (i : Int) < 30 := by omega
        obtain ⟨o, ho⟩ : ∃ o, lo[i]? = some o := ⟨_, List.getElem?_eq_getElem h1⟩
        obtain ⟨a, rfl, -⟩ := HA.out.1.at ho
        have HX := Hd.mk (elt_at (HA.out.1.keep HSer.out.bel) ho)
        have HDT := Hd.mk (show o.dt.size ≤ 140737488355328 by have := HA.out.2.1 o (List.mem_of_getElem? ho); omega)
        obtain ⟨r, hr⟩ : ∃ r : Nat, r = i % 3 := ⟨_, rfl⟩
        have hr3 : r < 3 := by omega
        have ht : Int.tmod (i : Int) 3 = (r : Int) := by rw [hr]; rfl
        obtain ⟨i2, hi2⟩ : ∃ i2 : Nat, i2 = i + 1 := ⟨_, rfl⟩
        have f1 : (i : Int) + 1 = (i2 : Int) := by omega
        have f2 := (wrap_nat (s := i2) (by omega)).1
        have f3 := (wrap_nat (s := r) (by omega)).1
        have HN := Hd.mk (⟨h1, h2, hr, hr3, hi2⟩ : _ ∧ _ ∧ _ ∧ _ ∧ _)
        clear ho h2 hr hr3 hi2
        go_upto_region 7 with (first | ((with_reducible refine gate_dst (N := 24) rfl ?_); refine wpList_load_at rfl 32 _ rfl (a.add (i * 13)) rfl o.cells.toList _ HX.out Try.underlying32 rfl op13 ?_) | ((with_reducible refine gate_store (t := 32) rfl ?_); refine wpList_store_row rfl _ _ _ rfl wr.heap.size o.cells rfl rfl 32 _ (heap_alloc_new wr _) op13 rfl (opv_one o) ?_))
        refine world_gen (fun W => Holds wr [(wr.heap.size, .cells o.cells 32 (0, 0))] W) ((Holds.nil wr).made _ o.cells 32) (fun W1 hK => ?_)
        have K1 := Hd.mk hK
        have HT1 := Hd.mk (op_there hK)
        clear hK HX
        go_upto_region 9 with (first | ((with_reducible refine gate_store (t := 30) rfl ?_); refine wpList_store_mid rfl 30 _ _ rfl wr.heap.size 0 #[.int .i64 (i2 : Int), .int .i64 (r : Int)] rfl rfl HT1.out stp2 (stp_one _ _) ?_))
        refine world_gen (fun W => Holds wr [(wr.heap.size, .cells (o.stamped (i2 : Int) (r : Int)).cells 32 (0, 0))] W) (op_stamped K1.out (Nat.le_refl _) _ _) (fun W2 hK => ?_)
        have K2 := Hd.mk hK
        clear hK K1 HT1
        obtain ⟨op, hop⟩ : ∃ op, op = o.stamped (i2 : Int) (r : Int) := ⟨_, rfl⟩
        have HOP := Hd.mk (show op.r = (r : Int) ∧ op.dt.size ≤ 140737488355328 by rw [hop]; exact ⟨rfl, HDT.out⟩)
        rw [← hop] at K2
        clear hop
        obtain ⟨x, hx⟩ : ∃ x, R[r]? = some x := ⟨_, List.getElem?_eq_getElem (by rw [HSer.out.rows.len]; have := HN.out.2.2.2.1; omega)⟩
        have HXR := Hd.mk (⟨hx, HSer.out.rows.row r x hx⟩ : _ ∧ _)
        clear hx
        by_cases h3 : i < ls.length
        · have e3 : (i : Int) < (ls.length : Int) := by omega
          obtain ⟨u, hu⟩ : ∃ u, ls[i]? = some u := ⟨_, List.getElem?_eq_getElem h3⟩
          obtain ⟨b, rfl, -⟩ := HA.out.2.2.at hu
          have HU := Hd.mk (fun (W' : World) (hb : Below wr.heap.size wr W') => byte_at (HA.out.2.2.keep (below_step HSer.out.bel hb)) hu)
          obtain ⟨s, hs⟩ : ∃ s : Nat, s = u.toNat % 3 := ⟨_, rfl⟩
          have hs3 : s < 3 := by rw [hs]; exact Nat.mod_lt _ (by decide)
          have hts : Int.tmod (u.toNat : Int) 3 = (s : Int) := by rw [hs]; rfl
          obtain ⟨y, hy⟩ : ∃ y, R[s]? = some y := ⟨_, List.getElem?_eq_getElem (by rw [HSer.out.rows.len]; exact Nat.lt_trans hs3 (by decide))⟩
          have HYR := Hd.mk (⟨hy, HSer.out.rows.row s y hy, hs3⟩ : _ ∧ _ ∧ _)
          have HJ := Hd.mk (vec_Join x y HXR.out.2 HYR.out.2.1)
          have HJL := Hd.mk (joinL_len8 HXR.out.2 HYR.out.2.1)
          have r8 := lt8_of HN.out.2.2.2.1
          have r0 := Int.natCast_nonneg r
          have s8 := lt8_of hs3
          have s0 := Int.natCast_nonneg s
          have hs4 := (wrap_nat (Nat.lt_trans hs3 (by decide))).1
          have hs5 := (wrap_nat (Nat.lt_trans hs3 (by decide))).2
          have hs6 := (wrap_nat (byte_lt u)).2
          have hs7 := (wrap_nat (byte_lt u)).1
          clear hu hs hs3 hy h3
          generalize hjn : joinL x y = jn at *
          have HJN := Hd.mk hjn
          clear hjn
          go_upto_region 10 with (fail)
          refine start_ (n := 15) (S := fun W_ => Holds wr [(wr.heap.size, .cells op.cells 32 (0, 0))] W_) (ds := [14]) #[false, false, false, false, false, false, false, false, false, false, false, false, false, false, false] (by kernel_rfl) rfl rfl (K2.out.drew) (fun hHeld => ?_)
          refine pure_ (i := 0) (N := some 36) (v := ?_) (a' := ?_) #[true, false, false, false, false, false, false, false, false, false, false, false, false, false, false] rfl rfl (by kernel_rfl) (fun _ _ _ h => h) (Or.inl ⟨by rfl, ?_⟩) ?_ ?_
          rotate_left
          · intro w_
            go_simp
            try with_reducible rfl
          rotate_left
          · simp only [Act.put, List.setIfInBounds_toArray, List.set_cons_zero, List.set_cons_succ]
            rfl
          refine pure_ (i := 1) (N := some 37) (v := ?_) (a' := ?_) #[true, true, false, false, false, false, false, false, false, false, false, false, false, false, false] rfl rfl (by kernel_rfl) (fun _ _ _ h => h) (Or.inl ⟨by rfl, ?_⟩) ?_ ?_
          rotate_left
          · intro w_
            go_simp
            try with_reducible rfl
          rotate_left
          · simp only [Act.put, List.setIfInBounds_toArray, List.set_cons_zero, List.set_cons_succ]
            rfl
          refine pure_ (i := 2) (N := some 38) (v := ?_) (a' := ?_) #[true, true, true, false, false, false, false, false, false, false, false, false, false, false, false] rfl rfl (by kernel_rfl) (fun _ _ _ h => h) (Or.inl ⟨by rfl, ?_⟩) ?_ ?_
          rotate_left
          · intro w_
            go_simp
            try with_reducible rfl
          rotate_left
          · simp only [Act.put, List.setIfInBounds_toArray, List.set_cons_zero, List.set_cons_succ]
            rfl
          refine take_ (i := 3) (N := some 39) (v := .agg (vec x)) (a' := ?_) #[true, true, true, true, false, false, false, false, false, false, false, false, false, false, false] rfl rfl (by kernel_rfl) (fun _ _ _ h => h) (Or.inl ⟨by rfl, fun w' h => run_load_rangeC 26 _ rfl w.heap.size (r * 8) (vec x).toList rfl (Mat.row (HSer.out.mat.keep h.2) HXR.out.1 HXR.out.2) _ Try.underlying26 rfl (by rw [Array.length_toList, vec_size, HXR.out.2]; exact v88)⟩) hHeld ?_ ?_
          rotate_left
          · simp only [Act.put, List.setIfInBounds_toArray, List.set_cons_zero, List.set_cons_succ]
            rfl
          refine pure_ (i := 4) (N := some 40) (v := ?_) (a' := ?_) #[true, true, true, true, true, false, false, false, false, false, false, false, false, false, false] rfl rfl (by kernel_rfl) (fun _ _ _ h => h) (Or.inl ⟨by rfl, ?_⟩) ?_ ?_
          rotate_left
          · intro w_
            go_simp
            try with_reducible rfl
          rotate_left
          · simp only [Act.put, List.setIfInBounds_toArray, List.set_cons_zero, List.set_cons_succ]
            rfl
          refine pure_ (i := 5) (N := some 41) (v := ?_) (a' := ?_) #[true, true, true, true, true, true, false, false, false, false, false, false, false, false, false] rfl rfl (by kernel_rfl) (fun _ _ _ h => h) (Or.inl ⟨by rfl, ?_⟩) ?_ ?_
          rotate_left
          · intro w_
            go_simp
            try with_reducible rfl
          rotate_left
          · simp only [Act.put, List.setIfInBounds_toArray, List.set_cons_zero, List.set_cons_succ]
            rfl
          refine pure_ (i := 6) (N := some 42) (v := ?_) (a' := ?_) #[true, true, true, true, true, true, true, false, false, false, false, false, false, false, false] rfl rfl (by kernel_rfl) (fun _ _ _ h => h) (Or.inl ⟨by rfl, ?_⟩) ?_ ?_
          rotate_left
          · intro w_
            go_simp
            try with_reducible rfl
          rotate_left
          · simp only [Act.put, List.setIfInBounds_toArray, List.set_cons_zero, List.set_cons_succ]
            rfl
          refine take_ (i := 7) (N := some 43) (v := .int .u8 (u.toNat : Int)) (a' := ?_) #[true, true, true, true, true, true, true, true, false, false, false, false, false, false, false] rfl rfl (by kernel_rfl) (fun _ _ _ h => h) (Or.inl ⟨by rfl, fun w' h => by have c := HU.out w' h.2; go_simp⟩) hHeld ?_ ?_
          rotate_left
          · simp only [Act.put, List.setIfInBounds_toArray, List.set_cons_zero, List.set_cons_succ]
            rfl
          refine pure_ (i := 8) (N := some 44) (v := ?_) (a' := ?_) #[true, true, true, true, true, true, true, true, true, false, false, false, false, false, false] rfl rfl (by kernel_rfl) (fun _ _ _ h => h) (Or.inl ⟨by rfl, ?_⟩) ?_ ?_
          rotate_left
          · intro w_
            go_simp
            try with_reducible rfl
          rotate_left
          · simp only [Act.put, List.setIfInBounds_toArray, List.set_cons_zero, List.set_cons_succ]
            rfl
          refine pure_ (i := 9) (N := some 45) (v := ?_) (a' := ?_) #[true, true, true, true, true, true, true, true, true, true, false, false, false, false, false] rfl rfl (by kernel_rfl) (fun _ _ _ h => h) (Or.inl ⟨by rfl, ?_⟩) ?_ ?_
          rotate_left
          · intro w_
            go_simp
            try with_reducible rfl
          rotate_left
          · simp only [Act.put, List.setIfInBounds_toArray, List.set_cons_zero, List.set_cons_succ]
            rfl
          refine pure_ (i := 10) (N := some 46) (v := ?_) (a' := ?_) #[true, true, true, true, true, true, true, true, true, true, true, false, false, false, false] rfl rfl (by kernel_rfl) (fun _ _ _ h => h) (Or.inl ⟨by rfl, ?_⟩) ?_ ?_
          rotate_left
          · intro w_
            go_simp
            try with_reducible rfl
          rotate_left
          · simp only [Act.put, List.setIfInBounds_toArray, List.set_cons_zero, List.set_cons_succ]
            rfl
          refine take_ (i := 11) (N := some 47) (v := .agg (vec y)) (a' := ?_) #[true, true, true, true, true, true, true, true, true, true, true, true, false, false, false] rfl rfl (by kernel_rfl) (fun _ _ _ h => h) (Or.inl ⟨by rfl, fun w' h => run_load_rangeC 26 _ rfl w.heap.size (s * 8) (vec y).toList rfl (Mat.row (HSer.out.mat.keep h.2) HYR.out.1 HYR.out.2.1) _ Try.underlying26 rfl (by rw [Array.length_toList, vec_size, HYR.out.2.1]; exact v88)⟩) hHeld ?_ ?_
          rotate_left
          · simp only [Act.put, List.setIfInBounds_toArray, List.set_cons_zero, List.set_cons_succ]
            rfl
          refine one_ (i := 12) (N := some 48) #[true, true, true, true, true, true, true, true, true, true, true, true, true, false, false] rfl rfl (by kernel_rfl) (by decide) (fun K hK => ?_)
          refine goes_ Try.func27 (by kernel_rfl) rfl #[.agg (vec x), .agg (vec y)] (by rfl) rfl rfl (by (try simp only [List.map_toArray, List.map_cons, List.map_nil]); first | done | rfl) ?_
          (with_reducible refine (HJ.out _).mono ?_)
          rintro e wr1 ⟨rfl, hr1⟩
          refine ⟨_, rfl, ?_⟩
          refine hK.out _ _ (hHeld.call hr1) (fun hHeld => ?_)
          clear hK K
          refine norm_ (a' := ?_) ?_ ?_
          rotate_left
          · show Act.put _ (some 48) _ = _
            simp only [Act.put, List.setIfInBounds_toArray, List.set_cons_zero, List.set_cons_succ]
            rfl
          refine pure_ (i := 13) (N := some 49) (v := ?_) (a' := ?_) #[true, true, true, true, true, true, true, true, true, true, true, true, true, true, false] rfl rfl (by kernel_rfl) (fun _ _ _ h => h) (Or.inl ⟨by rfl, ?_⟩) ?_ ?_
          rotate_left
          · intro w_
            go_simp
            try with_reducible rfl
          rotate_left
          · simp only [Act.put, List.setIfInBounds_toArray, List.set_cons_zero, List.set_cons_succ]
            rfl
          have hl := Ser.lay (HSer.out.call hHeld.2) HN.out.2.2.2.1 HXR.out.1 HYR.out.1
          rw [HJN.out] at hl
          have hth := (HSer.out.mat.keep hHeld.2).there (List.getElem?_eq_some_iff.1 HXR.out.1).1
          have hbk := ser_far HSer.out (hHeld.get 0 rfl) (r * 8) (vec jn).toList
          refine last_ (i := 14) (N := none) #[true, true, true, true, true, true, true, true, true, true, true, true, true, true, true] rfl rfl (by kernel_rfl) (by decide) (fun K hK => ?_)
          refine skip_ (by rfl) rfl (run_store_midC 26 _ _ rfl w.heap.size (r * 8) (vec jn) rfl rfl (by rw [vec_size, HJL.out]; exact hth) (by rw [vec_size, HJL.out]; exact v88) (vec_one _)) ?_
          refine hK.out _ _ ?_
          clear hK K
          refine done_ (by kernel_rfl) ?_
          have HL := Hd.mk (⟨hl, hbk⟩ : _ ∧ _)
          clear hHeld hl hth hbk K2
          obtain ⟨R3, hR3⟩ : ∃ R3, R3 = R.set r jn := ⟨_, rfl⟩
          rw [← hR3] at HL
          clear hR3
          go_upto_region 11 with (fail)
          refine world_gen (fun W3 => Ser w (.slice A5 h.length c5) h R3 i W3 ∧ W3.heap[wr.heap.size]? = some (.cells op.cells 32 (0, 0))) HL.out (fun W3 hW3 => ?_)
          have H3 := Hd.mk hW3
          clear hW3 HL hts r8 r0 s8 s0 hs4 hs5 hs6 hs7 HJ
          obtain ⟨x3, hx3⟩ : ∃ x3, R3[r]? = some x3 := ⟨_, List.getElem?_eq_getElem (by rw [H3.out.1.rows.len]; exact Nat.lt_trans HN.out.2.2.2.1 (by decide))⟩
          have HX3 := Hd.mk (⟨hx3, H3.out.1.rows.row r x3 hx3⟩ : _ ∧ _)
          clear hx3
          generalize hq : nth x3 (r : Int) = c3 at *
          have HQ3 := Hd.mk hq
          have HCA := Hd.mk (fun (W' : World) (hm : Mat w.heap.size R3 W') => (hm.at HX3.out.1 (k := r) (Nat.lt_trans HN.out.2.2.2.1 (by decide))).trans (by rw [HQ3.out]))
          have hcq : 0 ≤ c3 + 1 ∧ c3 + 1 < 100000 := hq ▸ ser_small H3.out.1 HN.out.2.1 HN.out.2.2.2.1 HX3.out.1
          have g1 := (wrap_int hcq.1 hcq.2).1
          have g2 := (wrap_int hcq.1 hcq.2).2
          have HMQ := Hd.mk (mkMsg_build (c3 + 1) op HX3.out.2)
          obtain ⟨m, hm⟩ : ∃ m, m = mkMsg (c3 + 1) x3 op := ⟨_, rfl⟩
          have HM := Hd.mk (show m.q = c3 + 1 ∧ m.dt.size ≤ 140737488355328 by rw [hm]; exact ⟨rfl, HOP.out.2⟩)
          rw [← hm] at HMQ
          have HME := Hd.mk hm
          have hb8 : w.heap.size < wr.heap.size := lt_of HSer.out.mat
          have r8 := lt8_of HN.out.2.2.2.1
          have r0 := Int.natCast_nonneg r
          clear hq hcq hm
          refine start_ (n := 13) (S := fun W_ => Mat w.heap.size R3 W_ ∧ W_.heap[wr.heap.size]? = some (.cells op.cells 32 (0, 0))) (ds := [12]) #[false, false, false, false, false, false, false, false, false, false, false, false, false] (by kernel_rfl) rfl rfl (⟨H3.out.1.mat.keep (Below.refl _ _).drew, H3.out.2⟩) (fun hHeld => ?_)
          refine pure_ (i := 0) (N := some 50) (v := ?_) (a' := ?_) #[true, false, false, false, false, false, false, false, false, false, false, false, false] rfl rfl (by kernel_rfl) (fun _ _ _ h => h) (Or.inl ⟨by rfl, ?_⟩) ?_ ?_
          rotate_left
          · intro w_
            go_simp
            try with_reducible rfl
          rotate_left
          · simp only [Act.put, List.setIfInBounds_toArray, List.set_cons_zero, List.set_cons_succ]
            rfl
          refine pure_ (i := 1) (N := some 51) (v := ?_) (a' := ?_) #[true, true, false, false, false, false, false, false, false, false, false, false, false] rfl rfl (by kernel_rfl) (fun _ _ _ h => h) (Or.inl ⟨by rfl, ?_⟩) ?_ ?_
          rotate_left
          · intro w_
            go_simp
            try with_reducible rfl
          rotate_left
          · simp only [Act.put, List.setIfInBounds_toArray, List.set_cons_zero, List.set_cons_succ]
            rfl
          refine pure_ (i := 2) (N := some 52) (v := ?_) (a' := ?_) #[true, true, true, false, false, false, false, false, false, false, false, false, false] rfl rfl (by kernel_rfl) (fun _ _ _ h => h) (Or.inl ⟨by rfl, ?_⟩) ?_ ?_
          rotate_left
          · intro w_
            go_simp
            try with_reducible rfl
          rotate_left
          · simp only [Act.put, List.setIfInBounds_toArray, List.set_cons_zero, List.set_cons_succ]
            rfl
          refine pure_ (i := 3) (N := some 53) (v := ?_) (a' := ?_) #[true, true, true, true, false, false, false, false, false, false, false, false, false] rfl rfl (by kernel_rfl) (fun _ _ _ h => h) (Or.inl ⟨by rfl, ?_⟩) ?_ ?_
          rotate_left
          · intro w_
            go_simp
            try with_reducible rfl
          rotate_left
          · simp only [Act.put, List.setIfInBounds_toArray, List.set_cons_zero, List.set_cons_succ]
            rfl
          refine take_ (i := 4) (N := some 54) (v := .int .i64 c3) (a' := ?_) #[true, true, true, true, true, false, false, false, false, false, false, false, false] rfl rfl (by kernel_rfl) (fun _ _ _ h => h) (Or.inl ⟨by rfl, fun w' h => by have c := HCA.out w' h.1; go_simp⟩) hHeld ?_ ?_
          rotate_left
          · simp only [Act.put, List.setIfInBounds_toArray, List.set_cons_zero, List.set_cons_succ]
            rfl
          refine pure_ (i := 5) (N := some 55) (v := ?_) (a' := ?_) #[true, true, true, true, true, true, false, false, false, false, false, false, false] rfl rfl (by kernel_rfl) (fun _ _ _ h => h) (Or.inl ⟨by rfl, ?_⟩) ?_ ?_
          rotate_left
          · intro w_
            go_simp
            try with_reducible rfl
          rotate_left
          · simp only [Act.put, List.setIfInBounds_toArray, List.set_cons_zero, List.set_cons_succ]
            rfl
          refine pure_ (i := 6) (N := some 56) (v := ?_) (a' := ?_) #[true, true, true, true, true, true, true, false, false, false, false, false, false] rfl rfl (by kernel_rfl) (fun _ _ _ h => h) (Or.inl ⟨by rfl, ?_⟩) ?_ ?_
          rotate_left
          · intro w_
            go_simp
            try with_reducible rfl
          rotate_left
          · simp only [Act.put, List.setIfInBounds_toArray, List.set_cons_zero, List.set_cons_succ]
            rfl
          refine pure_ (i := 7) (N := some 57) (v := ?_) (a' := ?_) #[true, true, true, true, true, true, true, true, false, false, false, false, false] rfl rfl (by kernel_rfl) (fun _ _ _ h => h) (Or.inl ⟨by rfl, ?_⟩) ?_ ?_
          rotate_left
          · intro w_
            go_simp
            try with_reducible rfl
          rotate_left
          · simp only [Act.put, List.setIfInBounds_toArray, List.set_cons_zero, List.set_cons_succ]
            rfl
          refine take_ (i := 8) (N := some 58) (v := .agg (vec x3)) (a' := ?_) #[true, true, true, true, true, true, true, true, true, false, false, false, false] rfl rfl (by kernel_rfl) (fun _ _ _ h => h) (Or.inl ⟨by rfl, fun w' h => run_load_rangeC 26 _ rfl w.heap.size (r * 8) (vec x3).toList rfl (Mat.row h.1 HX3.out.1 HX3.out.2) _ Try.underlying26 rfl (by rw [Array.length_toList, vec_size, HX3.out.2]; exact v88)⟩) hHeld ?_ ?_
          rotate_left
          · simp only [Act.put, List.setIfInBounds_toArray, List.set_cons_zero, List.set_cons_succ]
            rfl
          refine take_ (i := 9) (N := some 59) (v := .agg op.cells) (a' := ?_) #[true, true, true, true, true, true, true, true, true, true, false, false, false] rfl rfl (by kernel_rfl) (fun _ _ _ h => h) (Or.inl ⟨by rfl, fun w' h => run_load_midC 32 _ rfl wr.heap.size 0 op.cells.toList rfl _ _ _ h.2 (fun j v hj => by simpa using hj) _ Try.underlying32 rfl op13⟩) hHeld ?_ ?_
          rotate_left
          · simp only [Act.put, List.setIfInBounds_toArray, List.set_cons_zero, List.set_cons_succ]
            rfl
          refine take_ (i := 10) (N := some 60) (v := .agg (msgC m)) (a' := ?_) #[true, true, true, true, true, true, true, true, true, true, true, false, false] rfl rfl (by kernel_rfl) (fun _ _ _ h => h) (Or.inl ⟨by rfl, fun w' h => run_buildC _ _ rfl #[(0, .int .i64 (c3 + 1)), (1, .agg (vec x3)), (2, .agg op.cells)] (by simp only [List.map_toArray, List.map_cons, List.map_nil]; rfl) (.agg (msgC m)) (HMQ.out w')⟩) hHeld ?_ ?_
          rotate_left
          · simp only [Act.put, List.setIfInBounds_toArray, List.set_cons_zero, List.set_cons_succ]
            rfl
          refine one_ (i := 11) (N := some 10) #[true, true, true, true, true, true, true, true, true, true, true, true, false] rfl rfl (by kernel_rfl) (by decide) (fun K hK => ?_)
          refine value_ (by rfl) rfl (run_allocC rfl) ?_
          refine hK.out _ _ (⟨hHeld.1.keep ((Below.refl _ _).alloc (Nat.le_refl _) _), (heap_alloc_old _ _ (lt_of hHeld.2)).trans hHeld.2⟩) (fun hHeld => ?_)
          clear hK K
          refine norm_ (a' := ?_) ?_ ?_
          rotate_left
          · show Act.put _ (some 10) _ = _
            simp only [Act.put, List.setIfInBounds_toArray, List.set_cons_zero, List.set_cons_succ]
            rfl
          refine last_ (i := 12) (N := none) #[true, true, true, true, true, true, true, true, true, true, true, true, true] rfl rfl (by kernel_rfl) (by decide) (fun K hK => ?_)
          refine skip_ (by rfl) rfl (run_store_rm _ _ rfl m rfl rfl _ rfl) ?_
          refine hK.out _ _ ?_
          clear hK K
          refine done_ (by kernel_rfl) ?_
          clear hHeld g1 g2
          have HS4 := Hd.mk (H3.out.1.call ((Below.refl W3.heap.size W3).drew.alloc (Nat.le_refl _) (.cells (msgC m) 37 (0, 0))))
          go_upto_region 12 with (fail)
          refine world_gen (fun W4 => Ser w (.slice A5 h.length c5) h R3 i W4 ∧ W4.heap[W3.drew.heap.size]? = some (.cells (msgC m) 37 (0, 0))) ⟨HS4.out, heap_alloc_new _ _⟩ (fun W4 hW4 => ?_)
          have H4 := Hd.mk hW4
          clear hW4 HS4
          have HNE := Hd.mk (fun q (e : (Value.slice A5 h.length c5).ownBlock = some q) => (ser_ne H3.out.1 e : q ≠ W3.drew.heap.size))
          generalize W3.drew.heap.size = b10 at *
          have HMy := Hd.mk (HMay m HM.out.2)
          go_wp2_with (first | ((with_reducible refine gate_dst (N := 61) rfl ?_); refine wpList_load_mid rfl 37 _ rfl b10 0 rfl (msgC m).toList _ (range_ofC H4.out.2 0 _ (fun j v hj => by simpa using hj)) Try.underlying37 rfl rmsg22 ?_))
          refine (HMy.out _).mono ?_; rintro e w5 ⟨rfl, hb5⟩
          have H5 := Hd.mk (⟨H4.out.1.call hb5, (hb5.block _ (lt_of H4.out.2)).trans H4.out.2⟩ : _ ∧ _)
          clear H4 hb5 HMy
          rcases hf : m.fine with _ | _
          · go_wp2_with fail
            go_roundg (29 - i)
            case measure => exact ser_measure HKI.out HN.out.2.1
            case rel => exact ⟨i2, h, R3, by first | rfl | rw [f2], ⟨ser_next HN.out.2.1 HN.out.2.2.2.2, H5.out.1.more (by rw [HN.out.2.2.2.2]; exact Nat.le_succ _)⟩⟩
          · have HFi := Hd.mk hf
            clear hf
            obtain ⟨v1, w9, hrun, hown3, hgr, hnb⟩ := run_cat1 (E := refMsgE) (H5.out.1.own.below ((Below.refl _ _).alloc (Nat.le_refl _) (.cells (msgC m) 37 (0, 0)))) m (g0 := w5.heap.size) (fun j u hu => (cell_of_row _ _ j _ _ _ (heap_alloc_new w5 _)).trans (by have hu2 : (msgC m).toList[j]? = some u := hu; simpa using hu2)) (ser_len H5.out.1 HN.out.2.1) (ser_base H5.out.1)
            obtain ⟨A1, cp1, rfl⟩ := hown3.slice
            have HG := Hd.mk (⟨hown3, ser_grown H5.out.1 hgr, ser_msg H5.out.1 H5.out.2 hgr (HNE.out)⟩ : _ ∧ _ ∧ _)
            go_upto_region 14 with (first | ((with_reducible refine gate_dst (N := 64) rfl ?_); refine wpList_load_mid rfl 37 _ rfl b10 0 rfl (msgC m).toList _ (range_ofC H5.out.2 0 _ (fun j v hj => by simpa using hj)) Try.underlying37 rfl rmsg22 ?_) | ((with_reducible refine gate_dst (N := 65) rfl ?_); refine wpList_valC rfl (build1r _ rfl m rfl) ?_) | ((with_reducible refine gate_dst (N := 66) rfl ?_); refine wpList_valC rfl (run_catop rfl rfl rfl rfl hrun) ?_))
            clear hrun hown3 hgr hnb
            have r8 := lt8_of HN.out.2.2.2.1
            have r0 := Int.natCast_nonneg r
            refine start_ (n := 7) (S := fun W_ => Mat w.heap.size R3 W_ ∧ W_.heap[b10]? = some (.cells (msgC m) 37 (0, 0))) (ds := [6]) #[false, false, false, false, false, false, false] (by kernel_rfl) rfl rfl (⟨(ser_mat H5.out.1 HG.out.2.1).keep (Below.refl _ _).drew, HG.out.2.2⟩) (fun hHeld => ?_)
            refine pure_ (i := 0) (N := some 67) (v := ?_) (a' := ?_) #[true, false, false, false, false, false, false] rfl rfl (by kernel_rfl) (fun _ _ _ h => h) (Or.inl ⟨by rfl, ?_⟩) ?_ ?_
            rotate_left
            · intro w_
              go_simp
              try with_reducible rfl
            rotate_left
            · simp only [Act.put, List.setIfInBounds_toArray, List.set_cons_zero, List.set_cons_succ]
              rfl
            refine pure_ (i := 1) (N := some 68) (v := ?_) (a' := ?_) #[true, true, false, false, false, false, false] rfl rfl (by kernel_rfl) (fun _ _ _ h => h) (Or.inl ⟨by rfl, ?_⟩) ?_ ?_
            rotate_left
            · intro w_
              go_simp
              try with_reducible rfl
            rotate_left
            · simp only [Act.put, List.setIfInBounds_toArray, List.set_cons_zero, List.set_cons_succ]
              rfl
            refine pure_ (i := 2) (N := some 69) (v := ?_) (a' := ?_) #[true, true, true, false, false, false, false] rfl rfl (by kernel_rfl) (fun _ _ _ h => h) (Or.inl ⟨by rfl, ?_⟩) ?_ ?_
            rotate_left
            · intro w_
              go_simp
              try with_reducible rfl
            rotate_left
            · simp only [Act.put, List.setIfInBounds_toArray, List.set_cons_zero, List.set_cons_succ]
              rfl
            refine take_ (i := 3) (N := some 70) (v := .int .i64 (c3 + 1)) (a' := ?_) #[true, true, true, true, false, false, false] rfl rfl (by kernel_rfl) (fun _ _ _ h => h) (Or.inl ⟨by rfl, fun w' h => by have c : w'.cell? ⟨b10, 0, none⟩ = some (.int .i64 (c3 + 1)) := (cell_of_row w' _ 0 _ _ _ h.2).trans (by rw [← HM.out.1]; rfl); go_simp⟩) hHeld ?_ ?_
            rotate_left
            · simp only [Act.put, List.setIfInBounds_toArray, List.set_cons_zero, List.set_cons_succ]
              rfl
            refine pure_ (i := 4) (N := some 71) (v := ?_) (a' := ?_) #[true, true, true, true, true, false, false] rfl rfl (by kernel_rfl) (fun _ _ _ h => h) (Or.inl ⟨by rfl, ?_⟩) ?_ ?_
            rotate_left
            · intro w_
              go_simp
              try with_reducible rfl
            rotate_left
            · simp only [Act.put, List.setIfInBounds_toArray, List.set_cons_zero, List.set_cons_succ]
              rfl
            refine pure_ (i := 5) (N := some 72) (v := ?_) (a' := ?_) #[true, true, true, true, true, true, false] rfl rfl (by kernel_rfl) (fun _ _ _ h => h) (Or.inl ⟨by rfl, ?_⟩) ?_ ?_
            rotate_left
            · intro w_
              go_simp
              try with_reducible rfl
            rotate_left
            · simp only [Act.put, List.setIfInBounds_toArray, List.set_cons_zero, List.set_cons_succ]
              rfl
            have cb := HCA.out _ hHeld.1
            have fb := frozen_of_row _ w.heap.size (r * 8 + r) _ _ hHeld.1
            refine last_ (i := 6) (N := none) #[true, true, true, true, true, true, true] rfl rfl (by kernel_rfl) (by decide) (fun K hK => ?_)
            refine skip_ (by rfl) rfl (show (execOp _ _).run Try.prog _ = .ok .skip (w9.drew.setCell ⟨w.heap.size, r * 8 + r, none⟩ (.int .i64 (c3 + 1))) from (by go_simp)) ?_
            refine hK.out _ _ ?_
            clear hK K
            refine done_ (by kernel_rfl) ?_
            clear cb fb hHeld
            have hadd := Ser.add (v2 := .slice A1 (h.length + 1) cp1) (W2 := w9) H5.out.1 HG.out.2.1 HN.out.2.2.2.1 HX3.out.1 HOP.out.1 HOP.out.2 (by rw [HQ3.out, ← HME.out]; exact HFi.out) (by rw [HQ3.out, ← HME.out]; have q := HG.out.1; rw [len1] at q; exact q)
            rw [HQ3.out, ← HME.out] at hadd
            have HAd := Hd.mk (hadd.call (Below.refl _ _).drew)
            clear hadd HG H5
            go_wp2_with fail
            go_roundg (29 - i)
            case measure => exact ser_measure HKI.out HN.out.2.1
            case rel => exact ⟨i2, h ++ [m], _, by first | rfl | rw [f2], ⟨ser_next HN.out.2.1 HN.out.2.2.2.2, by rw [HN.out.2.2.2.2]; exact HAd.out⟩⟩
        · skip
          have e3 : ¬ (i : Int) < (ls.length : Int) := by omega
          obtain ⟨R3, hR3⟩ : ∃ R3, R3 = R := ⟨_, rfl⟩
          rw [← hR3] at HSer HXR
          clear hR3 h3
          have HL := Hd.mk (⟨HSer.out.call K2.out.2, K2.out.get 0 rfl⟩ : _ ∧ _)
          clear K2
          go_upto_region 11 with (fail)
          refine world_gen (fun W3 => Ser w (.slice A5 h.length c5) h R3 i W3 ∧ W3.heap[wr.heap.size]? = some (.cells op.cells 32 (0, 0))) HL.out (fun W3 hW3 => ?_)
          have H3 := Hd.mk hW3
          clear hW3 HL
          obtain ⟨x3, hx3⟩ : ∃ x3, R3[r]? = some x3 := ⟨_, List.getElem?_eq_getElem (by rw [H3.out.1.rows.len]; exact Nat.lt_trans HN.out.2.2.2.1 (by decide))⟩
          have HX3 := Hd.mk (⟨hx3, H3.out.1.rows.row r x3 hx3⟩ : _ ∧ _)
          clear hx3
          generalize hq : nth x3 (r : Int) = c3 at *
          have HQ3 := Hd.mk hq
          have HCA := Hd.mk (fun (W' : World) (hm : Mat w.heap.size R3 W') => (hm.at HX3.out.1 (k := r) (Nat.lt_trans HN.out.2.2.2.1 (by decide))).trans (by rw [HQ3.out]))
          have hcq : 0 ≤ c3 + 1 ∧ c3 + 1 < 100000 := hq ▸ ser_small H3.out.1 HN.out.2.1 HN.out.2.2.2.1 HX3.out.1
          have g1 := (wrap_int hcq.1 hcq.2).1
          have g2 := (wrap_int hcq.1 hcq.2).2
          have HMQ := Hd.mk (mkMsg_build (c3 + 1) op HX3.out.2)
          obtain ⟨m, hm⟩ : ∃ m, m = mkMsg (c3 + 1) x3 op := ⟨_, rfl⟩
          have HM := Hd.mk (show m.q = c3 + 1 ∧ m.dt.size ≤ 140737488355328 by rw [hm]; exact ⟨rfl, HOP.out.2⟩)
          rw [← hm] at HMQ
          have HME := Hd.mk hm
          have hb8 : w.heap.size < wr.heap.size := lt_of HSer.out.mat
          have r8 := lt8_of HN.out.2.2.2.1
          have r0 := Int.natCast_nonneg r
          clear hq hcq hm
          refine start_ (n := 13) (S := fun W_ => Mat w.heap.size R3 W_ ∧ W_.heap[wr.heap.size]? = some (.cells op.cells 32 (0, 0))) (ds := [12]) #[false, false, false, false, false, false, false, false, false, false, false, false, false] (by kernel_rfl) rfl rfl (⟨H3.out.1.mat.keep (Below.refl _ _).drew, H3.out.2⟩) (fun hHeld => ?_)
          refine pure_ (i := 0) (N := some 50) (v := ?_) (a' := ?_) #[true, false, false, false, false, false, false, false, false, false, false, false, false] rfl rfl (by kernel_rfl) (fun _ _ _ h => h) (Or.inl ⟨by rfl, ?_⟩) ?_ ?_
          rotate_left
          · intro w_
            go_simp
            try with_reducible rfl
          rotate_left
          · simp only [Act.put, List.setIfInBounds_toArray, List.set_cons_zero, List.set_cons_succ]
            rfl
          refine pure_ (i := 1) (N := some 51) (v := ?_) (a' := ?_) #[true, true, false, false, false, false, false, false, false, false, false, false, false] rfl rfl (by kernel_rfl) (fun _ _ _ h => h) (Or.inl ⟨by rfl, ?_⟩) ?_ ?_
          rotate_left
          · intro w_
            go_simp
            try with_reducible rfl
          rotate_left
          · simp only [Act.put, List.setIfInBounds_toArray, List.set_cons_zero, List.set_cons_succ]
            rfl
          refine pure_ (i := 2) (N := some 52) (v := ?_) (a' := ?_) #[true, true, true, false, false, false, false, false, false, false, false, false, false] rfl rfl (by kernel_rfl) (fun _ _ _ h => h) (Or.inl ⟨by rfl, ?_⟩) ?_ ?_
          rotate_left
          · intro w_
            go_simp
            try with_reducible rfl
          rotate_left
          · simp only [Act.put, List.setIfInBounds_toArray, List.set_cons_zero, List.set_cons_succ]
            rfl
          refine pure_ (i := 3) (N := some 53) (v := ?_) (a' := ?_) #[true, true, true, true, false, false, false, false, false, false, false, false, false] rfl rfl (by kernel_rfl) (fun _ _ _ h => h) (Or.inl ⟨by rfl, ?_⟩) ?_ ?_
          rotate_left
          · intro w_
            go_simp
            try with_reducible rfl
          rotate_left
          · simp only [Act.put, List.setIfInBounds_toArray, List.set_cons_zero, List.set_cons_succ]
            rfl
          refine take_ (i := 4) (N := some 54) (v := .int .i64 c3) (a' := ?_) #[true, true, true, true, true, false, false, false, false, false, false, false, false] rfl rfl (by kernel_rfl) (fun _ _ _ h => h) (Or.inl ⟨by rfl, fun w' h => by have c := HCA.out w' h.1; go_simp⟩) hHeld ?_ ?_
          rotate_left
          · simp only [Act.put, List.setIfInBounds_toArray, List.set_cons_zero, List.set_cons_succ]
            rfl
          refine pure_ (i := 5) (N := some 55) (v := ?_) (a' := ?_) #[true, true, true, true, true, true, false, false, false, false, false, false, false] rfl rfl (by kernel_rfl) (fun _ _ _ h => h) (Or.inl ⟨by rfl, ?_⟩) ?_ ?_
          rotate_left
          · intro w_
            go_simp
            try with_reducible rfl
          rotate_left
          · simp only [Act.put, List.setIfInBounds_toArray, List.set_cons_zero, List.set_cons_succ]
            rfl
          refine pure_ (i := 6) (N := some 56) (v := ?_) (a' := ?_) #[true, true, true, true, true, true, true, false, false, false, false, false, false] rfl rfl (by kernel_rfl) (fun _ _ _ h => h) (Or.inl ⟨by rfl, ?_⟩) ?_ ?_
          rotate_left
          · intro w_
            go_simp
            try with_reducible rfl
          rotate_left
          · simp only [Act.put, List.setIfInBounds_toArray, List.set_cons_zero, List.set_cons_succ]
            rfl
          refine pure_ (i := 7) (N := some 57) (v := ?_) (a' := ?_) #[true, true, true, true, true, true, true, true, false, false, false, false, false] rfl rfl (by kernel_rfl) (fun _ _ _ h => h) (Or.inl ⟨by rfl, ?_⟩) ?_ ?_
          rotate_left
          · intro w_
            go_simp
            try with_reducible rfl
          rotate_left
          · simp only [Act.put, List.setIfInBounds_toArray, List.set_cons_zero, List.set_cons_succ]
            rfl
          refine take_ (i := 8) (N := some 58) (v := .agg (vec x3)) (a' := ?_) #[true, true, true, true, true, true, true, true, true, false, false, false, false] rfl rfl (by kernel_rfl) (fun _ _ _ h => h) (Or.inl ⟨by rfl, fun w' h => run_load_rangeC 26 _ rfl w.heap.size (r * 8) (vec x3).toList rfl (Mat.row h.1 HX3.out.1 HX3.out.2) _ Try.underlying26 rfl (by rw [Array.length_toList, vec_size, HX3.out.2]; exact v88)⟩) hHeld ?_ ?_
          rotate_left
          · simp only [Act.put, List.setIfInBounds_toArray, List.set_cons_zero, List.set_cons_succ]
            rfl
          refine take_ (i := 9) (N := some 59) (v := .agg op.cells) (a' := ?_) #[true, true, true, true, true, true, true, true, true, true, false, false, false] rfl rfl (by kernel_rfl) (fun _ _ _ h => h) (Or.inl ⟨by rfl, fun w' h => run_load_midC 32 _ rfl wr.heap.size 0 op.cells.toList rfl _ _ _ h.2 (fun j v hj => by simpa using hj) _ Try.underlying32 rfl op13⟩) hHeld ?_ ?_
          rotate_left
          · simp only [Act.put, List.setIfInBounds_toArray, List.set_cons_zero, List.set_cons_succ]
            rfl
          refine take_ (i := 10) (N := some 60) (v := .agg (msgC m)) (a' := ?_) #[true, true, true, true, true, true, true, true, true, true, true, false, false] rfl rfl (by kernel_rfl) (fun _ _ _ h => h) (Or.inl ⟨by rfl, fun w' h => run_buildC _ _ rfl #[(0, .int .i64 (c3 + 1)), (1, .agg (vec x3)), (2, .agg op.cells)] (by simp only [List.map_toArray, List.map_cons, List.map_nil]; rfl) (.agg (msgC m)) (HMQ.out w')⟩) hHeld ?_ ?_
          rotate_left
          · simp only [Act.put, List.setIfInBounds_toArray, List.set_cons_zero, List.set_cons_succ]
            rfl
          refine one_ (i := 11) (N := some 10) #[true, true, true, true, true, true, true, true, true, true, true, true, false] rfl rfl (by kernel_rfl) (by decide) (fun K hK => ?_)
          refine value_ (by rfl) rfl (run_allocC rfl) ?_
          refine hK.out _ _ (⟨hHeld.1.keep ((Below.refl _ _).alloc (Nat.le_refl _) _), (heap_alloc_old _ _ (lt_of hHeld.2)).trans hHeld.2⟩) (fun hHeld => ?_)
          clear hK K
          refine norm_ (a' := ?_) ?_ ?_
          rotate_left
          · show Act.put _ (some 10) _ = _
            simp only [Act.put, List.setIfInBounds_toArray, List.set_cons_zero, List.set_cons_succ]
            rfl
          refine last_ (i := 12) (N := none) #[true, true, true, true, true, true, true, true, true, true, true, true, true] rfl rfl (by kernel_rfl) (by decide) (fun K hK => ?_)
          refine skip_ (by rfl) rfl (run_store_rm _ _ rfl m rfl rfl _ rfl) ?_
          refine hK.out _ _ ?_
          clear hK K
          refine done_ (by kernel_rfl) ?_
          clear hHeld g1 g2
          have HS4 := Hd.mk (H3.out.1.call ((Below.refl W3.heap.size W3).drew.alloc (Nat.le_refl _) (.cells (msgC m) 37 (0, 0))))
          go_upto_region 12 with (fail)
          refine world_gen (fun W4 => Ser w (.slice A5 h.length c5) h R3 i W4 ∧ W4.heap[W3.drew.heap.size]? = some (.cells (msgC m) 37 (0, 0))) ⟨HS4.out, heap_alloc_new _ _⟩ (fun W4 hW4 => ?_)
          have H4 := Hd.mk hW4
          clear hW4 HS4
          have HNE := Hd.mk (fun q (e : (Value.slice A5 h.length c5).ownBlock = some q) => (ser_ne H3.out.1 e : q ≠ W3.drew.heap.size))
          generalize W3.drew.heap.size = b10 at *
          have HMy := Hd.mk (HMay m HM.out.2)
          go_wp2_with (first | ((with_reducible refine gate_dst (N := 61) rfl ?_); refine wpList_load_mid rfl 37 _ rfl b10 0 rfl (msgC m).toList _ (range_ofC H4.out.2 0 _ (fun j v hj => by simpa using hj)) Try.underlying37 rfl rmsg22 ?_))
          refine (HMy.out _).mono ?_; rintro e w5 ⟨rfl, hb5⟩
          have H5 := Hd.mk (⟨H4.out.1.call hb5, (hb5.block _ (lt_of H4.out.2)).trans H4.out.2⟩ : _ ∧ _)
          clear H4 hb5 HMy
          rcases hf : m.fine with _ | _
          · go_wp2_with fail
            go_roundg (29 - i)
            case measure => exact ser_measure HKI.out HN.out.2.1
            case rel => exact ⟨i2, h, R3, by first | rfl | rw [f2], ⟨ser_next HN.out.2.1 HN.out.2.2.2.2, H5.out.1.more (by rw [HN.out.2.2.2.2]; exact Nat.le_succ _)⟩⟩
          · have HFi := Hd.mk hf
            clear hf
            obtain ⟨v1, w9, hrun, hown3, hgr, hnb⟩ := run_cat1 (E := refMsgE) (H5.out.1.own.below ((Below.refl _ _).alloc (Nat.le_refl _) (.cells (msgC m) 37 (0, 0)))) m (g0 := w5.heap.size) (fun j u hu => (cell_of_row _ _ j _ _ _ (heap_alloc_new w5 _)).trans (by have hu2 : (msgC m).toList[j]? = some u := hu; simpa using hu2)) (ser_len H5.out.1 HN.out.2.1) (ser_base H5.out.1)
            obtain ⟨A1, cp1, rfl⟩ := hown3.slice
            have HG := Hd.mk (⟨hown3, ser_grown H5.out.1 hgr, ser_msg H5.out.1 H5.out.2 hgr (HNE.out)⟩ : _ ∧ _ ∧ _)
            go_upto_region 14 with (first | ((with_reducible refine gate_dst (N := 64) rfl ?_); refine wpList_load_mid rfl 37 _ rfl b10 0 rfl (msgC m).toList _ (range_ofC H5.out.2 0 _ (fun j v hj => by simpa using hj)) Try.underlying37 rfl rmsg22 ?_) | ((with_reducible refine gate_dst (N := 65) rfl ?_); refine wpList_valC rfl (build1r _ rfl m rfl) ?_) | ((with_reducible refine gate_dst (N := 66) rfl ?_); refine wpList_valC rfl (run_catop rfl rfl rfl rfl hrun) ?_))
            clear hrun hown3 hgr hnb
            have r8 := lt8_of HN.out.2.2.2.1
            have r0 := Int.natCast_nonneg r
            refine start_ (n := 7) (S := fun W_ => Mat w.heap.size R3 W_ ∧ W_.heap[b10]? = some (.cells (msgC m) 37 (0, 0))) (ds := [6]) #[false, false, false, false, false, false, false] (by kernel_rfl) rfl rfl (⟨(ser_mat H5.out.1 HG.out.2.1).keep (Below.refl _ _).drew, HG.out.2.2⟩) (fun hHeld => ?_)
            refine pure_ (i := 0) (N := some 67) (v := ?_) (a' := ?_) #[true, false, false, false, false, false, false] rfl rfl (by kernel_rfl) (fun _ _ _ h => h) (Or.inl ⟨by rfl, ?_⟩) ?_ ?_
            rotate_left
            · intro w_
              go_simp
              try with_reducible rfl
            rotate_left
            · simp only [Act.put, List.setIfInBounds_toArray, List.set_cons_zero, List.set_cons_succ]
              rfl
            refine pure_ (i := 1) (N := some 68) (v := ?_) (a' := ?_) #[true, true, false, false, false, false, false] rfl rfl (by kernel_rfl) (fun _ _ _ h => h) (Or.inl ⟨by rfl, ?_⟩) ?_ ?_
            rotate_left
            · intro w_
              go_simp
              try with_reducible rfl
            rotate_left
            · simp only [Act.put, List.setIfInBounds_toArray, List.set_cons_zero, List.set_cons_succ]
              rfl
            refine pure_ (i := 2) (N := some 69) (v := ?_) (a' := ?_) #[true, true, true, false, false, false, false] rfl rfl (by kernel_rfl) (fun _ _ _ h => h) (Or.inl ⟨by rfl, ?_⟩) ?_ ?_
            rotate_left
            · intro w_
              go_simp
              try with_reducible rfl
            rotate_left
            · simp only [Act.put, List.setIfInBounds_toArray, List.set_cons_zero, List.set_cons_succ]
              rfl
            refine take_ (i := 3) (N := some 70) (v := .int .i64 (c3 + 1)) (a' := ?_) #[true, true, true, true, false, false, false] rfl rfl (by kernel_rfl) (fun _ _ _ h => h) (Or.inl ⟨by rfl, fun w' h => by have c : w'.cell? ⟨b10, 0, none⟩ = some (.int .i64 (c3 + 1)) := (cell_of_row w' _ 0 _ _ _ h.2).trans (by rw [← HM.out.1]; rfl); go_simp⟩) hHeld ?_ ?_
            rotate_left
            · simp only [Act.put, List.setIfInBounds_toArray, List.set_cons_zero, List.set_cons_succ]
              rfl
            refine pure_ (i := 4) (N := some 71) (v := ?_) (a' := ?_) #[true, true, true, true, true, false, false] rfl rfl (by kernel_rfl) (fun _ _ _ h => h) (Or.inl ⟨by rfl, ?_⟩) ?_ ?_
            rotate_left
            · intro w_
              go_simp
              try with_reducible rfl
            rotate_left
            · simp only [Act.put, List.setIfInBounds_toArray, List.set_cons_zero, List.set_cons_succ]
              rfl
            refine pure_ (i := 5) (N := some 72) (v := ?_) (a' := ?_) #[true, true, true, true, true, true, false] rfl rfl (by kernel_rfl) (fun _ _ _ h => h) (Or.inl ⟨by rfl, ?_⟩) ?_ ?_
            rotate_left
            · intro w_
              go_simp
              try with_reducible rfl
            rotate_left
            · simp only [Act.put, List.setIfInBounds_toArray, List.set_cons_zero, List.set_cons_succ]
              rfl
            have cb := HCA.out _ hHeld.1
            have fb := frozen_of_row _ w.heap.size (r * 8 + r) _ _ hHeld.1
            refine last_ (i := 6) (N := none) #[true, true, true, true, true, true, true] rfl rfl (by kernel_rfl) (by decide) (fun K hK => ?_)
            refine skip_ (by rfl) rfl (show (execOp _ _).run Try.prog _ = .ok .skip (w9.drew.setCell ⟨w.heap.size, r * 8 + r, none⟩ (.int .i64 (c3 + 1))) from (by go_simp)) ?_
            refine hK.out _ _ ?_
            clear hK K
            refine done_ (by kernel_rfl) ?_
            clear cb fb hHeld
            have hadd := Ser.add (v2 := .slice A1 (h.length + 1) cp1) (W2 := w9) H5.out.1 HG.out.2.1 HN.out.2.2.2.1 HX3.out.1 HOP.out.1 HOP.out.2 (by rw [HQ3.out, ← HME.out]; exact HFi.out) (by rw [HQ3.out, ← HME.out]; have q := HG.out.1; rw [len1] at q; exact q)
            rw [HQ3.out, ← HME.out] at hadd
            have HAd := Hd.mk (hadd.call (Below.refl _ _).drew)
            clear hadd HG H5
            go_wp2_with fail
            go_roundg (29 - i)
            case measure => exact ser_measure HKI.out HN.out.2.1
            case rel => exact ⟨i2, h ++ [m], _, by first | rfl | rw [f2], ⟨ser_next HN.out.2.1 HN.out.2.2.2.2, by rw [HN.out.2.2.2.2]; exact HAd.out⟩⟩
      · have e2 : ¬ (i : Int) < 30 := by omega
        have hki2 := HKI.out
        go_wp2_with fail
        go_ret
        exact ⟨_, by rfl, h, HSer.out.own, HSer.out.hist, HSer.out.small, ser_le HSer.out HKI.out, HSer.out.bel⟩
    · have e1 : ¬ (i : Int) < (lo.length : Int) := by omega
      have hki2 := HKI.out
      go_wp2_with fail
      go_ret
      exact ⟨_, by rfl, h, HSer.out.own, HSer.out.hist, HSer.out.small, ser_le HSer.out HKI.out, HSer.out.bel⟩
end Go.Proofs.Ytcgkkjfbdappoaa

/- Slices of operations, and of bytes, that come in, opened; histories in another order: plain. -/
namespace Go.Proofs.Ytcgkkjfbdappoaa
open Go.RowKit Go.ChangeShapes Go.WideShapes Opn Go.Proofs.YtcgkkjfbdappoaaW.PrintWords
set_option linter.unusedVariables false

theorem fit_op {B : Nat} {row : List Value} (h : FitAll [.int .i64, .int .i64, .int .i64, .int .i64, .int .i64, .int .i64, .int .i64, .int .i64, .int .i64, .str, .str, .int .i64, .str] row) (hs : StrLe B row) : ∃ o : OpV, row = o.cells.toList ∧ o.dt.size ≤ B := by
  obtain ⟨_, _, rfl, ⟨t, rfl, _⟩, h9⟩ := fit_cons h
  obtain ⟨_, _, rfl, ⟨r, rfl, _⟩, h10⟩ := fit_cons h9
  obtain ⟨_, _, rfl, ⟨k, rfl, _⟩, h11⟩ := fit_cons h10
  obtain ⟨_, _, rfl, ⟨a0, rfl, _⟩, h12⟩ := fit_cons h11
  obtain ⟨_, _, rfl, ⟨a1, rfl, _⟩, h13⟩ := fit_cons h12
  obtain ⟨_, _, rfl, ⟨i0, rfl, _⟩, h14⟩ := fit_cons h13
  obtain ⟨_, _, rfl, ⟨i1, rfl, _⟩, h15⟩ := fit_cons h14
  obtain ⟨_, _, rfl, ⟨t0, rfl, _⟩, h16⟩ := fit_cons h15
  obtain ⟨_, _, rfl, ⟨t1, rfl, _⟩, h17⟩ := fit_cons h16
  obtain ⟨_, _, rfl, ⟨nm, rfl, _⟩, h18⟩ := fit_cons h17
  obtain ⟨_, _, rfl, ⟨nw, rfl, _⟩, h19⟩ := fit_cons h18
  obtain ⟨_, _, rfl, ⟨off, rfl, _⟩, h20⟩ := fit_cons h19
  obtain ⟨_, _, rfl, ⟨dt, rfl, _⟩, h21⟩ := fit_cons h20
  obtain rfl := fit_nil h21
  exact ⟨⟨t, r, k, a0, a1, i0, i1, t0, t1, nm, nw, off, dt⟩, rfl, hs dt (by simp)⟩
theorem ops_of {B : Nat} : ∀ (rows : List (List Value)), (∀ (j : Nat) (row : List Value), rows[j]? = some row → ∃ o : OpV, row = o.cells.toList ∧ o.dt.size ≤ B) →
    ∃ l : List OpV, rows = l.map (fun o => o.cells.toList) ∧ ∀ o ∈ l, o.dt.size ≤ B
  | [], _ => ⟨[], rfl, by simp⟩
  | row :: rows, h => by
    obtain ⟨m, hm, h1⟩ := h 0 row rfl
    obtain ⟨l, hl, h2⟩ := ops_of rows (fun j row' hj => h (j + 1) row' (by simpa using hj))
    refine ⟨m :: l, by rw [hm, hl]; rfl, fun x hx => ?_⟩
    rcases List.mem_cons.1 hx with rfl | hx
    · exact h1
    · exact h2 x hx
theorem bytes_of : ∀ (rows : List (List Value)), (∀ (j : Nat) (row : List Value), rows[j]? = some row → ∃ x : UInt8, row = byteE.enc x) → ∃ l : List UInt8, rows = l.map byteE.enc
  | [], _ => ⟨[], rfl⟩
  | row :: rows, h => by
    obtain ⟨m, hm⟩ := h 0 row rfl
    obtain ⟨l, hl⟩ := bytes_of rows (fun j row' hj => h (j + 1) row' (by simpa using hj))
    exact ⟨m :: l, by rw [hm, hl]; rfl⟩
theorem fit_byte {row : List Value} (h : FitAll [.int .u8] row) : ∃ x : UInt8, row = byteE.enc x := by
  obtain ⟨_, _, rfl, ⟨t, rfl, ht⟩, h9⟩ := fit_cons h
  obtain rfl := fit_nil h9
  have h1 : 0 ≤ t ∧ t < 256 := by
    have h2 : IntKind.u8.min ≤ t ∧ t ≤ IntKind.u8.max := by simpa [Lit.wf] using ht
    have e1 : IntKind.u8.min = 0 := by rfl
    have e2 : IntKind.u8.max = 255 := by rfl
    omega
  refine ⟨UInt8.ofNat t.toNat, ?_⟩
  show _ = [Value.int .u8 ((UInt8.ofNat t.toNat).toNat : Int)]
  have e : ((UInt8.ofNat t.toNat).toNat : Int) = t := by
    rw [UInt8.toNat_ofNat', Nat.mod_eq_of_lt (by omega)]; omega
  rw [e]
set_option maxRecDepth 100000 in
theorem leaves_u8 : leaves Try.prog 20 5 = some [.int .u8] := by kernel_rfl
set_option maxRecDepth 100000 in
theorem open_ops {H : Type} {enc : TypeId × Value → H} {w : World} {base : Nat} {spare : Nat → Bool} {held : Bool} {r : Reach} {b0 : Nat} {v : Value} {d : DataW H} {p : List MemPlace} (hS : ∀ n ∈ d.weights Try.prog 43, n ≤ reachBytes)
    (hv : Value.okWide Try.prog w r b0 43 v) (h : DataW.Trod enc Try.prog w base spare held 43 v d p) : ∃ A cap l, InOps w v A cap l := by
  obtain ⟨A, len, cap, rows, rfl, h1, h2, h3, h4⟩ := open_rowsS 20 _ Try.underlying43 leaves_op (by kernel_rfl) hv h hS
  have hrb : reachBytes ≤ 140737488351232 := by decide
  obtain ⟨l, hl, h5⟩ := ops_of (B := 140737488351232) rows (fun j row hj => fit_op (h4 j row hj).1 (fun s hs => Nat.le_trans ((h4 j row hj).2.1 s hs) hrb))
  have hlen : l.length = len := by rw [← h3, hl]; simp
  subst hlen
  refine ⟨A, cap, l, rfl, ⟨A, cap, rfl, h1, h2, fun j x hj => ?_⟩, h5⟩
  have hr : rows[j]? = some x.cells.toList := by rw [hl, List.getElem?_map, hj]; rfl
  obtain ⟨-, -, a, ha, hc⟩ := h4 j _ hr
  exact ⟨a, ha, hc⟩
set_option maxRecDepth 100000 in
theorem open_bytes {H : Type} {enc : TypeId × Value → H} {w : World} {base : Nat} {spare : Nat → Bool} {held : Bool} {r : Reach} {b0 : Nat} {v : Value} {d : DataW H} {p : List MemPlace} (hS : ∀ n ∈ d.weights Try.prog 44, n ≤ reachBytes)
    (hv : Value.okWide Try.prog w r b0 44 v) (h : DataW.Trod enc Try.prog w base spare held 44 v d p) : ∃ A cap l, InBytes w v A cap l := by
  obtain ⟨A, len, cap, rows, rfl, h1, h2, h3, h4⟩ := open_rowsS 20 _ Try.underlying44 leaves_u8 (by kernel_rfl) hv h hS
  obtain ⟨l, hl⟩ := bytes_of rows (fun j row hj => fit_byte (h4 j row hj).1)
  have hlen : l.length = len := by rw [← h3, hl]; simp
  subst hlen
  refine ⟨A, cap, l, rfl, ⟨A, cap, rfl, h1, h2, fun j x hj => ?_⟩⟩
  have hr : rows[j]? = some (byteE.enc x) := by rw [hl, List.getElem?_map, hj]; rfl
  obtain ⟨-, -, a, ha, hc⟩ := h4 j _ hr
  exact ⟨a, ha, hc⟩
theorem InOps.keep {w w' : World} {v : Value} {A : Option Addr} {cap : Nat} {l : List OpV} (h : InOps w v A cap l) (hb : Below w.heap.size w w') : InOps w' v A cap l := ⟨h.1, h.2.1.keep hb, h.2.2⟩
theorem InBytes.keep {w w' : World} {v : Value} {A : Option Addr} {cap : Nat} {l : List UInt8} (h : InBytes w v A cap l) (hb : Below w.heap.size w w') : InBytes w' v A cap l := ⟨h.1, h.2.keep hb⟩
/-- An empty slice of one's own. -/
theorem own_empty {α : Type} (E : Elt α) (w : World) : E.Own w.heap.size (w.alloc (.cells #[] E.ty)) (.slice (some ⟨w.heap.size, 0, none⟩) 0 0) [] :=
  ⟨by simp [Elt.cells], .inr ⟨w.heap.size, 0, #[], rfl, Nat.le_refl _, heap_alloc_new _ _, Nat.le_refl _, by unfold maxLen; omega, by simp, by simp [Elt.cells]⟩⟩
end Go.Proofs.Ytcgkkjfbdappoaa

/- A buffer beside a slice of messages that are told it: what holds all along. -/
namespace Go.Proofs.Ytcgkkjfbdappoaa
open Go.RowKit Go.Proofs.YtcgkkjfbdappoaaW.PrintWords
set_option linter.unusedVariables false
set_option linter.unusedSimpArgs false

/-- One's own messages, in another order. -/
structure Sw (w : World) (v : Value) (h lk : List MsgV) (W : World) : Prop where
  own : refMsgE.Own w.heap.size W v lk
  perm : lk.Perm h
  bel : Below w.heap.size w W
theorem Sw.swap {w W : World} {g cap : Nat} {h lk : List MsgV} (H : Sw w (.slice (some ⟨g, 0, none⟩) lk.length cap) h lk W) {i j : Nat} {x y : MsgV} (hx : lk[i]? = some x) (hy : lk[j]? = some y) :
    Sw w (.slice (some ⟨g, 0, none⟩) (swapL lk i j).length cap) h (swapL lk i j) ((W.setCells g (i * 22) (msgC y).toList).setCells g (j * 22) (msgC x).toList) := by
  have hi : i < lk.length := (List.getElem?_eq_some_iff.1 hx).1
  have hj : j < lk.length := (List.getElem?_eq_some_iff.1 hy).1
  have hg := (H.own.lt (k := g) rfl).1
  have h1 := H.own.set hi y
  have h2 := h1.set (j := j) (by simpa using hj) x
  refine ⟨?_, (swapL_perm lk i j).trans H.perm, below_setCellsC (below_setCellsC H.bel hg _ _) hg _ _⟩
  rw [swapL_of hx hy]
  exact h2
theorem Sw.call {w W W' : World} {v : Value} {h lk : List MsgV} (H : Sw w v h lk W) (hb : Below W.heap.size W W') : Sw w v h lk W' := ⟨H.own.below hb, H.perm, below_step H.bel hb⟩
/-- What holds while the buffer is told. -/
structure Run (w : World) (B p : Nat) (v : Value) (lk : List MsgV) (s : List Int) (lb : List MsgV) (W : World) : Prop where
  buf : BufAt (fun k => k < B) W p s lb
  own : refMsgE.Own 0 W v lk
  lo : ∀ k, v.ownBlock = some k → k < B
  bel : Below w.heap.size w W
  wB : w.heap.size ≤ B
theorem Run.call {w W W' : World} {B p : Nat} {v : Value} {lk lb : List MsgV} {s : List Int} (H : Run w B p v lk s lb W) (hb : Below W.heap.size W W') : Run w B p v lk s lb W' :=
  ⟨H.buf.call hb, H.own.below hb, H.lo, below_step H.bel hb, H.wB⟩
theorem Run.keep {w W W' : World} {B p : Nat} {v : Value} {lk lb lb' : List MsgV} {s s' : List Int} (H : Run w B p v lk s lb W) (hk : KeepOn (fun k => k < B) W W') (hb : BufAt (fun k => k < B) W' p s' lb') : Run w B p v lk s' lb' W' :=
  ⟨hb, own_keep H.own (fun k e => hk.block k (H.lo k e)), H.lo, H.bel.trans ⟨hk.os, hk.tape, hk.output, hk.size, fun k h => hk.block k (Nat.lt_of_lt_of_le h H.wB)⟩, H.wB⟩
theorem Run.start {w W W' : World} {p : Nat} {v : Value} {lk : List MsgV} {b : Nat} (hb : Below w.heap.size w W) (ho : refMsgE.Own b W v lk) (hN : NewHolds W p (.cells (bufC zero8 (.slice none 0 0)) 52 (0, 0)) [] W') : Run w W.heap.size p v lk zero8 [] W' := by
  have h1 := hN.1.2
  refine ⟨⟨⟨_, hN.1.get 0 rfl, Elt.Own.nil 0 _, fun k hk => by cases hk⟩, fun h => by have := hN.2.1; omega, fun k hk => Nat.lt_of_lt_of_le hk h1.size, rfl⟩, ?_, fun k e => (ho.lt e).2, below_step hb h1, hb.size⟩
  have h2 := ho.below h1
  obtain ⟨hl, ⟨rfl, hn⟩ | ⟨g, cap, cur, rfl, h0, hg⟩⟩ := h2
  · exact ⟨hl, .inl ⟨rfl, hn⟩⟩
  · exact ⟨hl, .inr ⟨g, cap, cur, rfl, Nat.zero_le _, hg⟩⟩
theorem fine_q {m : MsgV} (h : m.fine = true) : 1 ≤ m.q := by
  obtain ⟨_, _, _, h1, _⟩ := fine_known h
  exact h1
theorem zero8_at (n : Nat) : zero8.getD n 0 = 0 := by
  rw [List.getD_eq_getElem?_getD]
  by_cases h : n < 8
  · match n, h with
    | 0, _ => rfl
    | 1, _ => rfl
    | 2, _ => rfl
    | 3, _ => rfl
    | 4, _ => rfl
    | 5, _ => rfl
    | 6, _ => rfl
    | 7, _ => rfl
  · rw [List.getElem?_eq_none (by show 8 ≤ n; omega)]; rfl
theorem off_first {lb : List MsgV} {x : MsgV} (hf : x.fine = true) (hap : ∀ y ∈ lb, sameM y x = false) : offB zero8 lb x = true := by
  unfold offB
  rw [hf, zero8_at]
  have h1 := fine_q hf
  have h2 : (lb.any fun y => sameM y x) = false := by
    rw [List.any_eq_false]
    intro y hy
    rw [hap y hy]; simp
  rw [h2, decide_eq_false (by omega)]
  rfl
theorem off_again {s : List Int} {lb : List MsgV} {x : MsgV} (h : x ∈ lb) : offB s lb x = false := by
  unfold offB
  have h2 : (lb.any fun y => sameM y x) = true := List.any_eq_true.2 ⟨x, h, by rw [sameM_iff]; exact ⟨rfl, rfl⟩⟩
  rw [h2]
  simp
theorem perm_apart {h lk : List MsgV} (hp : lk.Perm h) (ha : h.Pairwise fun x y => sameM x y = false) : lk.Pairwise fun x y => sameM x y = false :=
  (hp.pairwise_iff (fun {x y} hxy => sameM_comm hxy)).2 ha
theorem take_apart {lk : List MsgV} (ha : lk.Pairwise fun x y => sameM x y = false) {i : Nat} {x : MsgV} (hx : lk[i]? = some x) : ∀ y ∈ lk.take i, sameM y x = false := by
  have hi := (List.getElem?_eq_some_iff.1 hx).1
  have e : lk.take (i + 1) = lk.take i ++ [x] := by
    rw [List.take_succ_eq_append_getElem hi, (List.getElem?_eq_some_iff.1 hx).2]
  have h1 : (lk.take (i + 1)).Pairwise fun x y => sameM x y = false := ha.sublist (List.take_sublist _ _)
  rw [e, List.pairwise_append] at h1
  exact fun y hy => h1.2.2 y hy x (by simp)
theorem take_more {lk : List MsgV} {i : Nat} {x : MsgV} (hx : lk[i]? = some x) : lk.take (i + 1) = lk.take i ++ [x] := by
  have hi := (List.getElem?_eq_some_iff.1 hx).1
  rw [List.take_succ_eq_append_getElem hi, (List.getElem?_eq_some_iff.1 hx).2]
/-- Two offers, of one that is new, and of one that was there. -/
theorem take_offer {h lk : List MsgV} (H : Hist h) (hp : lk.Perm h) {i : Nat} {x : MsgV} (hx : lk[i]? = some x) : offB zero8 (lk.take i) x = true ∧ (lk.take i ++ [x]) = lk.take (i + 1) ∧ ∀ j y, lk[j]? = some y → j ≤ i → offB zero8 (lk.take (i + 1)) y = false := by
  refine ⟨off_first (H.fine x (hp.mem_iff.1 (List.mem_of_getElem? hx))) (take_apart (perm_apart hp H.apart) hx), (take_more hx).symm, fun j y hj hji => off_again ?_⟩
  exact List.mem_of_getElem? (show (lk.take (i + 1))[j]? = some y by rw [List.getElem?_take_of_lt (by omega)]; exact hj)
theorem Seeing.begin {h lk : List MsgV} (H : Hist h) (hp : lk.Perm h) : Seeing h (fun _ => false) zero8 lk := by
  refine ⟨rfl, fun k _ => ?_, fun m => ?_, perm_apart hp H.apart⟩
  · unfold nth; rw [zero8_at]; exact Int.le_refl _
  · unfold nth
    rw [zero8_at]
    constructor
    · intro hm
      have h1 := hp.mem_iff.1 hm
      exact ⟨h1, rfl, by have := fine_q (H.fine m h1); omega⟩
    · intro hm
      exact hp.mem_iff.2 hm.1
theorem own_lower {α : Type} {E : Elt α} {b b' : Nat} {w : World} {v : Value} {l : List α} (h : E.Own b w v l) (hb : b' ≤ b) : E.Own b' w v l := by
  obtain ⟨hl, ⟨rfl, hn⟩ | ⟨g, cap, cur, rfl, h0, hg⟩⟩ := h
  · exact ⟨hl, .inl ⟨rfl, hn⟩⟩
  · exact ⟨hl, .inr ⟨g, cap, cur, rfl, Nat.le_trans hb h0, hg⟩⟩
theorem Sw.at {w W : World} {g cap n : Nat} {h lk : List MsgV} (hn : lk.length = n) (H : Sw w (.slice (some ⟨g, 0, none⟩) n cap) h lk W) {j : Nat} {x : MsgV} (hx : lk[j]? = some x) : W.rangeAt g (j * 22) (msgC x).toList := by subst hn; exact H.own.range hx
theorem Sw.there {w W : World} {g cap n : Nat} {h lk : List MsgV} (hn : lk.length = n) (H : Sw w (.slice (some ⟨g, 0, none⟩) n cap) h lk W) {j : Nat} (hj : j < n) : W.there g (j * 22) 22 := by subst hn; exact H.own.there hj
theorem Sw.lo {w W : World} {g cap n : Nat} {h lk : List MsgV} (H : Sw w (.slice (some ⟨g, 0, none⟩) n cap) h lk W) : w.heap.size ≤ g ∧ g < W.heap.size := H.own.lt rfl
/-- In the middle of a swap. -/
structure SwMid (w : World) (g cap n : Nat) (h lk : List MsgV) (j : Nat) (y : MsgV) (W : World) : Prop where
  own : refMsgE.Own w.heap.size W (.slice (some ⟨g, 0, none⟩) n cap) (lk.set j y)
  perm : lk.Perm h
  bel : Below w.heap.size w W
theorem Sw.mid {w W : World} {g cap n : Nat} {h lk : List MsgV} (hn : lk.length = n) (H : Sw w (.slice (some ⟨g, 0, none⟩) n cap) h lk W) {j : Nat} (hj : j < n) (y : MsgV) : SwMid w g cap n h lk j y (W.setCells g (j * 22) (msgC y).toList) := by
  subst hn
  have h1 := H.own.set hj y
  rw [List.length_set] at h1
  exact ⟨h1, H.perm, below_setCellsC H.bel (H.lo).1 _ _⟩
theorem SwMid.call {w W W' : World} {g cap n : Nat} {h lk : List MsgV} {j : Nat} {y : MsgV} (H : SwMid w g cap n h lk j y W) (hb : Below W.heap.size W W') : SwMid w g cap n h lk j y W' := ⟨H.own.below hb, H.perm, below_step H.bel hb⟩
theorem SwMid.there {w W : World} {g cap n : Nat} {h lk : List MsgV} {j : Nat} {y : MsgV} (hn : lk.length = n) (H : SwMid w g cap n h lk j y W) {m : Nat} (hm : m < n) : W.there g (m * 22) 22 := by
  subst hn
  have h1 := H.own
  have e : lk.length = (lk.set j y).length := by simp
  rw [e] at h1
  exact h1.there (by simpa using hm)
theorem SwMid.out {w W : World} {g cap n : Nat} {h lk : List MsgV} {j m : Nat} {x y : MsgV} (hn : lk.length = n) (H : SwMid w g cap n h lk j y W) (hx : lk[j]? = some x) (hy : lk[m]? = some y) : (swapL lk j m).length = n ∧ Sw w (.slice (some ⟨g, 0, none⟩) n cap) h (swapL lk j m) (W.setCells g (m * 22) (msgC x).toList) := by
  subst hn
  have hm := (List.getElem?_eq_some_iff.1 hy).1
  have h1 := H.own
  have e : lk.length = (lk.set j y).length := by simp
  have hg := (h1.lt (k := g) rfl).1
  rw [e] at h1
  have h2 := h1.set (j := m) (by simpa using hm) x
  rw [List.length_set, List.length_set] at h2
  exact ⟨swapL_len _ _ _, ⟨by rw [swapL_of hx hy]; exact h2, (swapL_perm lk j m).trans H.perm, below_setCellsC H.bel hg _ _⟩⟩
theorem Run.at {w W : World} {B p g cap n : Nat} {lk lb : List MsgV} {s : List Int} (hn : lk.length = n) (H : Run w B p (.slice (some ⟨g, 0, none⟩) n cap) lk s lb W) {j : Nat} {x : MsgV} (hx : lk[j]? = some x) : W.rangeAt g (j * 22) (msgC x).toList := by subst hn; exact H.own.range hx
end Go.Proofs.Ytcgkkjfbdappoaa
