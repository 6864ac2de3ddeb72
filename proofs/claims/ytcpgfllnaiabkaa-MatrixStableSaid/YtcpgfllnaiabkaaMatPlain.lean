/- Rows and matrices as the machine has them: all cells are numbers. -/
import Derived.Test.YtcpgfllnaiabkaaVecCovers
import Derived.Test.YtcpgfllnaiabkaaHeld
import Derived.Deep.MidRow
namespace Go.Proofs.Ytcpgfllnaiabkaa
open Go.RowKit Go.Proofs.YtcpgfllnaiabkaaW.PrintWords Go.Proofs.YtcpgfllnaiabkaaW.PrintLast Go.Proofs.YtcpgfllnaiabkaaW.PrintMore
set_option linter.unusedVariables false
set_option linter.unusedSimpArgs false

/-- So many numbers laid in, from a place on. -/
def layL (C : List Int) (o : Nat) (r : List Int) : List Int := C.take o ++ (r ++ C.drop (o + r.length))
theorem layL_len {C r : List Int} {o : Nat} (h : o + r.length ≤ C.length) : (layL C o r).length = C.length := by
  unfold layL; simp; omega
theorem layL_cons {C : List Int} {o : Nat} {x : Int} {r : List Int} (h : o + (r.length + 1) ≤ C.length) : layL (C.set o x) (o + 1) r = layL C o (x :: r) := by
  unfold layL
  have h1 : (C.set o x).take (o + 1) = C.take o ++ [x] := by
    rw [List.take_set, List.take_succ_eq_append_getElem (by omega), List.set_append_right _ _ (by rw [List.length_take]; omega)]
    rw [List.length_take, Nat.min_eq_left (by omega), Nat.sub_self]; rfl
  have h2 : (C.set o x).drop (o + 1 + r.length) = C.drop (o + (r.length + 1)) := by
    rw [List.drop_set_of_lt (by omega)]; congr 1; omega
  rw [h1, h2, List.append_assoc]; rfl
theorem layL_nil (C : List Int) (o : Nat) : layL C o [] = C := by unfold layL; simp
theorem layL_at (C : List Int) (o : Nat) (r : List Int) (h : o + r.length ≤ C.length) : ((layL C o r).drop o).take r.length = r := by
  unfold layL
  have e : (C.take o).length = o := by rw [List.length_take]; omega
  rw [List.drop_append, e, Nat.sub_self, List.drop_zero, List.drop_eq_nil_of_le (by omega), List.nil_append, List.take_left]
theorem layL_off (C : List Int) (o : Nat) (r : List Int) (h : o + r.length ≤ C.length) (j n : Nat) (hj : j + n ≤ o ∨ o + r.length ≤ j) : ((layL C o r).drop j).take n = (C.drop j).take n := by
  unfold layL
  apply List.ext_getElem?
  intro i
  rw [List.getElem?_take, List.getElem?_take]
  by_cases hi : i < n
  · rw [if_pos hi, if_pos hi, List.getElem?_drop, List.getElem?_drop]
    have e : (C.take o).length = o := by rw [List.length_take]; omega
    rcases hj with hj | hj
    · rw [List.getElem?_append_left (by omega), List.getElem?_take, if_pos (by omega)]
    · rw [List.getElem?_append_right (by omega), List.getElem?_append_right (by omega), List.getElem?_drop, e]
      congr 1; omega
  · rw [if_neg hi, if_neg hi]
theorem layL_head (n : Int) (L : List Int) (o : Nat) (r : List Int) : layL (n :: L) (1 + o) r = n :: layL L o r := by
  unfold layL
  rw [Nat.add_comm 1 o, List.take_succ_cons, show o + 1 + r.length = (o + r.length) + 1 from by omega, List.drop_succ_cons]; rfl

theorem setCells_vec {t : TypeId} : ∀ (r : List Int) (o : Nat) (C : List Int) (w : World) (b : Nat), w.heap[b]? = some (.cells (vec C) t (0, 0)) → o + r.length ≤ C.length →
    (w.setCells b o (vec r).toList).heap[b]? = some (.cells (vec (layL C o r)) t (0, 0))
  | [], o, C, w, b, h, _ => by rw [layL_nil]; exact h
  | x :: r, o, C, w, b, h, hl => by
    have h1 : (w.setCell ⟨b, o, none⟩ (.int .i64 x)).heap[b]? = some (.cells (vec (C.set o x)) t (0, 0)) := by rw [heap_setCell_same _ _ _ _ _ _ h, vec_set]
    have h2 := setCells_vec r (o + 1) (C.set o x) _ b h1 (by rw [List.length_set]; rw [List.length_cons] at hl; omega)
    rw [layL_cons (by rw [List.length_cons] at hl; omega)] at h2
    exact h2
theorem setCells_keep (b : Nat) : ∀ (vs : List Value) (o : Nat) (w : World), (w.setCells b o vs).os = w.os ∧ (w.setCells b o vs).tape = w.tape ∧ (w.setCells b o vs).output = w.output ∧ (w.setCells b o vs).heap.size = w.heap.size ∧ ∀ k, k ≠ b → (w.setCells b o vs).heap[k]? = w.heap[k]?
  | [], _, w => ⟨rfl, rfl, rfl, rfl, fun _ _ => rfl⟩
  | v :: r, o, w => by
    obtain ⟨h1, h2, h3, h4, h5⟩ := setCells_keep b r (o + 1) (w.setCell ⟨b, o, none⟩ v)
    exact ⟨h1, h2, h3, h4.trans (by simp [World.setCell]), fun k hk => (h5 k hk).trans (Below.heap_setCell _ _ _ _ hk)⟩

theorem load_vec {w : World} {b : Nat} {C : List Int} {t : TypeId} {fr : Nat × Nat} (hg : w.heap[b]? = some (.cells (vec C) t fr)) (o n : Nat) : w.rangeAt b o (vec ((C.drop o).take n)).toList := by
  have := World.rangeAt_of_block hg o n
  intro j v hv
  refine this j v ?_
  rw [← hv]
  congr 1
  unfold vec
  simp [List.drop_take]
theorem vec_toList (l : List Int) : (vec l).toList.toArray = vec l := by simp
theorem len_vec (l : List Int) : (vec l).toList.length = l.length := by simp [vec]
/-- A part of a block of numbers, loaded. -/
theorem run_load_vec {o : Oper} {ρ : Operand → Value} {w : World} (ty : TypeId) (x : Operand) (ho : o.op = .load ty x) (b off n : Nat) (hx : ρ x = .pointer (some ⟨b, off, none⟩)) (C : List Int) (t : TypeId) (fr : Nat × Nat) (hg : w.heap[b]? = some (.cells (vec C) t fr))
    (d : TypeDesc) (hu : Try.prog.underlying ty = some d) (hd : d.isRow = true) (hi : (Try.prog.info? ty).map (·.size) = some n) (hl : off + n ≤ C.length) : (execOp ρ o).run Try.prog w = .ok (.value (.agg (vec ((C.drop off).take n)))) w := by
  have hlen : (vec ((C.drop off).take n)).toList.length = n := by rw [len_vec, List.length_take, List.length_drop]; omega
  unfold execOp
  simp only [ho, hx, Instr.loadAt, Instr.sureAddr, Sem.run_bind, Sem.run_pure, Result.andThen_ok, run_loadVar_mid w b off ty _ d (load_vec hg off n) hu hd (by rw [hlen]; exact hi), vec_toList]
theorem wpList_load_vec {ops : Array Oper} {rest : List Oper} {op : Oper} {a : Act} {w : World} {Q : Exit → Act → World → Prop} (hgd : op.guard = none) (ty : TypeId) (x : Operand) (ho : op.op = .load ty x)
    (b off n : Nat) (hx : a.eval x = .pointer (some ⟨b, off, none⟩)) (C : List Int) (t : TypeId) (fr : Nat × Nat) (hg : w.heap[b]? = some (.cells (vec C) t fr)) (d : TypeDesc)
    (hu : Try.prog.underlying ty = some d) (hd : d.isRow = true) (hi : (Try.prog.info? ty).map (·.size) = some n) (hl : off + n ≤ C.length)
    (h : wpList Try.prog ops Q rest (a.put op.dst (.agg (vec ((C.drop off).take n)))) w) : wpList Try.prog ops Q (op :: rest) a w := by
  have hlen : (vec ((C.drop off).take n)).toList.length = n := by rw [len_vec, List.length_take, List.length_drop]; omega
  exact wpList_load_mid hgd ty x ho b off hx _ d (load_vec hg off n) hu hd (by rw [hlen]; exact hi) (by rw [vec_toList]; exact h)
theorem there_vec {w : World} {b : Nat} {C : List Int} {t : TypeId} (hg : w.heap[b]? = some (.cells (vec C) t (0, 0))) {o n : Nat} (h : o + n ≤ C.length) : w.there b o n := fun j hj => by
  have h1 : o + j < C.length := by omega
  refine ⟨?_, frozen_of_row w _ _ _ _ hg⟩
  rw [cell_of_row w b (o + j) _ _ _ hg, vec_at (List.getElem?_eq_getElem h1)]; rfl
theorem run_store_vec {o : Oper} {ρ : Operand → Value} {w : World} (ty : TypeId) (x y : Operand) (ho : o.op = .store ty x y) (b off : Nat) (r : List Int) (hx : ρ x = .pointer (some ⟨b, off, none⟩)) (hy : ρ y = .agg (vec r)) (C : List Int) (t : TypeId) (hg : w.heap[b]? = some (.cells (vec C) t (0, 0)))
    (hi : (Try.prog.info? ty).map (·.size) = some r.length) (hl : off + r.length ≤ C.length) : (execOp ρ o).run Try.prog w = .ok .skip (w.setCells b off (vec r).toList) := by
  unfold execOp
  simp only [ho, hx, hy, Instr.storeAt, Instr.sureAddr, Sem.run_bind, Sem.run_pure, Result.andThen_ok, run_storeVar_mid w b off ty (vec r) (by rw [vec_size]; exact there_vec hg hl) (by rw [vec_size]; exact hi) (vec_one _)]

theorem size_row : (Try.prog.info? 38).map (·.size) = some 9 := by kernel_rfl
theorem size_rrow : (Try.prog.info? 41).map (·.size) = some 9 := by kernel_rfl
theorem size_eight9 : (Try.prog.info? 26).map (·.size) = some 8 := by kernel_rfl
def zero9 : List Int := List.replicate 9 0
theorem zeroRow (w : World) : (zeroValue 38).run Try.prog w = .ok (.agg (vec zero9)) w := by kernel_rfl
theorem zeroRRow (w : World) : (zeroValue 41).run Try.prog w = .ok (.agg (vec zero9)) w := by kernel_rfl
theorem build_row {s : List Int} (hs : s.length = 8) (t : Int) (w : World) : (Instr.build 38 #[(0, .agg (vec s)), (1, .int .i64 t)]).run Try.prog w = .ok (.agg (vec (s ++ [t]))) w := by
  match s, hs with
  | [x0, x1, x2, x3, x4, x5, x6, x7], _ => exact run_build w _ _ _ (by kernel_rfl)
theorem build_rrow {s : List Int} (hs : s.length = 8) (t : Int) (w : World) : (Instr.build 41 #[(0, .agg (vec s)), (1, .int .i64 t)]).run Try.prog w = .ok (.agg (vec (s ++ [t]))) w := by
  match s, hs with
  | [x0, x1, x2, x3, x4, x5, x6, x7], _ => exact run_build w _ _ _ (by kernel_rfl)
theorem build_none (w : World) : (Instr.build 38 #[]).run Try.prog w = .ok (.agg (vec zero9)) w := run_build w _ _ _ (by kernel_rfl)
theorem wpList_build {ops : Array Oper} {rest : List Oper} {o : Oper} {a : Act} {Q : Exit → Act → World → Prop} {w : World} (hgd : o.guard = none) (t : TypeId) (parts : Array (Nat × Operand)) (ho : o.op = .build t parts) (vs : Array (Nat × Value)) (hvs : (parts.map fun (i, x) => (i, a.eval x)) = vs) (v : Value)
    (hr : (Instr.build t vs).run Try.prog w = .ok v w) (h : wpList Try.prog ops Q rest (a.put o.dst v) w) : wpList Try.prog ops Q (o :: rest) a w := by
  refine wpList_plain hgd fun K hK => ?_
  unfold Oper.wp execOp
  simp only [ho, hvs, Sem.run_bind, Sem.run_pure, Result.andThen_ok, hr]
  exact hK _ _ h
theorem nine {r : List Int} (h : r.length = 9) : ∃ s t, s.length = 8 ∧ r = s ++ [t] := by
  match r, h with
  | [x0, x1, x2, x3, x4, x5, x6, x7, x8], _ => exact ⟨[x0, x1, x2, x3, x4, x5, x6, x7], x8, rfl, rfl⟩
set_option maxRecDepth 100000 in
/-- Two rows are held against each other. -/
theorem eqRow (d : Nat) {a b : List Int} (ha : a.length = 9) (hb : b.length = 9) (w : World) : (Op.equalIn (d + 3) 38 (.agg (vec a)) (.agg (vec b))).run Try.prog w = .ok (eqV a b) w := by
  obtain ⟨s, x, hs, rfl⟩ := nine ha
  obtain ⟨u, y, hu, rfl⟩ := nine hb
  have part0 : ∀ (s : List Int) (x : Int), s.length = 8 → (part 27 (vec (s ++ [x])) 0).run Try.prog w = .ok (.agg (vec s)) w := by
    intro s x hs
    have h1 : (isAgg 27).run Try.prog w = .ok true w := by kernel_rfl
    have h2 : (sizeOf 27).run Try.prog w = .ok 8 w := by kernel_rfl
    simp only [part, Sem.run_bind, h1, h2, Result.andThen_ok, if_true, Sem.run_pure]
    congr 2
    unfold vec
    apply Array.ext'
    simp
    rw [← hs, List.take_append_of_le_length (by simp), List.take_of_length_le (by simp)]
  have part1 : ∀ (s : List Int) (x : Int), s.length = 8 → (part 2 (vec (s ++ [x])) 8).run Try.prog w = .ok (.int .i64 x) w := by
    intro s x hs
    have h1 : (isAgg 2).run Try.prog w = .ok false w := by kernel_rfl
    have h2 : (vec (s ++ [x]))[8]? = some (.int .i64 x) := vec_at (by rw [List.getElem?_append_right (by omega), hs]; rfl)
    simp only [part, Sem.run_bind, h1, Result.andThen_ok, h2, Sem.run_pure]
    rfl
  have e : eqV (s ++ [x]) (u ++ [y]) = (eqV s u && (x == y)) := by
    unfold eqV
    rw [Bool.eq_iff_iff]
    simp only [decide_eq_true_eq, Bool.and_eq_true, beq_iff_eq]
    constructor
    · intro h
      have h1 := List.append_inj h (by omega)
      exact ⟨h1.1, by simpa using h1.2⟩
    · rintro ⟨rfl, rfl⟩; rfl
  rw [e]
  refine eqA_of Try.underlying38 (by kernel_rfl) ?_
  refine eqf_cons (by rfl) (part0 s x hs) (part0 u y hu) (eqVec d hs hu w) ?_
  exact eqf_last (by rfl) (part1 s x hs) (part1 u y hu) (by simp [Op.equalIn, run_underlying Try.underlying2])
end Go.Proofs.Ytcpgfllnaiabkaa
