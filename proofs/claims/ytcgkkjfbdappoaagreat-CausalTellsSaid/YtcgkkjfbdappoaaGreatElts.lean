/- Slices of elements of one kind: one's own, and those that are only read; elements that are appended. -/
import Derived.Test.YtcgkkjfbdappoaaGreatKeepAll
import Derived.Deep.MidRow
namespace Go.Proofs.YtcgkkjfbdappoaaGreat
open Go.RowKit Go.Proofs.YtcgkkjfbdappoaaGreatW.PrintWords
set_option linter.unusedVariables false
set_option linter.unusedSimpArgs false

/-- How elements of a kind lie in memory. -/
structure Elt (α : Type) where
  ty : TypeId
  sl : TypeId
  n : Nat
  bytes : Nat
  zero : Value
  enc : α → List Value
  pos : 0 < n
  len : ∀ x, (enc x).length = n
  one : ∀ x, ∀ u ∈ enc x, u.oneCell' = true
  info : (Tryz.prog.info? ty).map (fun i => (i.zero, i.size, i.bytes)) = some (some zero, n, bytes)
  zlen : zero.cells.size = n
  und : Tryz.prog.underlying sl = some (.slice ty)
  small : bytes ≤ 1000

section
variable {α : Type} (E : Elt α)
def Elt.cells (l : List α) : List Value := (l.map E.enc).flatten
theorem Elt.cells_nil : E.cells [] = [] := rfl
theorem Elt.cells_cons (x : α) (l : List α) : E.cells (x :: l) = E.enc x ++ E.cells l := rfl
theorem Elt.cells_append (a b : List α) : E.cells (a ++ b) = E.cells a ++ E.cells b := by unfold Elt.cells; rw [List.map_append, List.flatten_append]
theorem Elt.cells_one (x : α) : E.cells [x] = E.enc x := by rw [E.cells_cons, E.cells_nil, List.append_nil]
theorem Elt.cells_len : ∀ (l : List α), (E.cells l).length = l.length * E.n
  | [] => by rw [E.cells_nil]; simp
  | x :: l => by rw [E.cells_cons, List.length_append, Elt.cells_len l, E.len, List.length_cons, Nat.succ_mul, Nat.add_comm]
theorem Elt.cells_at : ∀ {l : List α} {j : Nat} {x : α} {i : Nat} {u : Value}, l[j]? = some x → (E.enc x)[i]? = some u → (E.cells l)[j * E.n + i]? = some u
  | [], j, x, i, u, h, _ => by simp at h
  | y :: l, 0, x, i, u, h, hu => by
    simp at h; subst h
    rw [E.cells_cons, Nat.zero_mul, Nat.zero_add, List.getElem?_append_left (List.getElem?_eq_some_iff.1 hu).1]; exact hu
  | y :: l, j + 1, x, i, u, h, hu => by
    rw [E.cells_cons, List.getElem?_append_right (by rw [E.len, Nat.succ_mul]; omega), E.len, show (j + 1) * E.n + i - E.n = j * E.n + i from by rw [Nat.succ_mul]; omega]
    exact Elt.cells_at (by simpa using h) hu
theorem Elt.cells_one' (l : List α) : ∀ u ∈ E.cells l, u.oneCell' = true := fun u hu => by
  unfold Elt.cells at hu
  obtain ⟨c, hc, hu⟩ := List.mem_flatten.1 hu
  obtain ⟨x, -, rfl⟩ := List.mem_map.1 hc
  exact E.one x u hu
/-- A slice of one's own. -/
def Elt.Own (base : Nat) (w : World) (v : Value) (l : List α) : Prop := w.ownsRow base E.ty E.n v l.length (E.cells l)
/-- A slice that reads as this list. -/
def Elt.Are (w : World) (v : Value) (l : List α) : Prop :=
  ∃ A cap, v = .slice A l.length cap ∧ l.length ≤ cap ∧ cap ≤ maxLen ∧ ∀ j x, l[j]? = some x → ∃ a, A = some a ∧ ∀ i u, (E.enc x)[i]? = some u → w.cell? (a.add (j * E.n + i)) = some u
variable {E}
theorem Elt.Own.nil (base : Nat) (w : World) : E.Own base w (.slice none 0 0) [] := World.ownsRow_nil w base _ _
theorem Elt.Own.slice {base : Nat} {w : World} {v : Value} {l : List α} (h : E.Own base w v l) : ∃ A cap, v = .slice A l.length cap := by
  obtain ⟨hl, ⟨rfl, hn⟩ | ⟨g, cap, cur, rfl, -⟩⟩ := h
  · exact ⟨none, 0, by rw [hn]⟩
  · exact ⟨_, cap, rfl⟩
theorem Elt.Own.below {base : Nat} {w w' : World} {v : Value} {l : List α} (h : E.Own base w v l) (hb : Below w.heap.size w w') : E.Own base w' v l := by
  obtain ⟨hl, ⟨rfl, hn⟩ | ⟨g, cap, cur, rfl, h0, hg, h1, h2, h3, h4⟩⟩ := h
  · exact ⟨hl, .inl ⟨rfl, hn⟩⟩
  · exact ⟨hl, .inr ⟨g, cap, cur, rfl, h0, (hb.block _ (Array.getElem?_eq_some_iff.1 hg).1).trans hg, h1, h2, h3, h4⟩⟩
theorem Elt.Own.are {base : Nat} {w : World} {v : Value} {l : List α} (h : E.Own base w v l) : E.Are w v l := by
  have h0 := h
  obtain ⟨hl, ⟨rfl, hn⟩ | ⟨g, cap, cur, rfl, h1, hg, hc, hm, h3, h4⟩⟩ := h
  · obtain rfl := List.eq_nil_of_length_eq_zero hn
    exact ⟨none, 0, rfl, Nat.le_refl _, by unfold maxLen; omega, fun j x hj => by simp at hj⟩
  · exact ⟨_, cap, rfl, hc, hm, fun j x hj => ⟨_, rfl, fun i u hu => World.ownsRow.cells h0 rfl _ _ (E.cells_at hj hu)⟩⟩
theorem Elt.Own.lit {base : Nat} {w : World} {v : Value} {l : List α} (h : E.Own base w v l) (hl : l ≠ []) : ∃ g cap, v = .slice (some ⟨g, 0, none⟩) l.length cap ∧ base ≤ g ∧ ∀ j x, l[j]? = some x → ∀ i u, (E.enc x)[i]? = some u → w.cell? ⟨g, j * E.n + i, none⟩ = some u := by
  have h0 := h
  obtain ⟨_, ⟨rfl, hn⟩ | ⟨g, cap, cur, rfl, h1, hg, hc, hm, h3, h4⟩⟩ := h
  · exact absurd (List.eq_nil_of_length_eq_zero hn) hl
  · refine ⟨g, cap, rfl, h1, fun j x hj i u hu => ?_⟩
    have := World.ownsRow.cells h0 rfl _ _ (E.cells_at hj hu)
    have e : (⟨g, 0, none⟩ : Addr).add (j * E.n + i) = ⟨g, j * E.n + i, none⟩ := Addr.add_lit _ _ _ |>.trans (by simp)
    rwa [e] at this
theorem Elt.Are.nil (w : World) : E.Are w (.slice none 0 0) [] := ⟨none, 0, rfl, Nat.le_refl _, by unfold maxLen; omega, fun j x hj => by simp at hj⟩
theorem Elt.Are.keep {w w' : World} {v : Value} {l : List α} (h : E.Are w v l) (hb : Below w.heap.size w w') : E.Are w' v l := by
  obtain ⟨A, cap, rfl, h1, h2, h3⟩ := h
  refine ⟨A, cap, rfl, h1, h2, fun j x hj => ?_⟩
  obtain ⟨a, rfl, hc⟩ := h3 j x hj
  exact ⟨a, rfl, fun i u hu => (hb.cell (World.block_lt_of_cell? w _ (hc i u hu))).trans (hc i u hu)⟩
theorem Elt.Are.at {w : World} {A : Option Addr} {n cap : Nat} {l : List α} (h : E.Are w (.slice A n cap) l) {j : Nat} {x : α} (hx : l[j]? = some x) : ∃ a, A = some a ∧ ∀ i u, (E.enc x)[i]? = some u → w.cell? (a.add (j * E.n + i)) = some u := by
  obtain ⟨A', cap', e, h1, h2, h3⟩ := h
  simp only [Value.slice.injEq] at e
  obtain ⟨rfl, -, rfl⟩ := e
  exact h3 j x hx
theorem Elt.Are.shape {w : World} {v : Value} {l : List α} (h : E.Are w v l) : ∃ A cap, v = .slice A l.length cap ∧ l.length ≤ cap ∧ cap ≤ maxLen := by
  obtain ⟨A, cap, e, h1, h2, -⟩ := h
  exact ⟨A, cap, e, h1, h2⟩
theorem Elt.Are.take {w : World} {A : Option Addr} {n cap : Nat} {l : List α} (h : E.Are w (.slice A n cap) l) {m : Nat} (hm : m ≤ l.length) : E.Are w (.slice A m cap) (l.take m) := by
  obtain ⟨A', cap', e, h1, h2, h3⟩ := h
  simp only [Value.slice.injEq] at e
  obtain ⟨rfl, -, rfl⟩ := e
  have hl : (l.take m).length = m := by rw [List.length_take]; omega
  refine ⟨A, cap, by rw [hl], by omega, h2, fun j x hx => h3 j x ?_⟩
  rw [List.getElem?_take] at hx
  split at hx
  · exact hx
  · cases hx
/-- A block that holds these elements, as a slice over all of it. -/
theorem Elt.are_block {w : World} {g : Nat} {c : Array Value} {t : TypeId} {fr : Nat × Nat} {l : List α} (hg : w.heap[g]? = some (.cells c t fr)) (hc : c = (E.cells l).toArray) (hm : l.length ≤ maxLen) : E.Are w (.slice (some ⟨g, 0, none⟩) l.length l.length) l := by
  subst hc
  refine ⟨_, _, rfl, Nat.le_refl _, hm, fun j x hj => ⟨_, rfl, fun i u hu => ?_⟩⟩
  have e : (⟨g, 0, none⟩ : Addr).add (j * E.n + i) = ⟨g, j * E.n + i, none⟩ := Addr.add_lit _ _ _ |>.trans (by simp)
  rw [e, cell_of_row w g _ _ _ _ hg]
  simpa using E.cells_at hj hu
theorem Elt.run_cat {base : Nat} {w : World} {v vb : Value} {l lb : List α} (hown : E.Own base w v l) (hb : E.Are w vb lb) (hn : l.length + lb.length ≤ 100000000000) (hbase : base ≤ w.heap.size) :
    ∃ v' w', (Builtin.append_ #[E.sl, E.sl] E.sl #[v, vb]).run Tryz.prog w = .ok v' w' ∧ E.Own base w' v' (l ++ lb) ∧ w.grownBy w' v.ownBlock := by
  obtain ⟨i, hi, e⟩ := Option.map_eq_some_iff.1 E.info
  simp only [Prod.mk.injEq] at e
  obtain ⟨e1, e2, e3⟩ := e
  obtain ⟨A, cap, rfl, h1, h2, h3⟩ := hb
  cases A with
  | none =>
    have hl : lb = [] := by
      cases lb with
      | nil => rfl
      | cons x t =>
        obtain ⟨a, ha, -⟩ := h3 0 x rfl
        cases ha
    subst hl
    refine ⟨v, w, ?_, by rw [List.append_nil]; exact hown, ⟨rfl, rfl, rfl, Nat.le_refl _, fun _ _ _ => rfl⟩⟩
    have ht := E.und
    rcases hown.2 with ⟨rfl, _⟩ | ⟨g, c, cur, rfl, _, _, hnc, _⟩
    · simp [Builtin.append_, run_underlying ht, sizeOf, typeInfo, hi, Builtin.lenOf, Builtin.firstCells]
    · simp [Builtin.append_, run_underlying ht, sizeOf, typeInfo, hi, Builtin.lenOf, Builtin.firstCells, hnc, storeCells]
  | some a =>
    have hsm := E.small
    obtain ⟨v', w', r1, r2, r3, -⟩ := run_append_own (P := Tryz.prog) w base E.sl E.sl E.ty i E.zero E.n E.bytes E.und hi e1 e2 e3 E.zlen E.pos v l.length (E.cells l) hown a lb.length cap (E.cells lb) (E.cells_len lb)
      (fun j u hj => by
        have hj2 := (List.getElem?_eq_some_iff.1 hj).1
        rw [E.cells_len] at hj2
        have hp := E.pos
        have hd : j / E.n < lb.length := Nat.div_lt_of_lt_mul (by rw [Nat.mul_comm]; exact hj2)
        have he : j / E.n * E.n + j % E.n = j := by rw [Nat.mul_comm]; exact Nat.div_add_mod j E.n
        obtain ⟨x, hx⟩ : ∃ x, lb[j / E.n]? = some x := ⟨_, List.getElem?_eq_getElem hd⟩
        obtain ⟨z, hz⟩ : ∃ z, (E.enc x)[j % E.n]? = some z := ⟨_, List.getElem?_eq_getElem (by rw [E.len]; exact Nat.mod_lt _ hp)⟩
        have h5 := E.cells_at hx hz
        rw [he, hj] at h5
        obtain rfl := Option.some.inj h5
        obtain ⟨a', ha, hc⟩ := h3 _ x hx
        cases ha
        have := hc _ _ hz
        rwa [he] at this) (E.cells_one' lb) (by unfold maxLen; omega)
      (by have : (l.length + lb.length) * E.bytes ≤ 100000000000 * 1000 := Nat.mul_le_mul hn hsm
          omega) hbase
    refine ⟨v', w', r1, ?_, r3⟩
    unfold Elt.Own
    rw [E.cells_append, List.length_append]
    exact r2
variable {ops : Array Oper} {rest : List Oper} {o : Oper} {a : Act} {Q : Exit → Act → World → Prop} {w : World}
/-- append of a slice. -/
theorem Elt.wpList_cat (E : Elt α) (hgd : o.guard = none) (sl x : Operand) {s1 s2 s3 : TypeId} (ho : o.op = .call { callee := .builtin .append, args := #[sl, x], argTypes := #[s1, s2] }) (hty : o.type = s3) (e1 : s1 = E.sl) (e2 : s2 = E.sl) (e3 : s3 = E.sl)
    (base : Nat) (v : Value) (l : List α) (hs : a.eval sl = v) (hown : E.Own base w v l) (vb : Value) (lb : List α) (hx : a.eval x = vb) (hb : E.Are w vb lb) (hn : l.length + lb.length ≤ 100000000000) (W : World) (hbase : base = W.heap.size) (hbl : Below W.heap.size W w)
    (h : ∀ v' w', E.Own base w' v' (l ++ lb) → Below W.heap.size W w' → wpList Tryz.prog ops Q rest (a.put o.dst v') w') : wpList Tryz.prog ops Q (o :: rest) a w := by
  subst hbase e1 e2 e3
  refine wpList_plain hgd fun K hK => ?_
  obtain ⟨v', w', hr, h2, h3⟩ := Elt.run_cat hown hb hn hbl.size
  unfold Oper.wp execOp
  simp only [ho, hty, resolve, invoke, builtin, Sem.run_bind, Sem.run_pure, Result.andThen_ok, List.map_toArray, List.map_cons, List.map_nil, hs, hx, hr]
  exact hK _ _ (h v' w' h2 (hbl.grown h3 hbl.size (fun k e => (World.ownsRow.lt hown k e).1)))
/-- append of one element, which was laid into a new block just ahead. -/
theorem Elt.wpList_push (E : Elt α) (hgd : o.guard = none) (sl x : Operand) {s1 s2 s3 : TypeId} (ho : o.op = .call { callee := .builtin .append, args := #[sl, x], argTypes := #[s1, s2] }) (hty : o.type = s3) (e1 : s1 = E.sl) (e2 : s2 = E.sl) (e3 : s3 = E.sl)
    (base : Nat) (v : Value) (l : List α) (hs : a.eval sl = v) (hown : E.Own base w v l) (y : α) {g : Nat} (hx : a.eval x = .slice (some ⟨g, 0, none⟩) 1 1) (hg : g = w.heap.size) {c : Array Value} {t : TypeId} (hc : c = (E.enc y).toArray) (hn : l.length ≤ 50000000000) (W : World) (hbase : base = W.heap.size) (hbl : Below W.heap.size W w)
    (h : ∀ v' w', E.Own base w' v' (l ++ [y]) → Below W.heap.size W w' → wpList Tryz.prog ops Q rest (a.put o.dst v') w') : wpList Tryz.prog ops Q (o :: rest) a (w.alloc (.cells c t)) := by
  subst hg
  have hb : Below w.heap.size w (w.alloc (.cells c t)) := (Below.refl _ _).alloc (Nat.le_refl _) _
  exact E.wpList_cat hgd sl x ho hty e1 e2 e3 base v l hs (hown.below hb) _ [y] hx (Elt.are_block (l := [y]) (heap_alloc_new w _) (by rw [E.cells_one]; exact hc) (by unfold maxLen; simp)) (by simp; omega) W hbase (hbl.alloc hbl.size _) h
end
end Go.Proofs.YtcgkkjfbdappoaaGreat
