/- Texts that belong together, in one. -/
import Derived.Test.YtcgkkjfbdappoaaGreatElts
/- Messages: as a structure, and their cells; which of two is first; the plain law of a heap of messages. -/
namespace Go.Proofs.YtcgkkjfbdappoaaGreat
open Go.RowKit Go.Proofs.YtcgkkjfbdappoaaGreatW.PrintWords Go.Proofs.YtcgkkjfbdappoaaGreatW.PrintLast Go.Proofs.YtcgkkjfbdappoaaGreatW.PrintMore
set_option linter.unusedVariables false
set_option linter.unusedSimpArgs false

/-- A message: its number, what that had seen, an operation. -/
structure MsgV where
  q : Int
  d0 : Int
  d1 : Int
  d2 : Int
  d3 : Int
  d4 : Int
  d5 : Int
  d6 : Int
  d7 : Int
  t : Int
  r : Int
  k : Int
  a0 : Int
  a1 : Int
  i0 : Int
  i1 : Int
  t0 : Int
  t1 : Int
  nm : ByteArray
  nw : ByteArray
  off : Int
  dt : ByteArray
def MsgV.deps (m : MsgV) : List Int := [m.d0, m.d1, m.d2, m.d3, m.d4, m.d5, m.d6, m.d7]
theorem MsgV.deps_len (m : MsgV) : m.deps.length = 8 := rfl
/-- A message's cells. -/
def msgC (m : MsgV) : Array Value := #[.int .i64 m.q, .int .i64 m.d0, .int .i64 m.d1, .int .i64 m.d2, .int .i64 m.d3, .int .i64 m.d4, .int .i64 m.d5, .int .i64 m.d6, .int .i64 m.d7, .int .i64 m.t, .int .i64 m.r, .int .i64 m.k, .int .i64 m.a0, .int .i64 m.a1, .int .i64 m.i0, .int .i64 m.i1, .int .i64 m.t0, .int .i64 m.t1, .string m.nm, .string m.nw, .int .i64 m.off, .string m.dt]
theorem msgC_eq (m : MsgV) : msgC m = #[.int .i64 m.q, .int .i64 m.d0, .int .i64 m.d1, .int .i64 m.d2, .int .i64 m.d3, .int .i64 m.d4, .int .i64 m.d5, .int .i64 m.d6, .int .i64 m.d7, .int .i64 m.t, .int .i64 m.r, .int .i64 m.k, .int .i64 m.a0, .int .i64 m.a1, .int .i64 m.i0, .int .i64 m.i1, .int .i64 m.t0, .int .i64 m.t1, .string m.nm, .string m.nw, .int .i64 m.off, .string m.dt] := rfl
theorem msgC_one (m : MsgV) : (msgC m).all (·.oneCell') = true := by kernel_rfl
theorem msgC_size (m : MsgV) : (msgC m).size = 22 := rfl
def MsgV.zero : MsgV := ⟨0, 0, 0, 0, 0, 0, 0, 0, 0, 0, 0, 0, 0, 0, 0, 0, 0, 0, ⟨#[]⟩, ⟨#[]⟩, 0, ⟨#[]⟩⟩
theorem msg_size : (Tryz.prog.info? 38).map (·.size) = some 22 := by kernel_rfl
/-- Messages in a slice. -/
def msgE : Elt MsgV where
  ty := 38
  sl := 49
  n := 22
  bytes := 200
  zero := .agg (msgC MsgV.zero)
  enc := fun m => (msgC m).toList
  pos := by decide
  len := fun _ => rfl
  one := fun m u hu => by
    have := msgC_one m
    rw [Array.all_eq_true_iff_forall_mem] at this
    exact this u (by simpa using hu)
  info := by kernel_rfl
  zlen := by kernel_rfl
  und := Tryz.underlying49
  small := by decide
/-- Messages that are ready, in a slice. -/
def rdyE : Elt MsgV where
  ty := 38
  sl := 70
  n := 22
  bytes := 200
  zero := .agg (msgC MsgV.zero)
  enc := fun m => (msgC m).toList
  pos := by decide
  len := fun _ => rfl
  one := msgE.one
  info := msgE.info
  zlen := msgE.zlen
  und := Tryz.underlying70
  small := by decide
/-- Some cells of a block, as they lie. -/
theorem range_ofC {w : World} {b : Nat} {row : Array Value} {t : TypeId} {fr : Nat × Nat} (hg : w.heap[b]? = some (.cells row t fr)) (off : Nat) (cs : List Value) (h : ∀ j v, cs[j]? = some v → row[off + j]? = some v) : w.rangeAt b off cs := fun j v hj => by
  show w.cell? ⟨b, off + j, none⟩ = some v
  rw [cell_of_row w b (off + j) _ _ _ hg]
  exact h j v hj
theorem run_load_midC {P : Program} {o : Oper} {ρ : Operand → Value} {w : World} (ty : TypeId) (x : Operand) (ho : o.op = .load ty x) (b off : Nat) (cs : List Value) (hx : ρ x = .pointer (some ⟨b, off, none⟩)) (row : Array Value) (t : TypeId) (fr : Nat × Nat) (hg : w.heap[b]? = some (.cells row t fr))
    (hc : ∀ j v, cs[j]? = some v → row[off + j]? = some v) (d : TypeDesc) (hu : P.underlying ty = some d) (hd : d.isRow = true) (hi : (P.info? ty).map (·.size) = some cs.length) : (execOp ρ o).run P w = .ok (.value (.agg cs.toArray)) w := by
  unfold execOp
  simp only [ho, hx, Instr.loadAt, Instr.sureAddr, Sem.run_bind, Sem.run_pure, Result.andThen_ok, run_loadVar_mid w b off ty _ d (range_ofC hg off cs hc) hu hd hi]
/-- Cells that lie there are loaded as a whole, within a region that draws. -/
theorem run_load_rangeC {P : Program} {o : Oper} {ρ : Operand → Value} {w : World} (ty : TypeId) (x : Operand) (ho : o.op = .load ty x) (b off : Nat) (cs : List Value) (hx : ρ x = .pointer (some ⟨b, off, none⟩)) 
    (hc : ∀ j v, cs[j]? = some v → w.cell? ⟨b, off + j, none⟩ = some v) (d : TypeDesc) (hu : P.underlying ty = some d) (hd : d.isRow = true) (hi : (P.info? ty).map (·.size) = some cs.length) : (execOp ρ o).run P w = .ok (.value (.agg cs.toArray)) w := by
  unfold execOp
  simp only [ho, hx, Instr.loadAt, Instr.sureAddr, Sem.run_bind, Sem.run_pure, Result.andThen_ok, run_loadVar_mid w b off ty _ d (fun j v hj => hc j v hj) hu hd hi]
theorem rdy_own {b : Nat} {w : World} {v : Value} {l : List MsgV} : rdyE.Own b w v l ↔ msgE.Own b w v l := Iff.rfl

def lessM (a b : MsgV) : Bool := decide (a.t < b.t) || (decide (a.t = b.t) && (decide (a.r < b.r) || (decide (a.r = b.r) && decide (a.q < b.q))))
theorem lessM_iff (a b : MsgV) : lessM a b = true ↔ a.t < b.t ∨ (a.t = b.t ∧ (a.r < b.r ∨ (a.r = b.r ∧ a.q < b.q))) := by
  unfold lessM; simp
theorem lessM_off (a b : MsgV) : lessM a b = false ↔ b.t < a.t ∨ (a.t = b.t ∧ (b.r < a.r ∨ (a.r = b.r ∧ b.q ≤ a.q))) := by
  rw [← Bool.not_eq_true, lessM_iff]; omega
theorem less_trans {a b c : MsgV} (h : lessM a b = true) (k : lessM b c = true) : lessM a c = true := by
  rw [lessM_iff] at *; omega
theorem notless_trans {a b c : MsgV} (h : lessM b a = false) (k : lessM c b = false) : lessM c a = false := by
  rw [lessM_off] at *; omega
/-- Each is not below its parent, but perhaps that at j, whose children are not below its parent. -/
structure UpTo (l : List MsgV) (j : Nat) : Prop where
  rest : ∀ i x y, 0 < i → i ≠ j → l[i]? = some x → l[(i - 1) / 2]? = some y → lessM x y = false
  over : ∀ i x y, 0 < j → 0 < i → (i - 1) / 2 = j → l[i]? = some x → l[(j - 1) / 2]? = some y → lessM x y = false
def IsHeap (l : List MsgV) : Prop := ∀ i x y, 0 < i → l[i]? = some x → l[(i - 1) / 2]? = some y → lessM x y = false
theorem IsHeap.nil : IsHeap [] := fun i x y _ h => by simp at h
theorem IsHeap.push {l : List MsgV} (h : IsHeap l) (m : MsgV) : UpTo (l ++ [m]) l.length := by
  have hl : ∀ i, i < l.length → (l ++ [m])[i]? = l[i]? := fun i hi => List.getElem?_append_left hi
  refine ⟨fun i x y hi hne hx hy => ?_, fun i x y hj hi hp hx hy => ?_⟩
  · have h1 : i < (l ++ [m]).length := (List.getElem?_eq_some_iff.1 hx).1
    rw [List.length_append, List.length_singleton] at h1
    rw [hl i (by omega)] at hx
    rw [hl _ (by omega)] at hy
    exact h i x y hi hx hy
  · have h1 : i < (l ++ [m]).length := (List.getElem?_eq_some_iff.1 hx).1
    rw [List.length_append, List.length_singleton] at h1
    omega
theorem UpTo.done {l : List MsgV} {j : Nat} (h : UpTo l j) (hj : j = 0 ∨ ∀ x y, l[j]? = some x → l[(j - 1) / 2]? = some y → lessM x y = false) : IsHeap l := by
  intro i x y hi hx hy
  by_cases e : i = j
  · subst e
    rcases hj with h0 | h1
    · omega
    · exact h1 x y hx hy
  · exact h.rest i x y hi e hx hy
theorem IsHeap.root {l : List MsgV} (h : IsHeap l) {y : MsgV} (hy : l[0]? = some y) : ∀ (n i : Nat) x, i ≤ n → l[i]? = some x → lessM x y = false := by
  intro n
  induction n with
  | zero =>
    intro i x hi hx
    obtain rfl : i = 0 := by omega
    rw [hy] at hx; cases hx
    rw [lessM_off]; omega
  | succ n ih =>
    intro i x hi hx
    by_cases e : i = 0
    · subst e
      rw [hy] at hx; cases hx
      rw [lessM_off]; omega
    · have hlt : i < l.length := (List.getElem?_eq_some_iff.1 hx).1
      have hp : l[(i - 1) / 2]? = some l[(i - 1) / 2] := List.getElem?_eq_getElem (by omega)
      exact notless_trans (ih _ _ (by omega) hp) (h i x _ (by omega) hx hp)
theorem IsHeap.least {l : List MsgV} (h : IsHeap l) {y : MsgV} (hy : l[0]? = some y) {x : MsgV} (hx : x ∈ l) : lessM x y = false := by
  obtain ⟨i, hi⟩ := List.getElem?_of_mem hx
  exact h.root hy i i x (Nat.le_refl _) hi
/-- Two change places. -/
def swapL (l : List MsgV) (i j : Nat) : List MsgV := match l[i]?, l[j]? with
  | some x, some y => (l.set i y).set j x
  | _, _ => l
theorem swapL_of {l : List MsgV} {i j : Nat} {x y : MsgV} (hx : l[i]? = some x) (hy : l[j]? = some y) : swapL l i j = (l.set i y).set j x := by
  unfold swapL; rw [hx, hy]
theorem swapL_len (l : List MsgV) (i j : Nat) : (swapL l i j).length = l.length := by
  unfold swapL; split <;> simp
theorem swapL_perm (l : List MsgV) (i j : Nat) : (swapL l i j).Perm l := by
  unfold swapL
  split
  · rename_i x y hx hy
    obtain ⟨h1, rfl⟩ := List.getElem?_eq_some_iff.1 hx
    obtain ⟨h2, rfl⟩ := List.getElem?_eq_some_iff.1 hy
    exact List.set_set_perm h1 h2
  · exact List.Perm.refl _
theorem swapL_at {l : List MsgV} {i j : Nat} {x y : MsgV} (hx : l[i]? = some x) (hy : l[j]? = some y) (k : Nat) : (swapL l i j)[k]? = if k = j then some x else if k = i then some y else l[k]? := by
  rw [swapL_of hx hy]
  have h1 := (List.getElem?_eq_some_iff.1 hx).1
  have h2 := (List.getElem?_eq_some_iff.1 hy).1
  by_cases e : k = j
  · subst e
    rw [List.getElem?_set_self (by rw [List.length_set]; exact h2), if_pos rfl]
  · rw [List.getElem?_set_ne (fun h => e h.symm), if_neg e]
    by_cases e2 : k = i
    · subst e2
      rw [List.getElem?_set_self h1, if_pos rfl]
    · rw [List.getElem?_set_ne (fun h => e2 h.symm), if_neg e2]
theorem UpTo.step {l : List MsgV} {j : Nat} (h : UpTo l j) (hj : 0 < j) {x y : MsgV} (hx : l[j]? = some x) (hy : l[(j - 1) / 2]? = some y) (hl : lessM x y = true) : UpTo (swapL l ((j - 1) / 2) j) ((j - 1) / 2) := by
  have hne : (j - 1) / 2 ≠ j := by omega
  generalize hi : (j - 1) / 2 = i at *
  have hyx : lessM y x = false := by rw [lessM_off]; rw [lessM_iff] at hl; omega
  refine ⟨fun k a b hk hki ha hb => ?_, fun k a b hi0 hk hp ha hb => ?_⟩
  · rw [swapL_at hy hx] at ha hb
    by_cases e : k = j
    · subst e
      rw [if_pos rfl] at ha; cases ha
      rw [hi, if_neg hne, if_pos rfl] at hb; cases hb
      exact hyx
    · rw [if_neg e, if_neg hki] at ha
      by_cases e2 : (k - 1) / 2 = j
      · rw [if_pos e2] at hb; cases hb
        exact h.over k a _ hj hk e2 ha (hi ▸ hy)
      · rw [if_neg e2] at hb
        by_cases e3 : (k - 1) / 2 = i
        · rw [if_pos e3] at hb; cases hb
          have := h.rest k a y hk e ha (e3 ▸ hy)
          exact notless_trans hyx this
        · rw [if_neg e3] at hb
          exact h.rest k a b hk e ha hb
  · rw [swapL_at hy hx] at ha hb
    rw [if_neg (by omega), if_neg (by omega)] at hb
    have hyb := h.rest i y b hi0 hne hy hb
    by_cases e : k = j
    · subst e
      rw [if_pos rfl] at ha; cases ha
      exact hyb
    · rw [if_neg e, if_neg (by omega)] at ha
      exact notless_trans hyb (h.rest k a y hk e ha (hp ▸ hy))

end Go.Proofs.YtcgkkjfbdappoaaGreat

/- Slices of messages of one's own: how they go on: an element laid anew, cut off, one more; what is kept. -/
namespace Go.Proofs.YtcgkkjfbdappoaaGreat
open Go.RowKit Go.Proofs.YtcgkkjfbdappoaaGreatW.PrintWords Go.Proofs.YtcgkkjfbdappoaaGreatW.PrintLast Go.Proofs.YtcgkkjfbdappoaaGreatW.PrintMore
set_option linter.unusedVariables false
set_option linter.unusedSimpArgs false

theorem lt_of {w : World} {g : Nat} {o : Obj} (h : w.heap[g]? = some o) : g < w.heap.size := (Array.getElem?_eq_some_iff.1 h).1
theorem own_base {α : Type} {E : Elt α} {b c : Nat} {w : World} {v : Value} {l : List α} (h : E.Own b w v l) (hc : c ≤ b) : E.Own c w v l := by
  obtain ⟨hl, ⟨rfl, hn⟩ | ⟨g, cap, cur, rfl, h0, h2⟩⟩ := h
  · exact ⟨hl, .inl ⟨rfl, hn⟩⟩
  · exact ⟨hl, .inr ⟨g, cap, cur, rfl, Nat.le_trans hc h0, h2⟩⟩
theorem own_keep {α : Type} {E : Elt α} {b : Nat} {w w' : World} {v : Value} {l : List α} (h : E.Own b w v l) (hk : ∀ k, v.ownBlock = some k → w'.heap[k]? = w.heap[k]?) : E.Own b w' v l := by
  obtain ⟨hl, ⟨rfl, hn⟩ | ⟨g, cap, cur, rfl, h0, hg, h1, h2, h3, h4⟩⟩ := h
  · exact ⟨hl, .inl ⟨rfl, hn⟩⟩
  · exact ⟨hl, .inr ⟨g, cap, cur, rfl, h0, (hk g rfl).trans hg, h1, h2, h3, h4⟩⟩
/-- append of one: the row goes on where it is, or in a new block. -/
theorem run_cat1 {α : Type} {E : Elt α} {base : Nat} {w : World} {v : Value} {l : List α} (hown : E.Own base w v l) (y : α) {g0 : Nat} (hy : ∀ j u, (E.enc y)[j]? = some u → w.cell? ⟨g0, j, none⟩ = some u) (hn : l.length ≤ 50000000000) (hbase : base ≤ w.heap.size) :
    ∃ v' w', (Builtin.append_ #[E.sl, E.sl] E.sl #[v, .slice (some ⟨g0, 0, none⟩) 1 1]).run Tryz.prog w = .ok v' w' ∧ E.Own base w' v' (l ++ [y]) ∧ w.grownBy w' v.ownBlock ∧ ∀ k, v'.ownBlock = some k → v.ownBlock = some k ∨ w.heap.size ≤ k := by
  have hare : E.Are w (.slice (some ⟨g0, 0, none⟩) 1 1) [y] := ⟨_, 1, rfl, Nat.le_refl _, by unfold maxLen; omega, fun j x hj => ⟨_, rfl, fun i u hu => by
    have hj0 : j = 0 := by have := (List.getElem?_eq_some_iff.1 hj).1; simp at this; exact this
    subst hj0
    simp at hj
    subst hj
    have e : (⟨g0, 0, none⟩ : Addr).add (0 * E.n + i) = ⟨g0, i, none⟩ := Addr.add_lit _ _ _ |>.trans (by simp)
    rw [e]
    exact hy i u hu⟩⟩
  have hown0 := hown
  obtain ⟨hl, ⟨rfl, hz⟩ | ⟨g, cap, cur, rfl, h0, hg, h1, h2, h3, h4⟩⟩ := hown
  · have hnil : E.Own w.heap.size w (.slice none 0 0) l := ⟨hl, .inl ⟨rfl, hz⟩⟩
    obtain ⟨v', w', r1, r2, r3⟩ := Elt.run_cat hnil hare (by simp; omega) (Nat.le_refl _)
    exact ⟨v', w', r1, own_base r2 hbase, r3, fun k hk => .inr (World.ownsRow.lt r2 k hk).1⟩
  · obtain ⟨i, hi, e⟩ := Option.map_eq_some_iff.1 E.info
    simp only [Prod.mk.injEq] at e
    obtain ⟨e1, e2, e3⟩ := e
    have hnews : ∀ j u, (E.enc y)[j]? = some u → w.cell? ((⟨g0, 0, none⟩ : Addr).add j) = some u := fun j u hu => by
      have e : (⟨g0, 0, none⟩ : Addr).add j = ⟨g0, j, none⟩ := Addr.add_lit _ _ _ |>.trans (by simp)
      rw [e]; exact hy j u hu
    by_cases hfit : l.length + 1 ≤ cap
    · obtain ⟨w', r1, r2, r3⟩ := run_append_fits (P := Tryz.prog) w base E.sl E.sl E.ty i E.n E.und hi e2 g l.length cap (E.cells l) hown0 ⟨g0, 0, none⟩ 1 1 (E.enc y) (by rw [E.len]; simp) hnews (E.one y) hfit
      refine ⟨_, w', r1, ?_, r3, fun k hk => .inl hk⟩
      unfold Elt.Own
      rw [E.cells_append, E.cells_one, List.length_append]
      exact r2
    · have hsm := E.small
      obtain ⟨v', w', r1, r2, r3⟩ := run_append_arg_grows (P := Tryz.prog) w E.sl E.sl E.ty i E.zero E.n E.bytes E.und hi e1 e2 e3 E.zlen E.pos ⟨g, 0, none⟩ l.length cap (E.cells l) (E.cells_len l)
        (fun j u hj => World.ownsRow.cells hown0 rfl _ _ hj) ⟨g0, 0, none⟩ 1 1 (E.enc y) (by rw [E.len]; simp) hnews (by omega) (by unfold maxLen; omega)
        (by have : (l.length + 1) * E.bytes ≤ 100000000000 * 1000 := Nat.mul_le_mul (by omega) hsm
            omega)
      refine ⟨v', w', r1, ?_, ⟨r3.os, r3.tape, r3.output, r3.size, fun k hk _ => r3.block k hk (by simp)⟩, fun k hk => .inr (World.ownsRow.lt r2 k hk).1⟩
      refine own_base (b := w.heap.size) ?_ hbase
      unfold Elt.Own
      rw [E.cells_append, E.cells_one, List.length_append]
      exact r2
theorem run_catop {o : Oper} {ρ : Operand → Value} {w w' : World} {sl x : Operand} {s : TypeId} {v vb v' : Value} (ho : o.op = .call { callee := .builtin .append, args := #[sl, x], argTypes := #[s, s] }) (hty : o.type = s) (hs : ρ sl = v) (hx : ρ x = vb) (hr : (Builtin.append_ #[s, s] s #[v, vb]).run Tryz.prog w = .ok v' w') :
    (execOp ρ o).run Tryz.prog w = .ok (.value v') w' := by
  unfold execOp
  simp only [ho, hty, resolve, invoke, builtin, Sem.run_bind, Sem.run_pure, Result.andThen_ok, List.map_toArray, List.map_cons, List.map_nil, hs, hx, hr]

section
variable {α : Type} {E : Elt α}
theorem Elt.cells_set : ∀ (l : List α) (j : Nat) (y : α), j < l.length → E.cells (l.set j y) = (E.cells l).take (j * E.n) ++ E.enc y ++ (E.cells l).drop (j * E.n + E.n)
  | [], j, y, h => by simp at h
  | x :: l, 0, y, h => by
    rw [List.set_cons_zero, E.cells_cons, E.cells_cons, Nat.zero_mul, Nat.zero_add, List.take_zero, List.nil_append, List.drop_append_of_le_length (by rw [E.len]; exact Nat.le_refl _), List.drop_eq_nil_of_le (by rw [E.len]; exact Nat.le_refl _), List.nil_append]
  | x :: l, j + 1, y, h => by
    rw [List.set_cons_succ, E.cells_cons, E.cells_cons, Elt.cells_set l j y (by simpa using h)]
    have e : (j + 1) * E.n = (E.enc x).length + j * E.n := by rw [E.len, Nat.succ_mul, Nat.add_comm]
    rw [e, List.take_length_add_append, Nat.add_assoc, List.drop_length_add_append, List.append_assoc, List.append_assoc, List.append_assoc]
theorem Elt.Own.block {b : Nat} {w : World} {g cap : Nat} {l : List α} (h : E.Own b w (.slice (some ⟨g, 0, none⟩) l.length cap) l) :
    b ≤ g ∧ l.length ≤ cap ∧ cap ≤ maxLen ∧ ∃ cur, w.heap[g]? = some (.cells cur E.ty (0, 0)) ∧ cur.size = cap * E.n ∧ cur.toList.take (l.length * E.n) = E.cells l := by
  obtain ⟨hl, ⟨e, hn⟩ | ⟨g', cap', cur, e, h0, hg, h1, h2, h3, h4⟩⟩ := h
  · cases e
  · cases e; exact ⟨h0, h1, h2, cur, hg, h3, h4⟩
theorem Elt.own_of {b : Nat} {w : World} {g cap n : Nat} {l : List α} (hn : n = l.length) (h0 : b ≤ g) (h1 : l.length ≤ cap) (h2 : cap ≤ maxLen) {cur : Array Value} (hg : w.heap[g]? = some (.cells cur E.ty (0, 0))) (h3 : cur.size = cap * E.n) (h4 : cur.toList.take (l.length * E.n) = E.cells l) :
    E.Own b w (.slice (some ⟨g, 0, none⟩) n cap) l := by
  subst hn
  exact ⟨E.cells_len l, .inr ⟨g, cap, cur, rfl, h0, hg, h1, h2, h3, h4⟩⟩
theorem Elt.Own.there {b : Nat} {w : World} {g cap : Nat} {l : List α} (h : E.Own b w (.slice (some ⟨g, 0, none⟩) l.length cap) l) {j : Nat} (hj : j < l.length) : w.there g (j * E.n) E.n := by
  obtain ⟨h0, h1, h2, cur, hg, h3, h4⟩ := h.block
  intro i hi
  have hle : (j + 1) * E.n ≤ cap * E.n := Nat.mul_le_mul_right _ (by omega)
  rw [Nat.succ_mul] at hle
  refine ⟨?_, frozen_of_row w g _ _ _ hg⟩
  rw [cell_of_row w g _ _ _ _ hg, Array.getElem?_eq_getElem (by omega)]
  rfl
theorem Elt.Own.range {b : Nat} {w : World} {g cap : Nat} {l : List α} (h : E.Own b w (.slice (some ⟨g, 0, none⟩) l.length cap) l) {j : Nat} {x : α} (hx : l[j]? = some x) : w.rangeAt g (j * E.n) (E.enc x) := by
  intro i u hu
  obtain ⟨g', cap', e, h1, h2⟩ := h.lit (fun e => by subst e; simp at hx)
  cases e
  exact h2 j x hx i u hu
/-- One element is laid anew. -/
theorem Elt.Own.set {b : Nat} {w : World} {g cap : Nat} {l : List α} (h : E.Own b w (.slice (some ⟨g, 0, none⟩) l.length cap) l) {j : Nat} (hj : j < l.length) (y : α) :
    E.Own b (w.setCells g (j * E.n) (E.enc y)) (.slice (some ⟨g, 0, none⟩) (l.set j y).length cap) (l.set j y) := by
  obtain ⟨h0, h1, h2, cur, hg, h3, h4⟩ := h.block
  have hle : (j + 1) * E.n ≤ cap * E.n := Nat.mul_le_mul_right _ (by omega)
  have hle2 : (j + 1) * E.n ≤ l.length * E.n := Nat.mul_le_mul_right _ (by omega)
  rw [Nat.succ_mul] at hle hle2
  have hen := E.len y
  obtain ⟨cur', k1, k2, k3⟩ := setCells_row (E.enc y) (j * E.n) w cur hg (by omega)
  have hcl := E.cells_len l
  have hll : (E.cells (l.set j y)).length = l.length * E.n := by rw [E.cells_len, List.length_set]
  refine Elt.own_of rfl h0 (by rw [List.length_set]; exact h1) h2 k1 (by omega) ?_
  rw [List.length_set, k3, hen]
  have e1 : cur.toList.take (j * E.n) = (E.cells l).take (j * E.n) := by rw [← h4, List.take_take, Nat.min_eq_left (by omega)]
  have e2 : (cur.toList.drop (j * E.n + E.n)).take (l.length * E.n - (j * E.n + E.n)) = (E.cells l).drop (j * E.n + E.n) := by
    rw [← h4, List.drop_take]
  rw [E.cells_set l j y hj, ← e1, ← e2]
  have hl1 : (List.take (j * E.n) cur.toList ++ E.enc y).length = j * E.n + E.n := by
    rw [List.length_append, List.length_take, hen, Array.length_toList]; omega
  rw [List.take_append, hl1, List.take_of_length_le (by omega)]
/-- Cut off. -/
theorem Elt.Own.cut {b : Nat} {w : World} {A : Option Addr} {n cap : Nat} {l : List α} (h : E.Own b w (.slice A n cap) l) {m : Nat} (hm : m ≤ l.length) : E.Own b w (.slice A m cap) (l.take m) := by
  have hlm : (l.take m).length = m := by rw [List.length_take]; omega
  obtain ⟨hl, ⟨e, hn⟩ | ⟨g', cap', cur, e, h0, hg, h1, h2, h3, h4⟩⟩ := h
  · cases e
    have hm0 : m = 0 := by omega
    subst hm0
    rw [List.take_zero]
    exact Elt.Own.nil b w
  · cases e
    refine Elt.own_of hlm.symm h0 (by omega) h2 hg h3 ?_
    have hle : m * E.n ≤ l.length * E.n := Nat.mul_le_mul_right _ hm
    rw [hlm, show m * E.n = min (m * E.n) (l.length * E.n) by omega, ← List.take_take, h4]
    have : E.cells l = E.cells (l.take m) ++ E.cells (l.drop m) := by rw [← E.cells_append, List.take_append_drop]
    rw [this, List.take_append_of_le_length (by rw [E.cells_len, hlm]; exact Nat.le_refl _), List.take_of_length_le (by rw [E.cells_len, hlm]; exact Nat.le_refl _)]
theorem Elt.Own.lt {b : Nat} {w : World} {v : Value} {l : List α} (h : E.Own b w v l) {k : Nat} (hk : v.ownBlock = some k) : b ≤ k ∧ k < w.heap.size := World.ownsRow.lt h k hk
end
theorem below_setCellsC {b g : Nat} {a w : World} (h : Below b a w) (hg : b ≤ g) (o : Nat) (vs : List Value) : Below b a (w.setCells g o vs) := by
  obtain ⟨h1, h2, h3, h4⟩ := setCells_same g vs o w
  exact ⟨h1.trans h.os, h2.trans h.tape, h3.trans h.output, by rw [h4]; exact h.size, fun k hk => (setCells_far vs o k (by omega)).trans (h.block k hk)⟩
/-- Of these blocks nothing has turned; the streams are as they were; no block has gone. -/
structure KeepOn (S : Nat → Prop) (w0 W : World) : Prop where
  os : W.os = w0.os
  tape : W.tape = w0.tape
  output : W.output = w0.output
  size : w0.heap.size ≤ W.heap.size
  block : ∀ k, S k → W.heap[k]? = w0.heap[k]?
theorem KeepOn.refl (S : Nat → Prop) (w : World) : KeepOn S w w := ⟨rfl, rfl, rfl, Nat.le_refl _, fun _ _ => rfl⟩
theorem KeepOn.trans {S : Nat → Prop} {a b c : World} (h : KeepOn S a b) (k : KeepOn S b c) : KeepOn S a c :=
  ⟨k.os.trans h.os, k.tape.trans h.tape, k.output.trans h.output, Nat.le_trans h.size k.size, fun i hi => (k.block i hi).trans (h.block i hi)⟩
theorem KeepOn.mono {S T : Nat → Prop} {a b : World} (h : KeepOn S a b) (hST : ∀ k, T k → S k) : KeepOn T a b := ⟨h.os, h.tape, h.output, h.size, fun k hk => h.block k (hST k hk)⟩
theorem keep_of_below {S : Nat → Prop} {n : Nat} {a b : World} (h : Below n a b) (hS : ∀ k, S k → k < n) : KeepOn S a b := ⟨h.os, h.tape, h.output, h.size, fun k hk => h.block k (hS k hk)⟩
theorem KeepOn.setCell {S : Nat → Prop} {a b : World} (h : KeepOn S a b) {p : Addr} (hp : ¬ S p.block) (u : Value) : KeepOn S a (b.setCell p u) :=
  h.trans ⟨rfl, rfl, rfl, by simp [World.setCell], fun k hk => Below.heap_setCell _ _ _ _ (fun e => hp (e ▸ hk))⟩
theorem KeepOn.setRow {S : Nat → Prop} {a b : World} (h : KeepOn S a b) {g : Nat} (hg : ¬ S g) (cs : Array Value) : KeepOn S a (b.setRow g cs) :=
  h.trans ⟨rfl, rfl, rfl, by simp, fun k hk => setRow_other _ _ _ _ (fun e => hg (e ▸ hk))⟩
theorem KeepOn.setCells {S : Nat → Prop} {a b : World} (h : KeepOn S a b) {g : Nat} (hg : ¬ S g) (o : Nat) (vs : List Value) : KeepOn S a (b.setCells g o vs) := by
  obtain ⟨h1, h2, h3, h4⟩ := setCells_same g vs o b
  exact h.trans ⟨h1, h2, h3, by rw [h4]; exact Nat.le_refl _, fun k hk => setCells_far vs o k (fun e => hg (e ▸ hk))⟩
theorem KeepOn.grown {S : Nat → Prop} {a b c : World} (h : KeepOn S a b) {r : Option Nat} (hg : b.grownBy c r) (hS : ∀ k, S k → k < b.heap.size) (hr : ∀ k, r = some k → ¬ S k) : KeepOn S a c :=
  h.trans ⟨hg.os, hg.tape, hg.output, hg.size, fun k hk => hg.block k (hS k hk) (fun e => hr k e.symm hk)⟩
theorem KeepOn.call {S : Nat → Prop} {a b c : World} (h : KeepOn S a b) {n : Nat} (hb : Below n b c) (hS : ∀ k, S k → k < n) : KeepOn S a c := h.trans (keep_of_below hb hS)
end Go.Proofs.YtcgkkjfbdappoaaGreat

/- Which of two messages is first: cmp.Compare, cmp.Or, stamp.Compare, causal.compare: their contracts. -/
namespace Go.Proofs.YtcgkkjfbdappoaaGreat
open Go.RowKit Go.Proofs.YtcgkkjfbdappoaaGreatW.PrintWords Go.Proofs.YtcgkkjfbdappoaaGreatW.PrintLast Go.Proofs.YtcgkkjfbdappoaaGreatW.PrintMore
set_option linter.unusedVariables false
set_option linter.unusedSimpArgs false

def cmpI (x y : Int) : Int := if x < y then -1 else if x > y then 1 else 0
def orI (a b : Int) : Int := if a = 0 then b else a
theorem isnan_i (x : Int) (w : World) : Calls Tryz.prog 96 #[.int .i64 x] w fun e w' => e = .returned (.bool false) ∧ w' = w := by
  go_enter Tryz.func96, Tryz.ntmps96
  go_wp2
  go_ret
  exact ⟨by simp, rfl⟩
theorem isnan_l (x : Int) (w : World) : Calls Tryz.prog 115 #[.int .i64 x] w fun e w' => e = .returned (.bool false) ∧ w' = w := by
  go_enter Tryz.func115, Tryz.ntmps115
  go_wp2
  go_ret
  exact ⟨by simp, rfl⟩
theorem compare_i (x y : Int) (w : World) : Calls Tryz.prog 67 #[.int .i64 x, .int .i64 y] w fun e w' => e = .returned (.int .i64 (cmpI x y)) ∧ w' = w := by
  have HX := Hd.mk (isnan_i x)
  have HY := Hd.mk (isnan_i y)
  have HC : Hd (cmpI x y = if x < y then -1 else if x > y then 1 else 0) := ⟨rfl⟩
  by_cases h1 : x < y
  · have HR := Hd.mk (show cmpI x y = -1 by rw [HC.out, if_pos h1])
    clear HC
    go_enter Tryz.func67, Tryz.ntmps67
    go_wp2_with fail
    refine (HX.out _).mono ?_; rintro e w1 ⟨rfl, rfl⟩
    go_wp2_with fail
    refine (HY.out _).mono ?_; rintro e w1 ⟨rfl, rfl⟩
    go_wp2_with fail
    go_ret
    exact ⟨by rw [HR.out]; rfl, rfl⟩
  · by_cases h2 : x > y
    · have HR := Hd.mk (show cmpI x y = 1 by rw [HC.out, if_neg h1, if_pos h2])
      clear HC
      go_enter Tryz.func67, Tryz.ntmps67
      go_wp2_with fail
      refine (HX.out _).mono ?_; rintro e w1 ⟨rfl, rfl⟩
      go_wp2_with fail
      refine (HY.out _).mono ?_; rintro e w1 ⟨rfl, rfl⟩
      go_wp2_with fail
      go_ret
      exact ⟨by rw [HR.out]; rfl, rfl⟩
    · have HR := Hd.mk (show cmpI x y = 0 by rw [HC.out, if_neg h1, if_neg h2])
      clear HC
      go_enter Tryz.func67, Tryz.ntmps67
      go_wp2_with fail
      refine (HX.out _).mono ?_; rintro e w1 ⟨rfl, rfl⟩
      go_wp2_with fail
      refine (HY.out _).mono ?_; rintro e w1 ⟨rfl, rfl⟩
      go_wp2_with fail
      go_ret
      exact ⟨by rw [HR.out]; rfl, rfl⟩
theorem compare_l (x y : Int) (w : World) : Calls Tryz.prog 95 #[.int .i64 x, .int .i64 y] w fun e w' => e = .returned (.int .i64 (cmpI x y)) ∧ w' = w := by
  have HX := Hd.mk (isnan_l x)
  have HY := Hd.mk (isnan_l y)
  have HC : Hd (cmpI x y = if x < y then -1 else if x > y then 1 else 0) := ⟨rfl⟩
  by_cases h1 : x < y
  · have HR := Hd.mk (show cmpI x y = -1 by rw [HC.out, if_pos h1])
    clear HC
    go_enter Tryz.func95, Tryz.ntmps95
    go_wp2_with fail
    refine (HX.out _).mono ?_; rintro e w1 ⟨rfl, rfl⟩
    go_wp2_with fail
    refine (HY.out _).mono ?_; rintro e w1 ⟨rfl, rfl⟩
    go_wp2_with fail
    go_ret
    exact ⟨by rw [HR.out]; rfl, rfl⟩
  · by_cases h2 : x > y
    · have HR := Hd.mk (show cmpI x y = 1 by rw [HC.out, if_neg h1, if_pos h2])
      clear HC
      go_enter Tryz.func95, Tryz.ntmps95
      go_wp2_with fail
      refine (HX.out _).mono ?_; rintro e w1 ⟨rfl, rfl⟩
      go_wp2_with fail
      refine (HY.out _).mono ?_; rintro e w1 ⟨rfl, rfl⟩
      go_wp2_with fail
      go_ret
      exact ⟨by rw [HR.out]; rfl, rfl⟩
    · have HR := Hd.mk (show cmpI x y = 0 by rw [HC.out, if_neg h1, if_neg h2])
      clear HC
      go_enter Tryz.func95, Tryz.ntmps95
      go_wp2_with fail
      refine (HX.out _).mono ?_; rintro e w1 ⟨rfl, rfl⟩
      go_wp2_with fail
      refine (HY.out _).mono ?_; rintro e w1 ⟨rfl, rfl⟩
      go_wp2_with fail
      go_ret
      exact ⟨by rw [HR.out]; rfl, rfl⟩
theorem or_i (a b : Int) (g : Nat) (w : World) (hg : w.heap[g]? = some (.cells #[.int .i64 a, .int .i64 b] 3 (0, 0))) : Calls Tryz.prog 65 #[.slice (some ⟨g, 0, none⟩) 2 2] w fun e w' => e = .returned (.int .i64 (orI a b)) ∧ w' = w := by
  have c0 : w.cell? ⟨g, 0, none⟩ = some (.int .i64 a) := (cell_of_row w _ 0 _ _ _ hg).trans rfl
  have c1 : w.cell? ⟨g, 1, none⟩ = some (.int .i64 b) := (cell_of_row w _ 1 _ _ _ hg).trans rfl
  have HD : Hd (orI a b = if a = 0 then b else a) := ⟨rfl⟩
  clear hg
  go_enter Tryz.func65, Tryz.ntmps65
  go_wp2_with fail
  go_loopg [5, 8] 2 (fun kq v5 v8 w' => ∃ k : Nat, k ≤ 2 ∧ v8 = .int .i64 (k : Int) ∧ Hd (kq + k = 2) ∧ w' = w ∧ Hd ((1 ≤ k → a = 0) ∧ (2 ≤ k → b = 0)))
  case atStart => exact ⟨0, by omega, rfl, ⟨rfl⟩, rfl, ⟨by omega, by omega⟩⟩
  case round =>
    obtain ⟨k, hk, rfl, HK, rfl, HM⟩ := hrel
    rcases (by omega : k = 0 ∨ k = 1 ∨ k = 2) with rfl | rfl | rfl
    · by_cases h0 : a = 0
      · subst h0
        have HR := HM
        clear HM
        go_wp2_with fail
        go_roundg 1
        case measure => have := HK.out; omega
        case rel => exact ⟨1, by omega, by first | rfl | congr 1, ⟨by have := HK.out; omega⟩, rfl, ⟨fun _ => by first | rfl | trivial, by omega⟩⟩
      · have HR := Hd.mk (show orI a b = a by rw [HD.out, if_neg h0])
        clear HD HM
        go_wp2_with fail
        go_ret
        exact ⟨by rw [HR.out]; rfl, rfl⟩
    · have h0 := HM.out.1 (by omega)
      by_cases h1 : b = 0
      · have HR := Hd.mk h0
        subst h1
        clear HM h0
        go_wp2_with fail
        go_roundg 0
        case measure => have := HK.out; omega
        case rel => exact ⟨2, by omega, by first | rfl | congr 1, ⟨by have := HK.out; omega⟩, rfl, ⟨fun _ => HR.out, fun _ => by first | rfl | trivial⟩⟩
      · have HR := Hd.mk (show orI a b = b by rw [HD.out, if_pos h0])
        clear HD HM h0
        go_wp2_with fail
        go_ret
        exact ⟨by rw [HR.out]; rfl, rfl⟩
    · have HR := Hd.mk (show orI a b = 0 by rw [HD.out, if_pos (HM.out.1 (by omega))]; exact HM.out.2 (by omega))
      clear HD HM
      go_wp2_with fail
      go_ret
      exact ⟨by rw [HR.out]; rfl, rfl⟩
theorem build2 {o : Oper} {ρ : Operand → Value} {w : World} (x0 x1 : Operand) (ho : o.op = .buildSlice 155 2 #[(0, x0), (1, x1)]) (x y : Int) (h0 : ρ x0 = .int .i64 x) (h1 : ρ x1 = .int .i64 y) :
    (execOp ρ o).run Tryz.prog w = .ok (.value (.slice (some ⟨w.heap.size, 0, none⟩) 2 2)) (w.alloc (.cells #[.int .i64 x, .int .i64 y] 3 (0, 0))) := by
  unfold execOp
  simp only [ho, List.map_toArray, List.map_cons, List.map_nil, h0, h1]
  go_simp
theorem or_below (a b : Int) (g : Nat) {w0 w : World} (hb : Below w0.heap.size w0 w) (hg : w.heap[g]? = some (.cells #[.int .i64 a, .int .i64 b] 3 (0, 0))) : Calls Tryz.prog 65 #[.slice (some ⟨g, 0, none⟩) 2 2] w fun e w' => e = .returned (.int .i64 (orI a b)) ∧ Below w0.heap.size w0 w' :=
  (or_i a b g w hg).mono fun e w' ⟨h1, h2⟩ => ⟨h1, h2 ▸ hb⟩
def cmpT (a b c d : Int) : Int := orI (cmpI a c) (cmpI b d)
theorem same_below {P : Program} {f : Nat} {args : Array Value} {w : World} {v : Value} (h : Calls P f args w fun e w' => e = .returned v ∧ w' = w) : Calls P f args w fun e w' => e = .returned v ∧ Below w.heap.size w w' :=
  h.mono fun e w' ⟨h1, h2⟩ => ⟨h1, h2 ▸ Below.refl _ _⟩
set_option maxHeartbeats 1000000 in
set_option maxRecDepth 100000 in
theorem stamp_compare (a b c d : Int) (w : World) : Calls Tryz.prog 66 #[.agg #[.int .i64 a, .int .i64 b], .agg #[.int .i64 c, .int .i64 d]] w fun e w' => e = .returned (.int .i64 (cmpT a b c d)) ∧ Below w.heap.size w w' := by
  have K0 := Hd.mk (Holds.start2 w (.cells #[.int .i64 a, .int .i64 b] 34 (0, 0)) (.cells #[.int .i64 c, .int .i64 d] 34 (0, 0)))
  have HT := Hd.mk fun w => same_below (compare_l a c w)
  have HR := Hd.mk fun w => same_below (compare_i b d w)
  have HD : Hd (cmpT a b c d = orI (cmpI a c) (cmpI b d)) := ⟨rfl⟩
  generalize cmpI a c = x at *
  generalize cmpI b d = y at *
  go_enter Tryz.func66, Tryz.ntmps66
  go_upto_region 1 with (fail)
  refine world_gen _ K0.out (fun W hK => ?_)
  have K1 := Hd.mk hK
  clear hK K0
  refine st_ 13 (S := fun W_ => Holds w [(w.heap.size + 1, .cells #[.int .i64 c, .int .i64 d] 34 (0, 0)), (w.heap.size, .cells #[.int .i64 a, .int .i64 b] 34 (0, 0))] W_) (ds := []) (K1.out.drew) (fun hHeld => ?_)
  refine pu_ 0 (some 5) ?_
  refine tk_ 1 (some 6) (.int .i64 a) rfl (fun w' h => by have c : w'.cell? ⟨w.heap.size, 0, none⟩ = some (.int .i64 a) := (cell_of_row w' _ 0 _ _ _ (h.get 1 rfl)).trans rfl; go_simp) hHeld ?_
  refine pu_ 2 (some 7) ?_
  refine tk_ 3 (some 8) (.int .i64 c) rfl (fun w' h => by have c : w'.cell? ⟨w.heap.size + 1, 0, none⟩ = some (.int .i64 c) := (cell_of_row w' _ 0 _ _ _ (h.get 0 rfl)).trans rfl; go_simp) hHeld ?_
  refine pu_ 5 (some 10) ?_
  refine tk_ 6 (some 11) (.int .i64 b) rfl (fun w' h => by have c : w'.cell? ⟨w.heap.size, 1, none⟩ = some (.int .i64 b) := (cell_of_row w' _ 1 _ _ _ (h.get 1 rfl)).trans rfl; go_simp) hHeld ?_
  refine pu_ 7 (some 12) ?_
  refine tk_ 8 (some 13) (.int .i64 d) rfl (fun w' h => by have c : w'.cell? ⟨w.heap.size + 1, 1, none⟩ = some (.int .i64 d) := (cell_of_row w' _ 1 _ _ _ (h.get 0 rfl)).trans rfl; go_simp) hHeld ?_
  refine cb_ 4 (some 9) Tryz.func95 HT (fun _ hr => hHeld.call hr) (fun wr1 hHeld => ?_)
  refine cb_ 9 (some 14) Tryz.func67 HR (fun _ hr => hHeld.call hr) (fun wr2 hHeld => ?_)
  refine one_ (i := 10) (N := some 15) #[true, true, true, true, true, true, true, true, true, true, true, false, false] rfl rfl (by kernel_rfl) (by decide) (fun K hK => ?_)
  refine value_ (by rfl) rfl (build2 _ _ rfl _ _ rfl rfl) ?_
  refine hK.out _ _ ((hHeld.alloc _).rest) (fun hHeld => ?_)
  clear hK K
  refine norm_ (a' := ?_) ?_ ?_
  rotate_left
  · show Act.put _ (some 15) _ = _
    simp only [Act.put, List.setIfInBounds_toArray, List.set_cons_zero, List.set_cons_succ]
    rfl
  refine one_ (i := 11) (N := some 16) #[true, true, true, true, true, true, true, true, true, true, true, true, false] rfl rfl (by kernel_rfl) (by decide) (fun K hK => ?_)
  refine goes_ Tryz.func65 (by kernel_rfl) rfl #[.slice (some ⟨wr2.heap.size, 0, none⟩) 2 2] (by rfl) rfl rfl (by (try simp only [List.map_toArray, List.map_cons, List.map_nil]); first | done | rfl) ?_
  (with_reducible refine ((same_below (or_i x y _ _ (heap_alloc_new _ _)))).mono ?_)
  rintro e wr3 ⟨rfl, hr3⟩
  refine ⟨_, rfl, ?_⟩
  refine hK.out _ _ (hHeld.call hr3) (fun hHeld => ?_)
  clear hK K
  refine norm_ (a' := ?_) ?_ ?_
  rotate_left
  · show Act.put _ (some 16) _ = _
    simp only [Act.put, List.setIfInBounds_toArray, List.set_cons_zero, List.set_cons_succ]
    rfl
  refine pu_ 12 (some 4) ?_
  refine done_ (by kernel_rfl) ?_
  go_wp2_with fail
  go_ret
  exact ⟨by rw [HD.out]; rfl, hHeld.2⟩
/-- Which of two messages is first. -/
def cmpM (a b : MsgV) : Int := orI (cmpT a.t a.r b.t b.r) (cmpI a.q b.q)
theorem cmpM_less (a b : MsgV) : lessM a b = decide (cmpM a b < 0) := by
  rw [Bool.eq_iff_iff, lessM_iff, decide_eq_true_iff]
  unfold cmpM cmpT orI cmpI
  repeat' split
  all_goals omega
theorem size_stp : (Tryz.prog.info? 34).map (·.size) = some 2 := by kernel_rfl
theorem msg_stp (m : MsgV) : ∀ (j : Nat) v, [Value.int .i64 m.t, Value.int .i64 m.r][j]? = some v → (msgC m)[9 + j]? = some v := fun j v h => by
  match j, h with
  | 0, h => simp at h; subst h; rfl
  | 1, h => simp at h; subst h; rfl
  | j + 2, h => simp at h
set_option maxHeartbeats 1000000 in
set_option maxRecDepth 100000 in
theorem msg_compare (a b : MsgV) (w : World) : Calls Tryz.prog 40 #[.agg (msgC a), .agg (msgC b)] w fun e w' => e = .returned (.int .i64 (cmpM a b)) ∧ Below w.heap.size w w' := by
  have K0 := Hd.mk (Holds.start2 w (.cells (msgC a) 38 (0, 0)) (.cells (msgC b) 38 (0, 0)))
  have HT := Hd.mk fun w => stamp_compare a.t a.r b.t b.r w
  have HR := Hd.mk fun w => same_below (compare_i a.q b.q w)
  have HD : Hd (cmpM a b = orI (cmpT a.t a.r b.t b.r) (cmpI a.q b.q)) := ⟨rfl⟩
  generalize cmpT a.t a.r b.t b.r = x at *
  generalize cmpI a.q b.q = y at *
  go_enter Tryz.func40, Tryz.ntmps40
  go_upto_region 1 with (fail)
  refine world_gen _ K0.out (fun W hK => ?_)
  have K1 := Hd.mk hK
  clear hK K0
  refine st_ 15 (S := fun W_ => Holds w [(w.heap.size + 1, .cells (msgC b) 38 (0, 0)), (w.heap.size, .cells (msgC a) 38 (0, 0))] W_) (ds := []) (K1.out.drew) (fun hHeld => ?_)
  refine pu_ 0 (some 5) ?_
  refine pu_ 1 (some 6) ?_
  refine tk_ 2 (some 7) (.agg #[.int .i64 a.t, .int .i64 a.r]) rfl (fun w' h => run_load_midC 34 _ rfl w.heap.size 9 [.int .i64 a.t, .int .i64 a.r] rfl _ _ _ (h.get 1 rfl) (msg_stp a) _ Tryz.underlying34 rfl size_stp) hHeld ?_
  refine pu_ 3 (some 8) ?_
  refine pu_ 4 (some 9) ?_
  refine tk_ 5 (some 10) (.agg #[.int .i64 b.t, .int .i64 b.r]) rfl (fun w' h => run_load_midC 34 _ rfl (w.heap.size + 1) 9 [.int .i64 b.t, .int .i64 b.r] rfl _ _ _ (h.get 0 rfl) (msg_stp b) _ Tryz.underlying34 rfl size_stp) hHeld ?_
  refine pu_ 7 (some 12) ?_
  refine tk_ 8 (some 13) (.int .i64 a.q) rfl (fun w' h => by have c : w'.cell? ⟨w.heap.size, 0, none⟩ = some (.int .i64 a.q) := (cell_of_row w' _ 0 _ _ _ (h.get 1 rfl)).trans rfl; go_simp) hHeld ?_
  refine pu_ 9 (some 14) ?_
  refine tk_ 10 (some 15) (.int .i64 b.q) rfl (fun w' h => by have c : w'.cell? ⟨w.heap.size + 1, 0, none⟩ = some (.int .i64 b.q) := (cell_of_row w' _ 0 _ _ _ (h.get 0 rfl)).trans rfl; go_simp) hHeld ?_
  refine cb_ 6 (some 11) Tryz.func66 HT (fun _ hr => hHeld.call hr) (fun wr4 hHeld => ?_)
  refine cb_ 11 (some 16) Tryz.func67 HR (fun _ hr => hHeld.call hr) (fun wr5 hHeld => ?_)
  refine one_ (i := 12) (N := some 17) #[true, true, true, true, true, true, true, true, true, true, true, true, true, false, false] rfl rfl (by kernel_rfl) (by decide) (fun K hK => ?_)
  refine value_ (by rfl) rfl (build2 _ _ rfl _ _ rfl rfl) ?_
  refine hK.out _ _ ((hHeld.alloc _).rest) (fun hHeld => ?_)
  clear hK K
  refine norm_ (a' := ?_) ?_ ?_
  rotate_left
  · show Act.put _ (some 17) _ = _
    simp only [Act.put, List.setIfInBounds_toArray, List.set_cons_zero, List.set_cons_succ]
    rfl
  refine one_ (i := 13) (N := some 18) #[true, true, true, true, true, true, true, true, true, true, true, true, true, true, false] rfl rfl (by kernel_rfl) (by decide) (fun K hK => ?_)
  refine goes_ Tryz.func65 (by kernel_rfl) rfl #[.slice (some ⟨wr5.heap.size, 0, none⟩) 2 2] (by rfl) rfl rfl (by (try simp only [List.map_toArray, List.map_cons, List.map_nil]); first | done | rfl) ?_
  (with_reducible refine ((same_below (or_i x y _ _ (heap_alloc_new _ _)))).mono ?_)
  rintro e wr6 ⟨rfl, hr6⟩
  refine ⟨_, rfl, ?_⟩
  refine hK.out _ _ (hHeld.call hr6) (fun hHeld => ?_)
  clear hK K
  refine norm_ (a' := ?_) ?_ ?_
  rotate_left
  · show Act.put _ (some 18) _ = _
    simp only [Act.put, List.setIfInBounds_toArray, List.set_cons_zero, List.set_cons_succ]
    rfl
  refine pu_ 14 (some 4) ?_
  refine done_ (by kernel_rfl) ?_
  go_wp2_with fail
  go_ret
  exact ⟨by rw [HD.out]; rfl, hHeld.2⟩
end Go.Proofs.YtcgkkjfbdappoaaGreat
