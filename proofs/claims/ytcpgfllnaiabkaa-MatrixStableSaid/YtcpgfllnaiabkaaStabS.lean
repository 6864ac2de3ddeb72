/- Stability: what lies in memory, and how it goes on: a slice that grows among others. -/
import Derived.Test.YtcpgfllnaiabkaaStabP
import Derived.Test.YtcpgfllnaiabkaaElts
namespace Go.Proofs.Ytcpgfllnaiabkaa.matrixStable
open Go.RowKit Go.Proofs.YtcpgfllnaiabkaaW.PrintWords Go.Proofs.YtcpgfllnaiabkaaW.PrintLast Go.Proofs.YtcpgfllnaiabkaaW.PrintMore
set_option linter.unusedVariables false
set_option linter.unusedSimpArgs false

/-- Numbers in a slice. -/
def i64E : Elt Int where
  ty := 2
  sl := 30
  n := 1
  bytes := 8
  zero := .int .i64 0
  enc := fun x => [.int .i64 x]
  pos := by decide
  len := fun _ => rfl
  one := fun x u hu => by simp at hu; subst hu; rfl
  info := by kernel_rfl
  zlen := rfl
  und := Try.underlying30
  small := by decide
theorem own_base {α : Type} {E : Elt α} {b c : Nat} {w : World} {v : Value} {l : List α} (h : E.Own b w v l) (hc : c ≤ b) : E.Own c w v l := by
  obtain ⟨hl, ⟨rfl, hn⟩ | ⟨g, cap, cur, rfl, h0, h2⟩⟩ := h
  · exact ⟨hl, .inl ⟨rfl, hn⟩⟩
  · exact ⟨hl, .inr ⟨g, cap, cur, rfl, Nat.le_trans hc h0, h2⟩⟩
theorem own_keep {α : Type} {E : Elt α} {b : Nat} {w w' : World} {v : Value} {l : List α} (h : E.Own b w v l) (hk : ∀ k, v.ownBlock = some k → w'.heap[k]? = w.heap[k]?) : E.Own b w' v l := by
  obtain ⟨hl, ⟨rfl, hn⟩ | ⟨g, cap, cur, rfl, h0, hg, h1, h2, h3, h4⟩⟩ := h
  · exact ⟨hl, .inl ⟨rfl, hn⟩⟩
  · exact ⟨hl, .inr ⟨g, cap, cur, rfl, h0, (hk g rfl).trans hg, h1, h2, h3, h4⟩⟩
/-- append of one: the row goes on where it is, or in a new block. -/
theorem run_cat1 {α : Type} {E : Elt α} {base : Nat} {w : World} {v : Value} {l : List α} (hown : E.Own base w v l) (y : α) {g0 : Nat} (hy : ∀ j u, (E.enc y)[j]? = some u → w.cell? ⟨g0, j, none⟩ = some u) (hn : l.length ≤ 50000000000) (hbase : base ≤ w.heap.size) :
    ∃ v' w', (Builtin.append_ #[E.sl, E.sl] E.sl #[v, .slice (some ⟨g0, 0, none⟩) 1 1]).run Try.prog w = .ok v' w' ∧ E.Own base w' v' (l ++ [y]) ∧ w.grownBy w' v.ownBlock ∧ ∀ k, v'.ownBlock = some k → v.ownBlock = some k ∨ w.heap.size ≤ k := by
  have hare : E.Are w (.slice (some ⟨g0, 0, none⟩) 1 1) [y] := ⟨_, 1, rfl, Nat.le_refl _, by unfold maxLen; omega, fun j x hj => ⟨_, rfl, fun i u hu => by
    have hj0 : j = 0 := by have := (List.getElem?_eq_some_iff.1 hj).1; simp at this; exact this
    subst hj0
    simp at hj
    subst hj
    have e : (⟨g0, 0, none⟩ : Addr).add (0 * E.n + i) = ⟨g0, i, none⟩ := Addr.add_lit _ _ _ |>.trans (by simp)
    rw [e]
    exact hy i u hu⟩⟩
  have hown0 := hown
  obtain ⟨hl, ⟨rfl, hz⟩ | ⟨g, cap, cur, rfl, h0, hg, h1, h2, h3, h4⟩⟩ := hown
  · have hnil : E.Own w.heap.size w (.slice none 0 0) l := ⟨hl, .inl ⟨rfl, hz⟩⟩
    obtain ⟨v', w', r1, r2, r3⟩ := Elt.run_cat hnil hare (by simp; omega) (Nat.le_refl _)
    exact ⟨v', w', r1, own_base r2 hbase, r3, fun k hk => .inr (World.ownsRow.lt r2 k hk).1⟩
  · obtain ⟨i, hi, e⟩ := Option.map_eq_some_iff.1 E.info
    simp only [Prod.mk.injEq] at e
    obtain ⟨e1, e2, e3⟩ := e
    have hnews : ∀ j u, (E.enc y)[j]? = some u → w.cell? ((⟨g0, 0, none⟩ : Addr).add j) = some u := fun j u hu => by
      have e : (⟨g0, 0, none⟩ : Addr).add j = ⟨g0, j, none⟩ := Addr.add_lit _ _ _ |>.trans (by simp)
      rw [e]; exact hy j u hu
    by_cases hfit : l.length + 1 ≤ cap
    · obtain ⟨w', r1, r2, r3⟩ := run_append_fits (P := Try.prog) w base E.sl E.sl E.ty i E.n E.und hi e2 g l.length cap (E.cells l) hown0 ⟨g0, 0, none⟩ 1 1 (E.enc y) (by rw [E.len]; simp) hnews (E.one y) hfit
      refine ⟨_, w', r1, ?_, r3, fun k hk => .inl hk⟩
      unfold Elt.Own
      rw [E.cells_append, E.cells_one, List.length_append]
      exact r2
    · have hsm := E.small
      obtain ⟨v', w', r1, r2, r3⟩ := run_append_arg_grows (P := Try.prog) w E.sl E.sl E.ty i E.zero E.n E.bytes E.und hi e1 e2 e3 E.zlen E.pos ⟨g, 0, none⟩ l.length cap (E.cells l) (E.cells_len l)
        (fun j u hj => World.ownsRow.cells hown0 rfl _ _ hj) ⟨g0, 0, none⟩ 1 1 (E.enc y) (by rw [E.len]; simp) hnews (by omega) (by unfold maxLen; omega)
        (by have : (l.length + 1) * E.bytes ≤ 100000000000 * 1000 := Nat.mul_le_mul (by omega) hsm
            omega)
      refine ⟨v', w', r1, ?_, ⟨r3.os, r3.tape, r3.output, r3.size, fun k hk _ => r3.block k hk (by simp)⟩, fun k hk => .inr (World.ownsRow.lt r2 k hk).1⟩
      refine own_base (b := w.heap.size) ?_ hbase
      unfold Elt.Own
      rw [E.cells_append, E.cells_one, List.length_append]
      exact r2
theorem run_catop {o : Oper} {ρ : Operand → Value} {w w' : World} {sl x : Operand} {s : TypeId} {v vb v' : Value} (ho : o.op = .call { callee := .builtin .append, args := #[sl, x], argTypes := #[s, s] }) (hty : o.type = s) (hs : ρ sl = v) (hx : ρ x = vb) (hr : (Builtin.append_ #[s, s] s #[v, vb]).run Try.prog w = .ok v' w') :
    (execOp ρ o).run Try.prog w = .ok (.value v') w' := by
  unfold execOp
  simp only [ho, hty, resolve, invoke, builtin, Sem.run_bind, Sem.run_pure, Result.andThen_ok, List.map_toArray, List.map_cons, List.map_nil, hs, hx, hr]
theorem but_cell (p j : Nat) (x : Value) (W : World) : But p W (W.setCell ⟨p, j, none⟩ x) := ⟨rfl, rfl, rfl, by simp, fun k hk hne => heap_setCell_other _ _ _ _ hne⟩
/-- What lies in memory behind so many steps. -/
structure Stb (w : World) (bm bs bt bi : Nat) (L S T : List Int) (I : List (List Int)) (vs : List Value) (W : World) : Prop where
  bel : Below w.heap.size w W
  mat : MatIs bm 4 L W
  se : W.heap[bs]? = some (.cells (vec S) 28 (0, 0))
  ti : W.heap[bt]? = some (.cells (vec T) 29 (0, 0))
  is : W.heap[bi]? = some (.cells vs.toArray 31 (0, 0))
  own : ∀ (b : Nat) v l, vs[b]? = some v → I[b]? = some l → i64E.Own (bi + 1) W v l
  ne : ∀ (a b : Nat) u v k, a ≠ b → vs[a]? = some u → vs[b]? = some v → u.ownBlock = some k → v.ownBlock ≠ some k
  lenV : vs.length = 4
  lenI : I.length = 4
  o1 : w.heap.size ≤ bm
  o2 : bm < bs
  o3 : bs < bt
  o4 : bt < bi
theorem lt_of {w : World} {g : Nat} {o : Obj} (h : w.heap[g]? = some o) : g < w.heap.size := (Array.getElem?_eq_some_iff.1 h).1
variable {w : World} {bm bs bt bi : Nat} {L S T : List Int} {I : List (List Int)} {vs : List Value} {W W' : World}
theorem Stb.ownB (h : Stb w bm bs bt bi L S T I vs W) {b : Nat} {v : Value} (hv : vs[b]? = some v) {k : Nat} (hk : v.ownBlock = some k) : bi + 1 ≤ k ∧ k < W.heap.size := by
  have hb : b < 4 := by have := (List.getElem?_eq_some_iff.1 hv).1; have := h.lenV; omega
  obtain ⟨l, hl⟩ : ∃ l, I[b]? = some l := ⟨_, List.getElem?_eq_getElem (by rw [h.lenI]; exact hb)⟩
  exact World.ownsRow.lt (h.own b v l hv hl) k hk
theorem Stb.turn (h : Stb w bm bs bt bi L S T I vs W) {p : Nat} (h1 : w.heap.size ≤ p) (h2 : p ≤ bi) (hb : But p W W') {L' S' T' : List Int} (hm : MatIs bm 4 L' W') (hs : W'.heap[bs]? = some (.cells (vec S') 28 (0, 0)))
    (ht : W'.heap[bt]? = some (.cells (vec T') 29 (0, 0))) (hi : W'.heap[bi]? = some (.cells vs.toArray 31 (0, 0))) : Stb w bm bs bt bi L' S' T' I vs W' :=
  ⟨hb.below h.bel h1 h.bel.size, hm, hs, ht, hi, fun b v l hv hl => own_keep (h.own b v l hv hl) (fun k hk => hb.block k (h.ownB hv hk).2 (by have := (h.ownB hv hk).1; omega)), h.ne, h.lenV, h.lenI, h.o1, h.o2, h.o3, h.o4⟩
theorem Stb.call (h : Stb w bm bs bt bi L S T I vs W) (hb : Below W.heap.size W W') : Stb w bm bs bt bi L S T I vs W' := by
  have k : ∀ {g : Nat} {o : Obj}, W.heap[g]? = some o → W'.heap[g]? = some o := fun hg => (hb.block _ (lt_of hg)).trans hg
  exact ⟨below_step h.bel hb, k h.mat, k h.se, k h.ti, k h.is, fun b v l hv hl => (h.own b v l hv hl).below hb, h.ne, h.lenV, h.lenI, h.o1, h.o2, h.o3, h.o4⟩
theorem Stb.drew (h : Stb w bm bs bt bi L S T I vs W) : Stb w bm bs bt bi L S T I vs W.drew := h.call (Below.refl _ _).drew
theorem Stb.setT (h : Stb w bm bs bt bi L S T I vs W) (r : Nat) (x : Int) : Stb w bm bs bt bi L S (T.set r x) I vs (W.setCell ⟨bt, r, none⟩ (.int .i64 x)) := by
  have b := but_cell bt r (.int .i64 x) W
  have h1 := h.o1; have h2 := h.o2; have h3 := h.o3; have h4 := h.o4
  refine h.turn (p := bt) (by omega) (by omega) b ((b.block bm (lt_of h.mat) (by omega)).trans h.mat) ((b.block bs (lt_of h.se) (by omega)).trans h.se) ?_ ((b.block bi (lt_of h.is) (by omega)).trans h.is)
  rw [← vec_set]
  exact heap_setCell_same _ _ _ _ _ _ h.ti
theorem Stb.setS (h : Stb w bm bs bt bi L S T I vs W) (j : Nat) (x : Int) : Stb w bm bs bt bi L (S.set j x) T I vs (W.setCell ⟨bs, j, none⟩ (.int .i64 x)) := by
  have b := but_cell bs j (.int .i64 x) W
  have h1 := h.o1; have h2 := h.o2; have h3 := h.o3; have h4 := h.o4
  refine h.turn (p := bs) (by omega) (by omega) b ((b.block bm (lt_of h.mat) (by omega)).trans h.mat) ?_ ((b.block bt (lt_of h.ti) (by omega)).trans h.ti) ((b.block bi (lt_of h.is) (by omega)).trans h.is)
  rw [← vec_set]
  exact heap_setCell_same _ _ _ _ _ _ h.se
theorem Stb.layS (h : Stb w bm bs bt bi L S T I vs W) (o : Nat) (r : List Int) (ho : o + r.length ≤ S.length) : Stb w bm bs bt bi L (layL S o r) T I vs (W.setCells bs o (vec r).toList) := by
  have b : But bs W (W.setCells bs o (vec r).toList) := but_of (Below.refl _ _) (lt_of h.se) o (vec r).toList
  have h1 := h.o1; have h2 := h.o2; have h3 := h.o3; have h4 := h.o4
  exact h.turn (p := bs) (by omega) (by omega) b ((b.block bm (lt_of h.mat) (by omega)).trans h.mat) (setCells_vec r o S W bs h.se ho) ((b.block bt (lt_of h.ti) (by omega)).trans h.ti) ((b.block bi (lt_of h.is) (by omega)).trans h.is)
theorem Stb.tell (h : Stb w bm bs bt bi L S T I vs W) {L' : List Int} (b : But bm W W') (hm : MatIs bm 4 L' W') : Stb w bm bs bt bi L' S T I vs W' := by
  have h1 := h.o1; have h2 := h.o2; have h3 := h.o3; have h4 := h.o4
  exact h.turn (p := bm) (by omega) (by omega) b hm ((b.block bs (lt_of h.se) (by omega)).trans h.se) ((b.block bt (lt_of h.ti) (by omega)).trans h.ti) ((b.block bi (lt_of h.is) (by omega)).trans h.is)
theorem Stb.push (h : Stb w bm bs bt bi L S T I vs W) {r : Nat} {v v' : Value} {l l' : List Int} (hv : vs[r]? = some v) (hl : I[r]? = some l) (hown : i64E.Own (bi + 1) W' v' l') (hg : W.grownBy W' v.ownBlock) (hnb : ∀ k, v'.ownBlock = some k → v.ownBlock = some k ∨ W.heap.size ≤ k) :
    Stb w bm bs bt bi L S T (I.set r l') (vs.set r v') (W'.setCell ⟨bi, r, none⟩ v') := by
  have h1 := h.o1; have h2 := h.o2; have h3 := h.o3; have h4 := h.o4
  have hr : r < 4 := by have := (List.getElem?_eq_some_iff.1 hv).1; have := h.lenV; omega
  have b := but_cell bi r v' W'
  have kk : ∀ {g : Nat} {o : Obj}, W.heap[g]? = some o → g ≤ bi → W'.heap[g]? = some o := fun hgo hle => (hg.block _ (lt_of hgo) (fun e => by have := (h.ownB hv e.symm).1; omega)).trans hgo
  have lt : W.heap.size ≤ W'.heap.size := hg.size
  have k : ∀ {g : Nat} {o : Obj}, W.heap[g]? = some o → g < bi → (W'.setCell ⟨bi, r, none⟩ v').heap[g]? = some o := fun hgo hlt => (b.block _ (Nat.lt_of_lt_of_le (lt_of hgo) lt) (by omega)).trans (kk hgo (by omega))
  have ownAt : ∀ (j : Nat) u, vs[j]? = some u → j ≠ r → ∀ q, u.ownBlock = some q → v.ownBlock ≠ some q ∧ q < W.heap.size ∧ bi + 1 ≤ q := fun j u hu hj q hq => ⟨h.ne j r u v q hj hu hv hq, (h.ownB hu hq).2, (h.ownB hu hq).1⟩
  refine ⟨?_, k h.mat (by omega), k h.se (by omega), k h.ti (by omega), ?_, ?_, ?_, by simpa using h.lenV, by simpa using h.lenI, h1, h2, h3, h4⟩
  · exact b.below (h.bel.grown hg h.bel.size (fun q hq => by have := (h.ownB hv hq).1; omega)) (by omega) (Nat.le_trans h.bel.size lt)
  · have e : (vs.set r v').toArray = vs.toArray.setIfInBounds r v' := by simp
    rw [e]
    exact heap_setCell_same _ _ _ _ _ _ (kk h.is (Nat.le_refl _))
  · intro j u x hu hx
    by_cases e : j = r
    · subst e
      rw [List.getElem?_set_self (by rw [h.lenV]; exact hr)] at hu
      rw [List.getElem?_set_self (by rw [h.lenI]; exact hr)] at hx
      obtain rfl := Option.some.inj hu
      obtain rfl := Option.some.inj hx
      exact own_keep hown (fun q hq => b.block q (World.ownsRow.lt hown q hq).2 (by have := (World.ownsRow.lt hown q hq).1; omega))
    · rw [List.getElem?_set_ne (fun x => e x.symm)] at hu hx
      refine own_keep (h.own j u x hu hx) (fun q hq => ?_)
      obtain ⟨a1, a2, a3⟩ := ownAt j u hu e q hq
      exact (b.block q (by omega) (by omega)).trans (hg.block q a2 (fun e => a1 e.symm))
  · intro i j u x q hne hu hx hq
    by_cases ei : i = r
    · subst ei
      rw [List.getElem?_set_self (by rw [h.lenV]; exact hr)] at hu
      obtain rfl := Option.some.inj hu
      rw [List.getElem?_set_ne (fun x => hne x)] at hx
      intro hc
      obtain ⟨a1, a2, a3⟩ := ownAt j x hx (fun e => hne e.symm) q hc
      rcases hnb q hq with h5 | h5
      · exact a1 h5
      · omega
    · rw [List.getElem?_set_ne (fun x => ei x.symm)] at hu
      obtain ⟨a1, a2, a3⟩ := ownAt i u hu ei q hq
      by_cases ej : j = r
      · subst ej
        rw [List.getElem?_set_self (by rw [h.lenV]; exact hr)] at hx
        obtain rfl := Option.some.inj hx
        intro hc
        rcases hnb q hc with h5 | h5
        · exact a1 h5
        · omega
      · rw [List.getElem?_set_ne (fun x => ej x.symm)] at hx
        exact h.ne i j u x q hne hu hx hq
end Go.Proofs.Ytcpgfllnaiabkaa.matrixStable
