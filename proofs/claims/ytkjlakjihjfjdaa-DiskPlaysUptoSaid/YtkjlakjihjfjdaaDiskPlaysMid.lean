/- The law DiskPlays: what is held in a round; plain facts. -/
import Derived.Test.YtkjlakjihjfjdaaDkSame
import Derived.Test.YtkjlakjihjfjdaaDkShown
import Derived.Test.YtkjlakjihjfjdaaDeedOpen
namespace Go.Proofs.Ytkjlakjihjfjdaa.diskPlays
open Go.RowKit Go.Proofs.YtkjlakjihjfjdaaW.PrintWords Go.Proofs.YtkjlakjihjfjdaaW.PrintLast Go.Proofs.YtkjlakjihjfjdaaW.PrintMore
set_option linter.unusedVariables false
set_option linter.unusedSimpArgs false

/-- What the disk keeps: what was there at the begin, and the place of the document's disk. -/
def Sp (w : World) (p : Nat) : Nat → Prop := fun j => j < w.heap.size ∨ j = p
/-- What a round has: the disk, its copy, the document's disk, what it was. -/
structure Mid (w : World) (n0 b p b2 q : Nat) (R : Int) (ds dx : ByteArray) (dk : Int) (xs xf xr os of or : ByteArray) (W : World) : Prop where
  hd : DiskS (Sp w p) W b ds dx dk R W
  hc : DiskS (fun j => j < n0) W b2 os (of ++ or) (of.size : Nat) R W
  hx : W.heap[p]? = some (.cells (rcells R xs xf xr) 74 (0, 0))
  hq : W.heap[q]? = some (.cells (rcells R os of or) 74 (0, 0))
  bel : Below w.heap.size w W
  p0 : w.heap.size ≤ p
  pn : p < n0
  qn : n0 ≤ q
theorem here {S T : Nat → Prop} {w1 : World} {b : Nat} {snap : ByteArray} {l : List UInt8} {k room : Int} {W : World} (h : DiskOn T w1 b snap l k room W) (hS : ∀ j, S j → T j) : DiskOn S W b snap l k room W := by
  obtain ⟨v, h1, h2, h3, h4, h5, h6⟩ := h
  refine ⟨v, h1, ?_, h3, fun h => h4 (hS _ h), fun j hj => Nat.lt_of_lt_of_le (h5 j (hS j hj)) h6.size, KeepOn.refl _ _⟩
  rcases h2 with h | ⟨g, cap, cur, e, r1, r2⟩
  · exact Or.inl h
  · exact Or.inr ⟨g, cap, cur, e, fun h => r1 (hS _ h), r2⟩
theorem here_step {S : Nat → Prop} {b : Nat} {snap : ByteArray} {l : List UInt8} {k room : Int} {W W' : World} (h : DiskOn S W b snap l k room W) (hb : Below W.heap.size W W') : DiskOn S W' b snap l k room W' := here (h.step hb) (fun _ h => h)
theorem here_row {S : Nat → Prop} {b : Nat} {snap : ByteArray} {l : List UInt8} {k room : Int} {W : World} (h : DiskOn S W b snap l k room W) {p : Nat} (hp : S p) (cs : Array Value) : DiskOn S (W.setRow p cs) b snap l k room (W.setRow p cs) := by
  obtain ⟨v, h1, h2, h3, h4, h5, h6⟩ := h
  refine ⟨v, (setRow_other _ _ _ _ (by rintro rfl; exact h4 hp)).trans h1, h2.keep (fun g hg => setRow_other _ _ _ _ (by rintro rfl; exact h2.out hg hp)), h3, h4, fun j hj => by simpa using h5 j hj, KeepOn.refl _ _⟩
theorem Mid.step {w : World} {n0 b p b2 q : Nat} {R : Int} {ds dx : ByteArray} {dk : Int} {xs xf xr os of or : ByteArray} {W W' : World} (h : Mid w n0 b p b2 q R ds dx dk xs xf xr os of or W) (hb : Below W.heap.size W W') : Mid w n0 b p b2 q R ds dx dk xs xf xr os of or W' :=
  ⟨here_step h.hd hb, here_step h.hc hb, (hb.block _ (Array.getElem?_eq_some_iff.1 h.hx).1).trans h.hx, (hb.block _ (Array.getElem?_eq_some_iff.1 h.hq).1).trans h.hq, below_step h.bel hb, h.p0, h.pn, h.qn⟩
theorem Mid.setx {w : World} {n0 b p b2 q : Nat} {R : Int} {ds dx : ByteArray} {dk : Int} {xs xf xr os of or : ByteArray} {W : World} (h : Mid w n0 b p b2 q R ds dx dk xs xf xr os of or W) (ys yf yr : ByteArray) : Mid w n0 b p b2 q R ds dx dk ys yf yr os of or (W.setRow p (rcells R ys yf yr)) :=
  ⟨here_row h.hd (Or.inr rfl) _, here_row h.hc h.pn _, setRow_heap _ _ _ _ _ _ h.hx, (setRow_other _ _ _ _ (by have := h.pn; have := h.qn; omega)).trans h.hq, below_setRow h.bel h.p0 _, h.p0, h.pn, h.qn⟩
/-- What a loop's round begins with. -/
structure Both (w : World) (b p : Nat) (R : Int) (snap safe rest : ByteArray) (W : World) : Prop where
  hd : DiskS (Sp w p) W b snap (safe ++ rest) (safe.size : Nat) R W
  hx : W.heap[p]? = some (.cells (rcells R snap safe rest) 74 (0, 0))
  bel : Below w.heap.size w W
  p0 : w.heap.size ≤ p
theorem Mid.both {w : World} {n0 b p b2 q : Nat} {R : Int} {xs xf xr os of or : ByteArray} {W : World} (h : Mid w n0 b p b2 q R xs (xf ++ xr) (xf.size : Nat) xs xf xr os of or W) : Both w b p R xs xf xr W := ⟨h.hd, h.hx, h.bel, h.p0⟩
/-- Copied, and what was laid aside: then each deed of the disk leaves the rest as it is. -/
theorem Both.mid {w : World} {b p b2 q : Nat} {R : Int} {snap safe rest : ByteArray} {W W1 W2 : World} (h : Both w b p R snap safe rest W) (hc : DiskS (fun j => j < W.heap.size) W b2 snap (safe ++ rest) (safe.size : Nat) R W1)
    (hw : Holds W1 [(q, .cells (rcells R snap safe rest) 74 (0, 0))] W2) (hq : W1.heap.size ≤ q) :
    ∃ T : Nat → Prop, DiskS T W2 b snap (safe ++ rest) (safe.size : Nat) R W2 ∧ ∀ (W3 : World) (ds dx : ByteArray) (dk : Int), DiskS T W2 b ds dx dk R W3 → Mid w W.heap.size b p b2 q R ds dx dk snap safe rest snap safe rest W3 := by
  have hb1 : Below W.heap.size W W1 := hc.below
  have hb2 : Below W.heap.size W W2 := below_step hb1 hw.2
  obtain ⟨T, hT1, hT2, hD⟩ := h.hd.apart hb2
  have hp := (Array.getElem?_eq_some_iff.1 h.hx).1
  have hql := (Array.getElem?_eq_some_iff.1 (hw.get 0 rfl)).1
  refine ⟨T, hD, fun W3 ds dx dk h3 => ?_⟩
  have hk := h3.kept
  have hc2 : DiskOn (fun j => j < W.heap.size) W b2 snap (safe ++ rest).data.toList (safe.size : Nat) R W2 := hc.step hw.2
  refine ⟨here h3 hT1, ?_, ?_, ?_, ?_, h.p0, hp, Nat.le_trans hb1.size hq⟩
  · obtain ⟨v, h1, h2, h3', h4, h5, h6⟩ := hc2
    have hlt := (Array.getElem?_eq_some_iff.1 h1).1
    exact ⟨v, (hk.block _ (hT2 _ (Nat.not_lt.1 h4) hlt)).trans h1, h2.keep (fun g hg => hk.block g (hT2 g (Nat.not_lt.1 (h2.out hg)) (h2.lt hg))), h3', h4, fun j hj => Nat.lt_of_lt_of_le (Nat.lt_of_lt_of_le hj hb2.size) hk.size, KeepOn.refl _ _⟩
  · exact (hk.block _ (hT1 _ (Or.inr rfl))).trans ((hb2.block _ hp).trans h.hx)
  · exact (hk.block _ (hT2 _ (Nat.le_trans hb1.size hq) hql)).trans (hw.get 0 rfl)
  · exact (below_step h.bel hb2).trans (hk.mono (fun j hj => hT1 _ (Or.inl hj))).below

theorem diskTwice_extract (l : List UInt8) (n : Nat) : (⟨l.toArray⟩ : ByteArray).extract 0 n = ⟨(l.take n).toArray⟩ := by
  apply ByteArray.ext
  simp
/-- How much there is behind so many deeds. -/
def Fine (R : Int) (i : Nat) (snap safe rest : ByteArray) : Prop := (snap.size : Int) + safe.size + rest.size ≤ R ∧ ((safe.size : Int) + rest.size) ≤ i * 1048576
theorem fine_start {R : Int} (h : 0 ≤ R) : Fine R 0 ⟨#[]⟩ ⟨#[]⟩ ⟨#[]⟩ := ⟨by show ((0 : Nat) : Int) + ((0 : Nat) : Int) + ((0 : Nat) : Int) ≤ R; omega, by show ((0 : Nat) : Int) + ((0 : Nat) : Int) ≤ _; omega⟩
theorem fine_size {R : Int} {i : Nat} {snap safe rest : ByteArray} (h : Fine R i snap safe rest) (hi : i ≤ 200) : safe.size + rest.size ≤ 209715200 := by
  obtain ⟨h1, h2⟩ := h
  omega
theorem fine_next {R : Int} {i : Nat} {snap safe rest : ByteArray} (h : Fine R i snap safe rest) : Fine R (i + 1) snap safe rest := by
  obtain ⟨h1, h2⟩ := h
  exact ⟨h1, by omega⟩
theorem fine_append {R : Int} {i : Nat} {snap safe rest s : ByteArray} (h : Fine R i snap safe rest) (hs : s.size ≤ 1048576) (hf : (snap.size : Int) + safe.size + rest.size + s.size ≤ R) : Fine R (i + 1) snap safe (rest ++ s) := by
  obtain ⟨h1, h2⟩ := h
  refine ⟨?_, ?_⟩ <;> rw [ByteArray.size_append] <;> omega
theorem fine_sync {R : Int} {i : Nat} {snap safe rest : ByteArray} (h : Fine R i snap safe rest) : Fine R (i + 1) snap (safe ++ rest) ⟨#[]⟩ := by
  obtain ⟨h1, h2⟩ := h
  have z : (⟨#[]⟩ : ByteArray).size = 0 := rfl
  refine ⟨?_, ?_⟩ <;> rw [ByteArray.size_append, z] <;> omega
theorem fine_switch {R : Int} {i : Nat} {s : ByteArray} (hs : (s.size : Int) ≤ R) : Fine R (i + 1) s ⟨#[]⟩ ⟨#[]⟩ := ⟨by show (s.size : Int) + ((0 : Nat) : Int) + ((0 : Nat) : Int) ≤ R; omega, by show ((0 : Nat) : Int) + ((0 : Nat) : Int) ≤ _; omega⟩
theorem fine_crash {R : Int} {i : Nat} {snap safe rest : ByteArray} (h : Fine R i snap safe rest) {m : Nat} (hm : m ≤ rest.size) : Fine R (i + 1) snap (safe ++ rest.extract 0 m) ⟨#[]⟩ := by
  obtain ⟨h1, h2⟩ := h
  have z : (⟨#[]⟩ : ByteArray).size = 0 := rfl
  refine ⟨?_, ?_⟩ <;> rw [ByteArray.size_append, ByteArray.size_extract, z] <;> omega
theorem fine_ok {R : Int} {i : Nat} {snap safe rest : ByteArray} (h : Fine R i snap safe rest) (hR : R ≤ 9223372036854775807) : RefOk R snap safe rest := ⟨by have := h.1; omega, hR, h.1⟩
theorem crash_split (safe rest : ByteArray) {m : Nat} (hm : m ≤ rest.size) : (safe ++ rest).extract 0 (safe.size + m) = safe ++ rest.extract 0 m := by
  have e : safe.data.toList.length = safe.size := rfl
  have h1 : (safe ++ rest).extract 0 (safe.size + m) = ⟨((safe ++ rest).data.toList.take (safe.size + m)).toArray⟩ := by
    have := diskTwice_extract (safe ++ rest).data.toList (safe.size + m)
    rw [bytes_back] at this
    exact this
  have h2 : rest.extract 0 m = ⟨(rest.data.toList.take m).toArray⟩ := by
    have := diskTwice_extract rest.data.toList m
    rw [bytes_back] at this
    exact this
  rw [h1, h2, ← bytes_cat, ← e, List.take_length_add_append]
  apply ByteArray.ext
  simp
theorem append_none (x : ByteArray) : x ++ (⟨#[]⟩ : ByteArray) = x := by apply ByteArray.ext; simp
theorem run_alloc_ref {o : Oper} (ho : o.op = .alloc 74) (ρ : Operand → Value) (w : World) : (execOp ρ o).run Try.prog w = .ok (.value (.pointer (some ⟨w.heap.size, 0, none⟩))) (w.alloc (.cells (rcells 0 ⟨#[]⟩ ⟨#[]⟩ ⟨#[]⟩) 74 (0, 0))) := by
  have hz := zeroRef w
  unfold execOp
  simp only [ho]
  go_simp
theorem run_store_rowD {P : Program} {o : Oper} {ρ : Operand → Value} {w : World} (ty : TypeId) (x y : Operand) (ho : o.op = .store ty x y)
    (g : Nat) (cells : Array Value) (hx : ρ x = .pointer (some ⟨g, 0, none⟩)) (hy : ρ y = .agg cells)
    (t : TypeId) (old : Array Value) (hg : w.heap[g]? = some (.cells old t (0, 0))) (hi : (P.info? ty).map (·.size) = some cells.size)
    (hold : old.size = cells.size) (h1 : cells.all (·.oneCell') = true) : (execOp ρ o).run P w = .ok .skip (w.setRow g cells) := by
  unfold execOp
  simp only [ho, hx, hy, Instr.storeAt, Instr.sureAddr, Sem.run_bind, Sem.run_pure, Result.andThen_ok, run_storeVar_row w g t ty old cells hg hi hold h1]
end Go.Proofs.Ytkjlakjihjfjdaa.diskPlays
