/- disk.Switch, disk.Copy: their contracts; a copy is apart. -/
import Derived.Test.YtkjlakjihjfjdaaDkCrash
namespace Go.Proofs.Ytkjlakjihjfjdaa
open Go.RowKit Go.Proofs.YtkjlakjihjfjdaaW.PrintWords Go.Proofs.YtkjlakjihjfjdaaW.PrintLast Go.Proofs.YtkjlakjihjfjdaaW.PrintMore
set_option linter.unusedVariables false
set_option linter.unusedSimpArgs false

theorem size_disk : (Try.prog.info? 95).map (·.size) = some 4 := by kernel_rfl
theorem dcells_one (s : ByteArray) (A : Option Addr) (n c : Nat) (x y : Int) : (dcells s (.slice A n c) x y).all (·.oneCell') = true := by
  simp [dcells]
  exact ⟨rfl, by cases A <;> rfl, rfl, rfl⟩
theorem DiskOn.switch {S : Nat → Prop} {w0 : World} {b : Nat} {snap : ByteArray} {l : List UInt8} {synced room : Int} {W : World} (h : DiskOn S w0 b snap l synced room W) (s : ByteArray) : DiskOn S w0 b s [] 0 room (W.setRow b (dcells s (.slice none 0 0) 0 room)) := by
  obtain ⟨v, h1, h2, h3, h4, h5, h6⟩ := h
  exact ⟨.slice none 0 0, setRow_heap _ _ _ _ _ _ h1, Or.inl ⟨rfl, rfl⟩, by simp [Value.ownBlock], h4, h5, h6.setRow h4 _⟩
theorem DiskOn.row {S : Nat → Prop} {w0 : World} {b : Nat} {snap : ByteArray} {l : List UInt8} {synced room : Int} {W : World} (h : DiskOn S w0 b snap l synced room W) : ∃ A cap, W.heap[b]? = some (.cells (dcells snap (.slice A l.length cap) synced room) 95 (0, 0)) ∧ OwnB W S (.slice A l.length cap) l := by
  obtain ⟨v, h1, h2, h3, h4, h5, h6⟩ := h
  obtain ⟨A, cap, rfl⟩ := h2.slice
  exact ⟨A, cap, h1, h2⟩

theorem disk_Switch_off {S : Nat → Prop} {w0 : World} {b : Nat} {snap : ByteArray} {l : List UInt8} {synced room : Int} {w : World} (h : DiskOn S w0 b snap l synced room w) (s : ByteArray) (hs : room < s.size) :
    Calls Try.prog 25 #[.pointer (some ⟨b, 0, none⟩), .string s] w fun e w' => e = .returned (.int .i64 13) ∧ DiskOn S w0 b snap l synced room w' := by
  obtain ⟨A, cap, c0, c1, c2, c3, f1, f2⟩ := h.cells
  have H := Hd.mk h
  clear h
  go_enter Try.func25, Try.ntmps25
  go_wp2_with fail
  go_ret
  exact ⟨rfl, by first | exact H.out | exact H.out.drew | exact H.out.drewN _⟩

set_option maxHeartbeats 1000000 in
set_option maxRecDepth 100000 in
theorem disk_Switch {S : Nat → Prop} {w0 : World} {b : Nat} {snap : ByteArray} {l : List UInt8} {synced room : Int} {w : World} (h : DiskOn S w0 b snap l synced room w) (s : ByteArray) (hs : (s.size : Int) ≤ room) :
    Calls Try.prog 25 #[.pointer (some ⟨b, 0, none⟩), .string s] w fun e w' => e = .returned (.int .i64 0) ∧ DiskOn S w0 b s [] 0 room w' := by
  have hz : ∀ w : World, (zeroValue 95).run Try.prog w = .ok (.agg (dcells ⟨#[]⟩ (.slice none 0 0) 0 0)) w := fun w => by kernel_rfl
  obtain ⟨A, cap, c0, c1, c2, c3, f1, f2⟩ := h.cells
  obtain ⟨A2, cap2, hrow, _⟩ := h.row
  have HR := Hd.mk hrow
  have H := Hd.mk h
  have hs' : ¬ (room < (s.size : Int)) := by omega
  clear h hs hrow
  go_enter Try.func25, Try.ntmps25
  go_wp2_with (first | ((with_reducible refine gate_store (t := 95) rfl ?_); refine wpList_store_row rfl _ _ _ rfl b (dcells s (.slice none 0 0) 0 room) rfl rfl 95 (dcells snap (.slice A2 l.length cap2) synced room) HR.out size_disk rfl (dcells_one _ _ _ _ _ _) ?_))
  go_ret
  exact ⟨rfl, H.out.switch s⟩

theorem OwnB.copy {W : World} {S : Nat → Prop} {v : Value} {l : List UInt8} (h : OwnB W S v l) (hb : l.length ≤ 140737488355328) :
    ∃ A cap w', (Builtin.append_ #[93, 93] 93 #[.slice none 0 0, v]).run Try.prog W = .ok (.slice A l.length cap) w' ∧ OwnB w' (fun k => k < W.heap.size) (.slice A l.length cap) l ∧ W.grownBy w' none := by
  obtain ⟨i, hi⟩ : ∃ i, Try.prog.info? 5 = some i := by
    have : (Try.prog.info? 5).isSome = true := by kernel_rfl
    exact Option.isSome_iff_exists.1 this
  have e1 : (Try.prog.info? 5).map (·.zero) = some (some (.int .u8 0)) := by kernel_rfl
  have e2 : (Try.prog.info? 5).map (·.size) = some 1 := by kernel_rfl
  have e3 : (Try.prog.info? 5).map (·.bytes) = some 1 := by kernel_rfl
  rw [hi] at e1 e2 e3
  simp at e1 e2 e3
  rcases h with ⟨rfl, rfl⟩ | ⟨g, cap, cur, rfl, h1, h2, h3, h4, h5, h6⟩
  · exact ⟨none, 0, W, run_append_owned_none (P := Try.prog) W W.heap.size 93 93 5 i 1 Try.underlying93 hi (.slice none 0 0) 0 [] (World.ownsRow_nil W W.heap.size _ 1), Or.inl ⟨rfl, rfl⟩, ⟨rfl, rfl, rfl, Nat.le_refl _, fun _ _ _ => rfl⟩⟩
  · have hn : ∀ j u, (Lib.strCells ⟨l.toArray⟩)[j]? = some u → W.cell? ((⟨g, 0, none⟩ : Addr).add j) = some u := by
      intro j u hj
      have hjl : j < l.length := by rw [← cells_len l]; exact (List.getElem?_eq_some_iff.1 hj).1
      rw [← h6, List.getElem?_take, if_pos hjl] at hj
      rw [Addr.add_lit, cell_of_row W _ _ _ _ _ h2]
      simpa using hj
    obtain ⟨v', w', r1, r2, r3, _⟩ := run_append_own (P := Try.prog) W W.heap.size 93 93 5 i (.int .u8 0) 1 1 Try.underlying93 hi e1 e2 e3 rfl (by omega) (.slice none 0 0) 0 [] (World.ownsRow_nil W W.heap.size _ 1) ⟨g, 0, none⟩ l.length cap (Lib.strCells ⟨l.toArray⟩) (by rw [cells_len]; omega) hn (Lib.strCells_oneCell _) (by unfold maxLen; omega) (by omega) (Nat.le_refl _)
    rw [List.nil_append, Nat.zero_add] at r2
    have ho : OwnB w' (fun k => k < W.heap.size) v' l := own_of_row r2 (fun k hk h => by omega)
    obtain ⟨A, cap3, rfl⟩ := ho.slice
    exact ⟨A, cap3, w', r1, ho, r3⟩
theorem wpList_copy_ownB {ops : Array Oper} {rest : List Oper} {o : Oper} {a : Act} {Q : Exit → Act → World → Prop} {w : World} (hgd : o.guard = none) (x : Operand)
    (ho : o.op = .call { callee := .builtin .append, args := #[.const (.slice none 0 0), x], argTypes := #[93, 93] }) (hty : o.type = 93) (S : Nat → Prop) (v : Value) (l : List UInt8) (hown : OwnB w S v l) (hx : a.eval x = v)
    (hbytes : l.length ≤ 140737488355328)
    (h : ∀ A cap w', OwnB w' (fun k => k < w.heap.size) (.slice A l.length cap) l → w.grownBy w' none → wpList Try.prog ops Q rest (a.put o.dst (.slice A l.length cap)) w') : wpList Try.prog ops Q (o :: rest) a w := by
  refine wpList_plain hgd fun K hK => ?_
  obtain ⟨A, cap, w', hr, h2, h3⟩ := hown.copy hbytes
  have hc : a.eval (.const (.slice none 0 0)) = .slice none 0 0 := rfl
  unfold Oper.wp execOp
  simp only [ho, hty, resolve, invoke, builtin, Sem.run_bind, Sem.run_pure, Result.andThen_ok, List.map_toArray, List.map_cons, List.map_nil, hc, hx, hr]
  exact hK _ _ (h A cap w' h2 h3)
theorem copied {w : World} {b2 : Nat} {snap : ByteArray} {v0 : Value} {l : List UInt8} {synced room : Int} {W w2 : World} {A : Option Addr} {cap : Nat} (hW : W.heap[b2]? = some (.cells (dcells snap v0 synced room) 95 (0, 0))) (hk : w.heap.size ≤ b2) (hb : Below w.heap.size w W)
    (g1 : OwnB w2 (fun k => k < W.heap.size) (.slice A l.length cap) l) (g2 : W.grownBy w2 none) : DiskAt w b2 snap l synced room (w2.setCell ⟨b2, 1, none⟩ (.slice A l.length cap)) := by
  have hlt := (Array.getElem?_eq_some_iff.1 hW).1
  have hb2 := (g2.block b2 hlt (by simp)).trans hW
  have hne : (Value.slice A l.length cap).ownBlock ≠ some b2 := fun e => g1.out e hlt
  refine ⟨_, (heap_setCell_same _ _ _ _ _ _ hb2).trans rfl, ?_, hne, Nat.not_lt.2 hk, fun _ h => h, ?_⟩
  · have g3 : OwnB w2 (fun k => k < w.heap.size) (.slice A l.length cap) l := by
      rcases g1 with h | ⟨g, cap2, cur, e, q1, q2⟩
      · exact Or.inl h
      · exact Or.inr ⟨g, cap2, cur, e, fun h => q1 (Nat.lt_of_lt_of_le h hb.size), q2⟩
    refine g3.keep (fun g hg => heap_setCell_other _ _ _ _ ?_)
    intro e
    subst e
    exact hne hg
  · refine KeepOn.setCell ((keep_of_below hb (fun _ h => h)).trans ⟨g2.os, g2.tape, g2.output, g2.size, fun k hk2 => g2.block k (Nat.lt_of_lt_of_le hk2 hb.size) (by simp)⟩) (Nat.not_lt.2 hk) _

set_option maxHeartbeats 1000000 in
set_option maxRecDepth 100000 in
theorem disk_Copy {S : Nat → Prop} {w0 : World} {b : Nat} {snap : ByteArray} {l : List UInt8} {synced room : Int} {w : World} (h : DiskOn S w0 b snap l synced room w) (hl : l.length ≤ 140737488355328) :
    Calls Try.prog 40 #[.pointer (some ⟨b, 0, none⟩)] w fun e w' => ∃ b2, e = .returned (.pointer (some ⟨b2, 0, none⟩)) ∧ DiskAt w b2 snap l synced room w' := by
  have hz : ∀ w : World, (zeroValue 95).run Try.prog w = .ok (.agg (dcells ⟨#[]⟩ (.slice none 0 0) 0 0)) w := fun w => by kernel_rfl
  obtain ⟨A, cap, hrow, hown⟩ := h.row
  have HR := Hd.mk hrow
  have HO := Hd.mk hown
  have HL := Hd.mk hl
  have hlt := (Array.getElem?_eq_some_iff.1 hrow).1
  clear h hl hrow hown
  go_enter Try.func40, Try.ntmps40
  go_wp2_with (first | ((with_reducible refine gate_load (t := 95) rfl ?_); refine wpList_load_row rfl _ _ rfl b rfl 95 (dcells snap (.slice A l.length cap) synced room) (0, 0) _ HR.out Try.underlying95 rfl size_disk ?_) | ((with_reducible refine gate_store (t := 95) rfl ?_); refine wpList_store_row rfl _ _ _ rfl w.heap.size (dcells snap (.slice A l.length cap) synced room) rfl rfl 95 (dcells ⟨#[]⟩ (.slice none 0 0) 0 0) (heap_alloc_new _ _) size_disk rfl (dcells_one _ _ _ _ _ _) ?_; have HW := Hd.mk ((Holds.nil w).made (dcells ⟨#[]⟩ (.slice none 0 0) 0 0) (dcells snap (.slice A l.length cap) synced room) 95); generalize ((w.alloc (.cells (dcells ⟨#[]⟩ (.slice none 0 0) 0 0) 95 (0, 0))).setRow w.heap.size (dcells snap (.slice A l.length cap) synced room)) = W at HW ⊢; have cb1 : W.cell? ⟨b, 1, none⟩ = some (.slice A l.length cap) := (by rw [cell_of_row _ _ 1 _ _ _ ((HW.out.2.block b hlt).trans HR.out)]; rfl)) | (at_builtin; go_loud (refine wpList_copy_ownB rfl _ rfl rfl S (.slice A l.length cap) l (HO.out.keep (fun g hg => HW.out.2.block g (HO.out.lt hg))) rfl HL.out ?_; intro A2 cap2 w2 g1 g2; have hb2 := (g2.block w.heap.size (Array.getElem?_eq_some_iff.1 (HW.out.get 0 rfl)).1 (by simp)).trans (HW.out.get 0 rfl); have c2 : w2.cell? ⟨w.heap.size, 1, none⟩ = some (.slice A l.length cap) := (by rw [cell_of_row _ _ 1 _ _ _ hb2]; rfl); have f2 : w2.frozen? ⟨w.heap.size, 1, none⟩ = false := frozen_of_row _ _ 1 _ _ hb2)))
  go_ret
  exact ⟨w.heap.size, rfl, copied (HW.out.get 0 rfl) (Nat.le_refl _) HW.out.2 g1 g2⟩
end Go.Proofs.Ytkjlakjihjfjdaa
