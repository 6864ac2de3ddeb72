/- disk.Append: its contract. -/
import Derived.Test.YtkjlakjihjfjdaaDkRep
namespace Go.Proofs.Ytkjlakjihjfjdaa
open Go.RowKit Go.Proofs.YtkjlakjihjfjdaaW.PrintWords Go.Proofs.YtkjlakjihjfjdaaW.PrintLast Go.Proofs.YtkjlakjihjfjdaaW.PrintMore
set_option linter.unusedVariables false
set_option linter.unusedSimpArgs false

theorem disk_Append_off {S : Nat → Prop} {w0 : World} {b : Nat} {snap : ByteArray} {l : List UInt8} {synced room : Int} {w : World} (h : DiskOn S w0 b snap l synced room w) (hok : DiskOk snap l room) (s : ByteArray) (hs : room - snap.size - l.length < s.size) :
    Calls Try.prog 15 #[.pointer (some ⟨b, 0, none⟩), .string s] w fun e w' => e = .returned (.int .i64 13) ∧ DiskOn S w0 b snap l synced room w' := by
  have HF := Hd.mk (disk_Free h hok)
  generalize room - snap.size - l.length = fr at *
  clear h hok
  go_enter Try.func15, Try.ntmps15
  go_wp2_with fail
  refine HF.out.mono ?_; rintro e w1 ⟨rfl, h1⟩
  go_wp2_with fail
  go_ret
  exact ⟨rfl, h1⟩
theorem wpList_append_ownB {ops : Array Oper} {rest : List Oper} {o : Oper} {a : Act} {Q : Exit → Act → World → Prop} {w : World} (hgd : o.guard = none) (sl x : Operand)
    (ho : o.op = .call { callee := .builtin .append, args := #[sl, x], argTypes := #[93, 9] }) (hty : o.type = 93) (S : Nat → Prop) (v : Value) (l : List UInt8) (hs : a.eval sl = v) (hown : OwnB w S v l) (s : ByteArray) (hx : a.eval x = .string s)
    (hbytes : l.length + s.size ≤ 140737488355328) (hbase : ∀ k, w.heap.size ≤ k → ¬ S k)
    (h : ∀ v' w', OwnB w' S v' (l ++ s.data.toList) → w.grownBy w' v.ownBlock → wpList Try.prog ops Q rest (a.put o.dst v') w') : wpList Try.prog ops Q (o :: rest) a w := by
  refine wpList_plain hgd fun K hK => ?_
  obtain ⟨v', w', hr, h2, h3⟩ := hown.append s hbytes hbase
  unfold Oper.wp execOp
  simp only [ho, hty, resolve, invoke, builtin, Sem.run_bind, Sem.run_pure, Result.andThen_ok, List.map_toArray, List.map_cons, List.map_nil, hs, hx, hr]
  exact hK _ _ (h v' w' h2 h3)
theorem relog {S : Nat → Prop} {w0 : World} {b : Nat} {snap : ByteArray} {l l2 : List UInt8} {synced room : Int} {W w2 : World} {v v2 : Value} (k1 : W.heap[b]? = some (.cells (dcells snap v synced room) 95 (0, 0))) (k2 : OwnB W S v l) (k3 : v.ownBlock ≠ some b) (k4 : ¬ S b) (k5 : ∀ k, S k → k < w0.heap.size) (k6 : KeepOn S w0 W)
    (g1 : OwnB w2 S v2 l2) (g2 : W.grownBy w2 v.ownBlock) : DiskOn S w0 b snap l2 synced room (w2.setCell ⟨b, 1, none⟩ v2) := by
  have hb2 := (g2.block b (Array.getElem?_eq_some_iff.1 k1).1 (fun e => k3 e.symm)).trans k1
  have kb : KeepOn S w0 w2 := by
    refine k6.trans ⟨by first | exact g2.os | exact g2.tape | exact g2.output, by first | exact g2.output | exact g2.tape | exact g2.os, by first | exact g2.tape | exact g2.os | exact g2.output, g2.size, fun k hk => g2.block k (Nat.lt_of_lt_of_le (k5 k hk) k6.size) (fun e => ?_)⟩
    exact k2.out e.symm hk
  have hne : v2.ownBlock ≠ some b := by
    intro e
    rcases g1 with ⟨rfl, _⟩ | ⟨g, cap, cur, rfl, hg, hh, _⟩
    · simp [Value.ownBlock] at e
    · simp [Value.ownBlock] at e
      subst e
      rw [hb2] at hh
      simp at hh
  refine ⟨v2, (heap_setCell_same _ _ _ _ _ _ hb2).trans rfl, OwnB.keep g1 (fun g hg => heap_setCell_other _ _ _ _ ?_), hne, k4, k5, kb.setCell k4 _⟩
  intro e
  subst e
  exact hne hg

set_option maxHeartbeats 1000000 in
set_option maxRecDepth 100000 in
theorem disk_Append {S : Nat → Prop} {w0 : World} {b : Nat} {snap : ByteArray} {l : List UInt8} {synced room : Int} {w : World} (h : DiskOn S w0 b snap l synced room w) (hok : DiskOk snap l room) (s : ByteArray) (hs : (s.size : Int) ≤ room - snap.size - l.length) (hl : l.length + s.size ≤ 140737488355328) :
    Calls Try.prog 15 #[.pointer (some ⟨b, 0, none⟩), .string s] w fun e w' => e = .returned (.int .i64 0) ∧ DiskOn S w0 b snap (l ++ s.data.toList) synced room w' := by
  have HF := Hd.mk (disk_Free h hok)
  have hs' : ¬ (room - snap.size - l.length < (s.size : Int)) := by omega
  have HL := Hd.mk hl
  generalize room - snap.size - l.length = fr at *
  clear h hok hl hs
  go_enter Try.func15, Try.ntmps15
  go_wp2_with fail
  refine HF.out.mono ?_; rintro e w1 ⟨rfl, h1⟩
  obtain ⟨v, k1, k2, k3, k4, k5, k6⟩ := h1
  obtain ⟨A1, cap1, rfl⟩ := k2.slice
  have KK := Hd.mk (⟨k1, k2, k3, k4, k5, k6, fun k hk hs => Nat.lt_irrefl _ (Nat.lt_of_lt_of_le (k5 k hs) (Nat.le_trans k6.size hk))⟩ : _ ∧ _ ∧ _ ∧ _ ∧ _ ∧ _ ∧ _)
  have c1 : w1.cell? ⟨b, 1, none⟩ = some (.slice A1 l.length cap1) := by rw [cell_of_row _ _ 1 _ _ _ k1]; rfl
  clear k1 k2 k3 k4 k5 k6
  go_wp2_with (first | (at_builtin; go_loud (refine wpList_append_ownB rfl _ _ rfl rfl S (.slice A1 l.length cap1) l rfl KK.out.2.1 s rfl HL.out KK.out.2.2.2.2.2.2 ?_; intro v2 w2 g1 g2; obtain ⟨A2, cap2, rfl⟩ := g1.slice; have hb2 := (g2.block b (Array.getElem?_eq_some_iff.1 KK.out.1).1 (fun e => KK.out.2.2.1 e.symm)).trans KK.out.1; have c2 : w2.cell? ⟨b, 1, none⟩ = some (.slice A1 l.length cap1) := (by rw [cell_of_row _ _ 1 _ _ _ hb2]; rfl); have f2 : w2.frozen? ⟨b, 1, none⟩ = false := frozen_of_row _ _ 1 _ _ hb2)))
  go_ret
  refine ⟨rfl, relog KK.out.1 KK.out.2.1 KK.out.2.2.1 KK.out.2.2.2.1 KK.out.2.2.2.2.1 KK.out.2.2.2.2.2.1 (by rw [show (l ++ s.data.toList).length = l.length + s.size from by rw [List.length_append]; rfl] at g1; exact g1) g2⟩
end Go.Proofs.Ytkjlakjihjfjdaa
