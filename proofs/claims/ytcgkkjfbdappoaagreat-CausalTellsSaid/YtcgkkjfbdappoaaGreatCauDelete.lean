/- slices.DeleteFunc over messages: its contract. -/
import Derived.Test.YtcgkkjfbdappoaaGreatIndexAll
import Derived.Lib.SliceRun
namespace Go.Proofs.YtcgkkjfbdappoaaGreat
open Go.RowKit Go.Proofs.YtcgkkjfbdappoaaGreatW.PrintWords Go.Proofs.YtcgkkjfbdappoaaGreatW.PrintLast Go.Proofs.YtcgkkjfbdappoaaGreatW.PrintMore
set_option linter.unusedVariables false
set_option linter.unusedSimpArgs false

def zerosM (n : Nat) : List Value := (Builtin.zeroCells (msgC MsgV.zero) n).toList
theorem zerosM_len (n : Nat) : (zerosM n).length = n * 22 := by unfold zerosM Builtin.zeroCells; simp [msgC_size]
theorem zerosM_one (n : Nat) : ∀ v ∈ zerosM n, v.oneCell' = true := by
  unfold zerosM Builtin.zeroCells
  intro v hv
  simp only [Array.toList_map, List.mem_map] at hv
  obtain ⟨j, -, rfl⟩ := hv
  have hlt : j % (msgC MsgV.zero).size < (msgC MsgV.zero).size := Nat.mod_lt _ (by decide)
  rw [getElem!_pos (msgC MsgV.zero) _ hlt]
  exact msgE.one MsgV.zero _ (by simp [msgE])
theorem zero_msg (w : World) : (zeroValue 38).run Tryz.prog w = .ok (.agg (msgC MsgV.zero)) w := by
  obtain ⟨i, hi, e⟩ := Option.map_eq_some_iff.1 msgE.info
  simp only [Prod.mk.injEq] at e
  have hi' : Tryz.prog.info? 38 = some i := hi
  have e1 : i.zero = some (.agg (msgC MsgV.zero)) := e.1
  simp [zeroValue, typeInfo, hi', e1]
theorem run_clearM (w : World) (ty : TypeId) (g o n c : Nat) (hn : 0 < n) (ht : w.there g o (n * 22)) :
    (Builtin.clear_ #[49] ty #[.slice (some ⟨g, o, none⟩) n c]).run Tryz.prog w = .ok (.tuple #[]) (w.setCells g o (zerosM n)) := by
  have hst := run_storeCells_cells (P := Tryz.prog) g o (zerosM n) 0 w (fun j hj => by rw [zerosM_len] at hj; simpa using (ht j hj).1) (fun j hj => by rw [zerosM_len] at hj; simpa using (ht j hj).2) (zerosM_one n)
  simp only [Nat.add_zero] at hst
  obtain ⟨m, rfl⟩ : ∃ m, n = m + 1 := ⟨n - 1, by omega⟩
  simp [Builtin.clear_, run_underlying (P := Tryz.prog) Tryz.underlying49]
  show ((storeCells ⟨g, o, none⟩ (zerosM (m + 1))).run Tryz.prog w).andThen _ = _
  rw [hst]
  rfl
/-- Cleared from there on: what is ahead stays. -/
theorem own_clear {b : Nat} {w : World} {g cap : Nat} {l : List MsgV} (h : msgE.Own b w (.slice (some ⟨g, 0, none⟩) l.length cap) l) {i : Nat} (hi : i ≤ l.length) :
    msgE.Own b (w.setCells g (i * 22) (zerosM (l.length - i))) (.slice (some ⟨g, 0, none⟩) i cap) (l.take i) := by
  have hlm : (l.take i).length = i := by rw [List.length_take]; omega
  obtain ⟨h0, h1, h2, cur, hg, h3, h4⟩ := h.block
  have e22 : msgE.n = 22 := rfl
  rw [e22] at h3 h4
  have hle : l.length * 22 ≤ cap * 22 := Nat.mul_le_mul_right _ h1
  have hle2 : i * 22 + (l.length - i) * 22 = l.length * 22 := by rw [← Nat.add_mul]; congr 1; omega
  obtain ⟨cur', k1, k2, k3⟩ := setCells_row (zerosM (l.length - i)) (i * 22) w cur hg (by rw [zerosM_len]; omega)
  refine Elt.own_of hlm.symm h0 (by omega) h2 k1 (k2.trans h3) ?_
  rw [hlm, e22, k3]
  have hl1 : (List.take (i * 22) cur.toList).length = i * 22 := by rw [List.length_take, Array.length_toList]; omega
  rw [List.append_assoc, List.take_append_of_le_length (by omega), List.take_of_length_le (by omega)]
  obtain ⟨-, -, -, cur2, hg2, -, h42⟩ := (own_len (h.cut (m := i) hi) hlm.symm).block
  rw [hg] at hg2
  simp only [Option.some.injEq, Obj.cells.injEq, and_true] at hg2
  subst hg2
  rw [hlm, e22] at h42
  exact h42
theorem take_set_succ {α : Type} {l : List α} {i : Nat} (hi : i < l.length) (x : α) : (l.set i x).take (i + 1) = l.take i ++ [x] := by
  rw [List.take_succ_eq_append_getElem (by simpa using hi), List.take_set_of_le (Nat.le_refl _)]
  simp
/-- What holds of the row as it is being written: what was kept so far lies ahead, what comes is as it was. -/
structure Del (q : MsgV → Bool) (l l1 : List MsgV) (i j : Nat) : Prop where
  len : l1.length = l.length
  head : l1.take i = (l.take j).filter q
  tail : l1.drop j = l.drop j
  lt : i < j
  le : j ≤ l.length
theorem Del.at {q : MsgV → Bool} {l l1 : List MsgV} {i j : Nat} (h : Del q l l1 i j) {x : MsgV} (hx : l[j]? = some x) : l1[j]? = some x := by
  have e := congrArg (fun z => z[0]?) h.tail
  simp only [List.getElem?_drop, Nat.add_zero] at e
  rw [e]; exact hx
theorem Del.keep {q : MsgV → Bool} {l l1 : List MsgV} {i j : Nat} (h : Del q l l1 i j) {x : MsgV} (hx : l[j]? = some x) (hq : q x = true) : Del q l (l1.set i x) (i + 1) (j + 1) := by
  have hj : j < l.length := (List.getElem?_eq_some_iff.1 hx).1
  have h1 := h.lt
  refine ⟨by rw [List.length_set]; exact h.len, ?_, ?_, by omega, hj⟩
  · rw [take_set_succ (by rw [h.len]; omega), h.head, List.take_succ_eq_append_getElem hj, List.filter_append]
    rw [List.getElem?_eq_getElem hj] at hx
    rw [Option.some.inj hx]
    simp [hq]
  · rw [List.drop_set_of_lt (by omega), ← List.drop_drop, ← List.drop_drop, h.tail]
theorem Del.skip {q : MsgV → Bool} {l l1 : List MsgV} {i j : Nat} (h : Del q l l1 i j) {x : MsgV} (hx : l[j]? = some x) (hq : q x = false) : Del q l l1 i (j + 1) := by
  have hj : j < l.length := (List.getElem?_eq_some_iff.1 hx).1
  have h1 := h.lt
  refine ⟨h.len, ?_, ?_, by omega, hj⟩
  · rw [h.head, List.take_succ_eq_append_getElem hj, List.filter_append]
    rw [List.getElem?_eq_getElem hj] at hx
    rw [Option.some.inj hx]
    simp [hq]
  · rw [← List.drop_drop, ← List.drop_drop, h.tail]
theorem Del.start {p : MsgV → Bool} {l a b : List MsgV} {x : MsgV} (h : l = a ++ x :: b) (hx : p x = true) (ha : ∀ y ∈ a, p y = false) : Del (fun y => !p y) l l a.length (a.length + 1) := by
  subst h
  have e1 : (a ++ x :: b).take (a.length + 1) = a ++ [x] := by
    rw [List.take_length_add_append]
    rfl
  refine ⟨rfl, ?_, rfl, by omega, by simp⟩
  rw [e1, List.take_left', List.filter_append, List.filter_eq_self.2 (fun y hy => by simp [ha y hy])]
  · simp [hx]
  · rfl
theorem Del.done {q : MsgV → Bool} {l l1 : List MsgV} {i : Nat} (h : Del q l l1 i l.length) : l1.take i = l.filter q := by
  rw [h.head, List.take_of_length_le (Nat.le_refl _)]
set_option maxHeartbeats 2000000 in
set_option maxRecDepth 100000 in
theorem msg_DeleteFunc (f bm : Nat) (p : MsgV → Bool) (l : List MsgV) (v : Value) (hlen : l.length ≤ 50000000000) (w : World) (h : msgE.Own 0 w v l) (hbm : bm < w.heap.size) (hvb : ∀ k, v.ownBlock = some k → k ≠ bm)
    (ef : ∀ args w, (callFunc f args).run Tryz.prog w = .ok (.enter f args) w)
    (hf : ∀ x W, W.heap[bm]? = w.heap[bm]? → Calls Tryz.prog f #[.agg (msgC x), .pointer (some ⟨bm, 0, none⟩)] W fun e w' => e = .returned (.bool (p x)) ∧ Below W.heap.size W w') :
    Calls Tryz.prog 33 #[v, .func (.func f) #[] #[.pointer (some ⟨bm, 0, none⟩)]] w fun e w' => ∃ v', e = .returned v' ∧ msgE.Own 0 w' v' (l.filter fun x => !p x) ∧ (∀ k, v'.ownBlock = some k → v.ownBlock = some k) ∧ KeepOn (fun k => k < w.heap.size ∧ v.ownBlock ≠ some k) w w' := by
  have HI := Hd.mk (msg_IndexFunc f bm p l v (by omega) 0 w h ef (fun x W hb => hf x W (hb.block bm hbm)))
  obtain ⟨A, cap, rfl⟩ := h.slice
  rcases idxP_spec p l 0 with ⟨h1, h2⟩ | ⟨a, x0, c, h1, h2, h3, h4⟩
  · rw [h1] at HI
    have HE := Hd.mk (show (l.filter fun x => !p x) = l from List.filter_eq_self.2 (fun y hy => by simp [h2 y hy]))
    have HO := Hd.mk h
    clear h1 h2 hf ef hvb h hbm
    go_enter Tryz.func33, Tryz.ntmps33
    go_wp2_with fail
    refine HI.out.mono ?_; rintro e w1 ⟨rfl, hb1⟩
    go_wp2_with fail
    go_ret
    rw [HE.out]
    exact ⟨_, rfl, HO.out.below hb1, fun k hk => hk, keep_of_below hb1 (fun k hk => hk.1)⟩
  · rw [h4, Nat.zero_add] at HI
    have HS := Hd.mk (Del.start h1 h2 h3)
    obtain ⟨g, cap2, e, -, -⟩ := h.lit (fun e => by subst e; simp at h1)
    cases e
    have hal : a.length < l.length := by have := congrArg List.length h1; simp at this; omega
    have HO := Hd.mk h
    have hgb : g ≠ bm := hvb g rfl
    have HG := Hd.mk (⟨hgb, hbm, (h.lt rfl).2⟩ : _ ∧ _ ∧ _)
    have HF := Hd.mk hf
    have HL := Hd.mk hlen
    have HC := Hd.mk h.block.2.1
    generalize hi0 : a.length = i0 at *
    have hz1 : ¬ (i0 : Int) = -1 := by omega
    obtain ⟨j0, hj0⟩ : ∃ j0 : Nat, j0 = i0 + 1 := ⟨_, rfl⟩
    have hz2 : (i0 : Int) + 1 = (j0 : Int) := by omega
    have hz3 : wrap64 (j0 : Int) = (j0 : Int) := by unfold wrap64; omega
    rw [← hj0] at HS
    have HAL := Hd.mk hal
    clear h1 h2 h3 h4 hf hvb h hbm hlen hgb hi0 hal hj0
    generalize hn : l.length = n at *
    have HN := Hd.mk hn
    clear hn
    go_enter Tryz.func33, Tryz.ntmps33
    go_wp2_with fail
    refine HI.out.mono ?_; rintro e w1 ⟨rfl, hb1⟩
    have HB1 := Hd.mk hb1
    clear hb1 HI
    go_wp2_with fail
    go_loopg [5, 6] (n - j0) (fun kq v5 v6 w' => ∃ (i j : Nat) (l1 : List MsgV), v5 = .int .i64 (i : Int) ∧ v6 = .int .i64 (j : Int) ∧ Hd (kq + j = n ∧ Del (fun y => !p y) l l1 i j ∧ msgE.Own 0 w' (.slice (some ⟨g, 0, none⟩) n cap) l1 ∧ KeepOn (fun k => k < w.heap.size ∧ k ≠ g) w w'))
    case atStart => exact ⟨i0, j0, l, rfl, by rw [hz3], ⟨by have := HS.out.le; have := HN.out; omega, HS.out, HO.out.below HB1.out, keep_of_below HB1.out (fun k hk => hk.1)⟩⟩
    case round =>
      clear HB1 HO HS hz2 hz3 hz1
      obtain ⟨i, j, l1, rfl, rfl, HR⟩ := hrel
      have hin : i < n := by have := HR.out.2.1.lt; have := HR.out.2.1.le; have := HN.out; omega
      have hl1 : l1.length = n := HR.out.2.1.len.trans HN.out
      by_cases hlt : j < n
      · obtain ⟨x, hx⟩ : ∃ x, l[j]? = some x := ⟨_, List.getElem?_eq_getElem (by rw [HN.out]; exact hlt)⟩
        have hown := HR.out.2.2.1
        rw [← hl1] at hown
        have HRG := Hd.mk (hown.range (HR.out.2.1.at hx))
        have hsz : w.heap.size ≤ wr.heap.size := HR.out.2.2.2.size
        have hgl : g < wr.heap.size := (hown.lt rfl).2
        have HX := Hd.mk hx
        have hc : (j : Int) < (n : Int) := by omega
        obtain ⟨j2, hj2⟩ : ∃ j2 : Nat, j2 = j + 1 := ⟨_, rfl⟩
        have e1 : (j : Int) + 1 = (j2 : Int) := by omega
        have e2 : wrap64 (j2 : Int) = (j2 : Int) := by have := HL.out; unfold wrap64; omega
        have HJ2 := Hd.mk hj2
        have hjn : (0 : Int) ≤ (j : Int) := by omega
        have HLT := Hd.mk hlt
        have HIN := Hd.mk hin
        have HL1 := Hd.mk hl1
        clear hx hown hj2 hlt hin hl1
        go_upto_region 8 with (first | ((with_reducible refine gate_dst (N := 25) rfl ?_); refine wpList_load_mid rfl 38 _ rfl g (j * 22) rfl (msgC x).toList _ HRG.out Tryz.underlying38 rfl msg_size ?_) | ((with_reducible refine gate_store (t := 38) rfl ?_); refine wpList_store_row rfl _ _ _ rfl wr.heap.size (msgC x) rfl rfl 38 _ (heap_alloc_new wr _) msg_size rfl (msgC_one x) ?_))
        refine world_gen (fun W => Holds wr [(wr.heap.size, .cells (msgC x) 38 (0, 0))] W) ((Holds.nil wr).made (msgC MsgV.zero) (msgC x) 38) (fun W hK => ?_)
        have K1 := Hd.mk hK
        have hbW : W.heap[bm]? = w.heap[bm]? := (hK.2.block bm (by have := HG.out.2.1; omega)).trans (HR.out.2.2.2.block bm ⟨HG.out.2.1, fun e => HG.out.1 e.symm⟩)
        have HP := Hd.mk (HF.out x W hbW)
        clear hK hbW HRG
        rcases hp : p x with _ | _
        · rw [hp] at HP
          obtain ⟨i2, hi2⟩ : ∃ i2 : Nat, i2 = i + 1 := ⟨_, rfl⟩
          have e3 : (i : Int) + 1 = (i2 : Int) := by omega
          have e4 : wrap64 (i2 : Int) = (i2 : Int) := by have := HL.out; have := HIN.out; unfold wrap64; omega
          have HD := Hd.mk (HR.out.2.1.keep HX.out (by simp [hp]))
          rw [← HJ2.out, ← hi2] at HD
          have hci : (i : Int) < (n : Int) := by have := HIN.out; omega
          clear hp hi2
          go_wp2_with (first | ((with_reducible refine gate_dst (N := 27) rfl ?_); refine wpList_load_mid rfl 38 _ rfl wr.heap.size 0 rfl (msgC x).toList _ (range_ofC (K1.out.get 0 rfl) 0 (msgC x).toList (fun j v hj => by simpa using hj)) Tryz.underlying38 rfl msg_size ?_))
          refine HP.out.mono ?_; rintro e w3 ⟨rfl, hb3⟩
          have K3 := Hd.mk (K1.out.call hb3)
          have hown3 := ((own_len HR.out.2.2.1 HL1.out.symm).below K3.out.2)
          have HT3 := Hd.mk (rdy_there (rdy_own.2 hown3) (j := i) (by rw [HL1.out]; exact HIN.out) x)
          have HO3 := Hd.mk (rdy_set (rdy_own.2 hown3) (j := i) (by rw [HL1.out]; exact HIN.out) x)
          have hk3 : KeepOn (fun k => k < w.heap.size ∧ k ≠ g) w w3 := HR.out.2.2.2.call K3.out.2 (fun k hk => by have := hk.1; omega)
          have HK3 := Hd.mk (hk3.setCells (g := g) (fun hk => hk.2 rfl) (i * 22) (msgC x).toList)
          clear HP hb3 K1 hown3 hk3
          go_upto_region 10 with (first | ((with_reducible refine gate_dst (N := 32) rfl ?_); refine wpList_load_mid rfl 38 _ rfl wr.heap.size 0 rfl (msgC x).toList _ (range_ofC (K3.out.get 0 rfl) 0 (msgC x).toList (fun j v hj => by simpa using hj)) Tryz.underlying38 rfl msg_size ?_) | ((with_reducible refine gate_store (t := 38) rfl ?_); refine wpList_store_mid rfl 38 _ _ rfl g (i * 22) (msgC x) rfl rfl HT3.out msg_size (msgC_one x) ?_))
          have HQ : Hd (n - j2 + j2 = n ∧ Del (fun y => !p y) l (l1.set i x) i2 j2 ∧ msgE.Own 0 (w3.setCells g (i * 22) (msgC x).toList) (.slice (some ⟨g, 0, none⟩) n cap) (l1.set i x) ∧ KeepOn (fun k => k < w.heap.size ∧ k ≠ g) w (w3.setCells g (i * 22) (msgC x).toList)) :=
            ⟨by have := HLT.out; have := HJ2.out; omega, HD.out, own_len (rdy_own.1 HO3.out) (by rw [List.length_set]; exact HL1.out), HK3.out⟩
          clear HT3 HO3 HK3 K3
          refine world_gen (fun W4 => Hd (n - j2 + j2 = n ∧ Del (fun y => !p y) l (l1.set i x) i2 j2 ∧ msgE.Own 0 W4 (.slice (some ⟨g, 0, none⟩) n cap) (l1.set i x) ∧ KeepOn (fun k => k < w.heap.size ∧ k ≠ g) w W4)) HQ (fun W4 HQ4 => ?_)
          clear HQ
          go_wp2_with fail
          go_roundg (n - j2)
          case measure => have := HR.out.1; have := HJ2.out; have := HLT.out; omega
          case rel => exact ⟨i2, j2, l1.set i x, by rw [e4], by rw [e2], HQ4⟩
        · rw [hp] at HP
          have HD := Hd.mk (HR.out.2.1.skip HX.out (by simp [hp]))
          rw [← HJ2.out] at HD
          clear hp
          go_wp2_with (first | ((with_reducible refine gate_dst (N := 27) rfl ?_); refine wpList_load_mid rfl 38 _ rfl wr.heap.size 0 rfl (msgC x).toList _ (range_ofC (K1.out.get 0 rfl) 0 (msgC x).toList (fun j v hj => by simpa using hj)) Tryz.underlying38 rfl msg_size ?_))
          refine HP.out.mono ?_; rintro e w3 ⟨rfl, hb3⟩
          have K3 := Hd.mk (K1.out.call hb3)
          have HQ : Hd (n - j2 + j2 = n ∧ Del (fun y => !p y) l l1 i j2 ∧ msgE.Own 0 w3 (.slice (some ⟨g, 0, none⟩) n cap) l1 ∧ KeepOn (fun k => k < w.heap.size ∧ k ≠ g) w w3) :=
            ⟨by have := HLT.out; have := HJ2.out; omega, HD.out, HR.out.2.2.1.below K3.out.2, HR.out.2.2.2.call K3.out.2 (fun k hk => by have := hk.1; omega)⟩
          clear HP hb3 K1 K3
          go_wp2_with fail
          go_roundg (n - j2)
          case measure => have := HR.out.1; have := HJ2.out; have := HLT.out; omega
          case rel => exact ⟨i, j2, l1, rfl, by rw [e2], HQ⟩
      · have hc : ¬ (j : Int) < (n : Int) := by omega
        have hjn : j = l.length := by have := HR.out.2.1.le; have := HN.out; omega
        have hdone : l1.take i = l.filter fun y => !p y := (hjn ▸ HR.out.2.1).done
        have hown := own_len HR.out.2.2.1 hl1.symm
        have HOC := own_clear hown (i := i) (by omega)
        have HTH : wr.there g (i * 22) ((n - i) * 22) := by
          intro q hq
          obtain ⟨-, b1, b2, cur, b3, b4, -⟩ := hown.block
          have e22 : msgE.n = 22 := rfl
          rw [e22] at b4
          have hle : i * 22 + (n - i) * 22 ≤ cap * 22 := by rw [← Nat.add_mul]; exact Nat.mul_le_mul_right _ (by omega)
          refine ⟨?_, frozen_of_row wr g _ _ _ b3⟩
          rw [cell_of_row wr g _ _ _ _ b3, Array.getElem?_eq_getElem (by omega)]
          rfl
        have hcl : ∀ ty, (Builtin.clear_ #[49] ty #[.slice (some ⟨g, i * 22, none⟩) (n - i) (cap - i)]).run Tryz.prog wr = .ok (.tuple #[]) (wr.setCells g (i * 22) (zerosM (n - i))) := fun ty => run_clearM wr ty g (i * 22) (n - i) (cap - i) (by omega) HTH
        rw [hl1] at HOC
        rw [hdone] at HOC
        have HE := Hd.mk (⟨HOC, HR.out.2.2.2.setCells (g := g) (fun hk => hk.2 rfl) (i * 22) (zerosM (n - i))⟩ : _ ∧ _)
        have hnc := HC.out
        have f1 : (i : Int) ≤ (n : Int) := by omega
        have f2 : (n : Int) ≤ (cap : Int) := by omega
        have f3 : (i : Int) ≤ (cap : Int) := by omega
        have f4 : ¬ cap = i := by omega
        have f5 : (0 : Int) ≤ (i : Int) := by omega
        clear HOC HTH hown hdone hjn hl1 hin
        go_wp2_with fail
        go_ret
        exact ⟨_, rfl, HE.out.1, fun k hk => hk, HE.out.2.mono (fun k hk => ⟨hk.1, fun e => hk.2 (by subst e; rfl)⟩)⟩
end Go.Proofs.YtcgkkjfbdappoaaGreat
