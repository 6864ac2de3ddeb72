/- Texts that belong together, in one. -/
import Derived.Test.YtcgkkjfbdappoaaGreatCmpAll
import Derived.Great.BuildSlice
/- The methods of messages that are ready, as the library's heap calls them: their contracts. -/
namespace Go.Proofs.YtcgkkjfbdappoaaGreat
open Go.RowKit Go.Proofs.YtcgkkjfbdappoaaGreatW.PrintWords Go.Proofs.YtcgkkjfbdappoaaGreatW.PrintLast Go.Proofs.YtcgkkjfbdappoaaGreatW.PrintMore
set_option linter.unusedVariables false
set_option linter.unusedSimpArgs false

theorem rdy_Len (A : Option Addr) (n cap : Nat) (w : World) : Calls Tryz.prog 30 #[.slice A n cap] w fun e w' => e = .returned (.int .i64 (n : Int)) ∧ w' = w := by
  go_enter Tryz.func30, Tryz.ntmps30
  go_wp2_with fail
  go_ret
  exact ⟨rfl, rfl⟩
theorem msg_und : Tryz.prog.underlying 38 = some (.struct (match Tryz.prog.underlying 38 with | some (.struct f) => f | _ => #[])) := by kernel_rfl
set_option maxHeartbeats 1000000 in
set_option maxRecDepth 100000 in
theorem rdy_Less (g cap : Nat) (l : List MsgV) (i j : Nat) (x y : MsgV) (hx : l[i]? = some x) (hy : l[j]? = some y) (b : Nat) (w : World) (h : rdyE.Own b w (.slice (some ⟨g, 0, none⟩) l.length cap) l) :
    Calls Tryz.prog 153 #[.slice (some ⟨g, 0, none⟩) l.length cap, .int .i64 (i : Int), .int .i64 (j : Int)] w fun e w' => e = .returned (.bool (lessM x y)) ∧ Below w.heap.size w w' := by
  have HX := Hd.mk hx
  have HY := Hd.mk hy
  have K0 := Hd.mk h
  have hi : i < l.length := (List.getElem?_eq_some_iff.1 hx).1
  have hj : j < l.length := (List.getElem?_eq_some_iff.1 hy).1
  have HC := Hd.mk (msg_compare x y)
  have HD := Hd.mk (cmpM_less x y)
  have hi1 : (i : Int) < (l.length : Int) := by omega
  have hj1 : (j : Int) < (l.length : Int) := by omega
  clear hx hy h hi hj
  generalize cmpM x y = c at *
  generalize lessM x y = r at *
  generalize hn : l.length = n at *
  have HN := Hd.mk hn
  clear hn
  go_enter Tryz.func153, Tryz.ntmps153
  go_upto_region 1 with (fail)
  have S0 : rdyE.Own b w.drew (.slice (some ⟨g, 0, none⟩) n cap) l ∧ Below w.heap.size w w.drew := ⟨K0.out.below (Below.refl _ _).drew, (Below.refl _ _).drew⟩
  refine st_ 11 (S := fun W_ => rdyE.Own b W_ (.slice (some ⟨g, 0, none⟩) n cap) l ∧ Below w.heap.size w W_) (ds := []) (S0) (fun hHeld => ?_)
  refine pu_ 0 (some 7) ?_
  refine pu_ 1 (some 8) ?_
  refine pu_ 2 (some 9) ?_
  refine tk_ 3 (some 10) (.agg (msgC x)) rfl (fun w' h => run_load_rangeC 38 _ rfl g (i * 22) (msgC x).toList rfl (by have h1 := h.1; rw [← HN.out] at h1; exact h1.range HX.out) _ Tryz.underlying38 rfl msg_size) hHeld ?_
  refine pu_ 4 (some 11) ?_
  refine pu_ 5 (some 12) ?_
  refine pu_ 6 (some 13) ?_
  refine tk_ 7 (some 14) (.agg (msgC y)) rfl (fun w' h => run_load_rangeC 38 _ rfl g (j * 22) (msgC y).toList rfl (by have h1 := h.1; rw [← HN.out] at h1; exact h1.range HY.out) _ Tryz.underlying38 rfl msg_size) hHeld ?_
  refine cb_ 8 (some 15) Tryz.func40 HC (fun _ hr => ⟨hHeld.1.below hr, below_step hHeld.2 hr⟩) (fun wr1 hHeld => ?_)
  refine pu_ 9 (some 16) ?_
  refine pu_ 10 (some 6) ?_
  refine done_ (by kernel_rfl) ?_
  go_wp2_with fail
  go_ret
  exact ⟨by rw [HD.out]; rfl, hHeld.2⟩
end Go.Proofs.YtcgkkjfbdappoaaGreat

/- Swap, Push and Pop of messages that are ready: their contracts. -/
namespace Go.Proofs.YtcgkkjfbdappoaaGreat
open Go.RowKit Go.Proofs.YtcgkkjfbdappoaaGreatW.PrintWords Go.Proofs.YtcgkkjfbdappoaaGreatW.PrintLast Go.Proofs.YtcgkkjfbdappoaaGreatW.PrintMore
set_option linter.unusedVariables false
set_option linter.unusedSimpArgs false

theorem run_store_midC {P : Program} {o : Oper} {ρ : Operand → Value} {w : World} (ty : TypeId) (x y : Operand) (ho : o.op = .store ty x y) (b off : Nat) (cells : Array Value) (hx : ρ x = .pointer (some ⟨b, off, none⟩)) (hy : ρ y = .agg cells)
    (ht : w.there b off cells.size) (hi : (P.info? ty).map (·.size) = some cells.size) (h1 : cells.all (·.oneCell') = true) : (execOp ρ o).run P w = .ok .skip (w.setCells b off cells.toList) := by
  unfold execOp
  simp only [ho, hx, hy, Instr.storeAt, Instr.sureAddr, Sem.run_bind, Sem.run_pure, Result.andThen_ok, run_storeVar_mid w b off ty cells ht hi h1]
theorem own_len {E : Elt MsgV} {b : Nat} {w : World} {A : Option Addr} {n m cap : Nat} {l : List MsgV} (h : E.Own b w (.slice A n cap) l) (e : n = m) : E.Own b w (.slice A m cap) l := e ▸ h
theorem rdy_there {b : Nat} {w : World} {g cap : Nat} {l : List MsgV} (h : rdyE.Own b w (.slice (some ⟨g, 0, none⟩) l.length cap) l) {j : Nat} (hj : j < l.length) (x : MsgV) : w.there g (j * 22) (msgC x).size := by
  rw [msgC_size]
  exact h.there hj
theorem rdy_set {b : Nat} {w : World} {g cap : Nat} {l : List MsgV} (h : rdyE.Own b w (.slice (some ⟨g, 0, none⟩) l.length cap) l) {j : Nat} (hj : j < l.length) (y : MsgV) :
    rdyE.Own b (w.setCells g (j * 22) (msgC y).toList) (.slice (some ⟨g, 0, none⟩) (l.set j y).length cap) (l.set j y) := h.set hj y
theorem rdy_range {b : Nat} {w : World} {g cap : Nat} {l : List MsgV} (h : rdyE.Own b w (.slice (some ⟨g, 0, none⟩) l.length cap) l) {j : Nat} {x : MsgV} (hx : l[j]? = some x) : ∀ k v, (msgC x).toList[k]? = some v → w.cell? ⟨g, j * 22 + k, none⟩ = some v := h.range hx
theorem own_swap {b : Nat} {w : World} {g cap : Nat} {l : List MsgV} {i j : Nat} {x y : MsgV} (hx : l[i]? = some x) (hy : l[j]? = some y) (h : rdyE.Own b w (.slice (some ⟨g, 0, none⟩) l.length cap) l) :
    rdyE.Own b ((w.setCells g (i * 22) (msgC y).toList).setCells g (j * 22) (msgC x).toList) (.slice (some ⟨g, 0, none⟩) l.length cap) (swapL l i j) := by
  have hi : i < l.length := (List.getElem?_eq_some_iff.1 hx).1
  have hj : j < l.length := (List.getElem?_eq_some_iff.1 hy).1
  have h1 := rdy_set h hi y
  have h2 := rdy_set h1 (j := j) (by simpa using hj) x
  rw [swapL_of hx hy]
  exact own_len h2 (by simp)
set_option maxHeartbeats 1000000 in
set_option maxRecDepth 100000 in
theorem rdy_Swap (g cap : Nat) (l : List MsgV) (i j : Nat) (x y : MsgV) (hx : l[i]? = some x) (hy : l[j]? = some y) (b : Nat) (w : World) (h : rdyE.Own b w (.slice (some ⟨g, 0, none⟩) l.length cap) l) :
    Calls Tryz.prog 156 #[.slice (some ⟨g, 0, none⟩) l.length cap, .int .i64 (i : Int), .int .i64 (j : Int)] w fun e w' => e = .returned (.tuple #[]) ∧ rdyE.Own b w' (.slice (some ⟨g, 0, none⟩) l.length cap) (swapL l i j) ∧ Below b w w' ∧ ∀ k, k ≠ g → w'.heap[k]? = w.heap[k]? := by
  have HX := Hd.mk hx
  have HY := Hd.mk hy
  have K0 := Hd.mk h
  have hi : i < l.length := (List.getElem?_eq_some_iff.1 hx).1
  have hj : j < l.length := (List.getElem?_eq_some_iff.1 hy).1
  have HI := Hd.mk hi
  have HJ := Hd.mk hj
  have hi1 : (i : Int) < (l.length : Int) := by omega
  have hj1 : (j : Int) < (l.length : Int) := by omega
  clear hx hy h hi hj
  generalize hn : l.length = n at *
  have HN := Hd.mk hn
  clear hn
  go_enter Tryz.func156, Tryz.ntmps156
  go_upto_region 0 with (fail)
  have S0 : rdyE.Own b w.drew (.slice (some ⟨g, 0, none⟩) n cap) l := K0.out.below (Below.refl _ _).drew
  have T0 := S0
  rw [← HN.out] at T0
  refine st_ 16 (S := fun W_ => rdyE.Own b W_ (.slice (some ⟨g, 0, none⟩) n cap) l) (ds := [13,15]) (S0) (fun hHeld => ?_)
  refine pu_ 0 (some 6) ?_
  refine pu_ 1 (some 7) ?_
  refine pu_ 2 (some 8) ?_
  refine pu_ 3 (some 9) ?_
  refine pu_ 4 (some 10) ?_
  refine pu_ 5 (some 11) ?_
  refine pu_ 6 (some 12) ?_
  refine tk_ 7 (some 13) (.agg (msgC y)) rfl (fun w' h => run_load_rangeC 38 _ rfl g (j * 22) (msgC y).toList rfl (by have h1 := h; rw [← HN.out] at h1; exact h1.range HY.out) _ Tryz.underlying38 rfl msg_size) hHeld ?_
  refine pu_ 8 (some 14) ?_
  refine pu_ 9 (some 15) ?_
  refine pu_ 10 (some 16) ?_
  refine tk_ 11 (some 17) (.agg (msgC x)) rfl (fun w' h => run_load_rangeC 38 _ rfl g (i * 22) (msgC x).toList rfl (by have h1 := h; rw [← HN.out] at h1; exact h1.range HX.out) _ Tryz.underlying38 rfl msg_size) hHeld ?_
  refine pu_ 12 (some 18) ?_
  refine last_ (i := 13) (N := none) #[true, true, true, true, true, true, true, true, true, true, true, true, true, true, false, false] rfl rfl (by kernel_rfl) (by decide) (fun K hK => ?_)
  refine skip_ (by rfl) rfl (run_store_midC 38 _ _ rfl g (i * 22) (msgC y) rfl rfl (rdy_there T0 (by rw [HN.out]; exact HI.out) y) msg_size (msgC_one y)) ?_
  refine hK.out _ _ ?_
  clear hK K
  have T1 := rdy_set T0 (j := i) (by rw [HN.out]; exact HI.out) y
  have hsw := own_swap HX.out HY.out T0
  have hb1 : Below b w (w.drew.setCells g (i * 22) (msgC y).toList) := below_setCellsC (Below.refl _ _).drew T0.block.1 _ _
  have hbg := T0.block.1
  have hfar : ∀ k, k ≠ g → (w.drew.setCells g (i * 22) (msgC y).toList).heap[k]? = w.heap[k]? := fun k hk => setCells_far _ _ k hk
  clear T0 S0 hHeld
  generalize w.drew.setCells g (i * 22) (msgC y).toList = W1 at *
  refine pu_ 14 (some 19) ?_
  refine last_ (i := 15) (N := none) #[true, true, true, true, true, true, true, true, true, true, true, true, true, true, true, true] rfl rfl (by kernel_rfl) (by decide) (fun K hK => ?_)
  refine skip_ (by rfl) rfl (run_store_midC 38 _ _ rfl g (j * 22) (msgC x) rfl rfl (rdy_there T1 (by rw [List.length_set, HN.out]; exact HJ.out) x) msg_size (msgC_one x)) ?_
  refine hK.out _ _ ?_
  clear hK K
  refine done_ (by kernel_rfl) ?_
  go_wp2_with fail
  go_end0
  rw [HN.out] at hsw
  exact ⟨rfl, hsw, below_setCellsC hb1 hbg _ _, fun k hk => (setCells_far _ _ k hk).trans (hfar k hk)⟩
end Go.Proofs.YtcgkkjfbdappoaaGreat

/- Push and Pop of messages that are ready: their contracts. -/
namespace Go.Proofs.YtcgkkjfbdappoaaGreat
open Go.RowKit Go.Proofs.YtcgkkjfbdappoaaGreatW.PrintWords Go.Proofs.YtcgkkjfbdappoaaGreatW.PrintLast Go.Proofs.YtcgkkjfbdappoaaGreatW.PrintMore
set_option linter.unusedVariables false
set_option linter.unusedSimpArgs false

theorem run_load_wholeC {o : Oper} {ρ : Operand → Value} {w : World} (x : Operand) (ho : o.op = .load 38 x) (b : Nat) (m : MsgV) (hx : ρ x = .pointer (some ⟨b, 0, none⟩)) {t : TypeId} {fr : Nat × Nat} (hg : w.heap[b]? = some (.cells (msgC m) t fr)) : (execOp ρ o).run Tryz.prog w = .ok (.value (.agg (msgC m))) w :=
  run_load_midC 38 x ho b 0 (msgC m).toList hx _ _ _ hg (fun j v hj => by simpa using hj) _ Tryz.underlying38 rfl msg_size
theorem ta_msg (v : Value) (w : World) : Sem.run Tryz.prog (Instr.typeAssert (.iface 38 v) 20 38 true) w = .ok (.tuple #[v, .bool true]) w := by kernel_rfl
/-- Messages that are ready, behind a pointer; all that belongs to them lies at b or beyond. -/
def Rdy (b : Nat) (w : World) (r : Nat) (l : List MsgV) : Prop := ∃ v, w.heap[r]? = some (.cells #[v] 70 (0, 0)) ∧ b ≤ r ∧ rdyE.Own b w v l ∧ v.ownBlock ≠ some r
theorem build1m {o : Oper} {ρ : Operand → Value} {w : World} (sl : TypeId) (hsl : Tryz.prog.underlying sl = some (.slice 38)) (x0 : Operand) (ho : o.op = .buildSlice sl 1 #[(0, x0)]) (m : MsgV) (h0 : ρ x0 = .agg (msgC m)) :
    (execOp ρ o).run Tryz.prog w = .ok (.value (.slice (some ⟨w.heap.size, 0, none⟩) 1 1)) (w.alloc (.cells (msgC m) 38 (0, 0))) := by
  obtain ⟨i, hi, e⟩ := Option.map_eq_some_iff.1 msgE.info
  simp only [Prod.mk.injEq] at e
  obtain ⟨e1, e2, e3⟩ := e
  unfold execOp
  simp only [ho, List.map_toArray, List.map_cons, List.map_nil, h0]
  have h22 : i.size = 22 := e2
  have hr := run_buildSlice (P := Tryz.prog) w sl 38 1 #[(0, .agg (msgC m))] (msgC m) i _ hsl hi e1 (by rw [h22]; decide) (by rw [h22]; decide) (by rw [h22]; kernel_rfl)
  simp only [Sem.run_bind, hr, Result.andThen_ok, Sem.run_pure]
set_option maxHeartbeats 1000000 in
set_option maxRecDepth 100000 in
theorem rdy_Push (r : Nat) (l : List MsgV) (m : MsgV) (b : Nat) (w : World) (h : Rdy b w r l) (hlen : l.length ≤ 50000000000) :
    Calls Tryz.prog 155 #[.pointer (some ⟨r, 0, none⟩), .iface 38 (.agg (msgC m))] w fun e w' => e = .returned (.tuple #[]) ∧ Rdy b w' r (l ++ [m]) ∧ Below b w w' := by
  obtain ⟨v, hr, hbr, hown, hne⟩ := h
  have hta := ta_msg
  go_enter Tryz.func155, Tryz.ntmps155
  have hlt := lt_of hr
  obtain ⟨A, cap, rfl⟩ := hown.slice
  go_upto_region 3 with (first | ((with_reducible refine gate_store (t := 38) rfl ?_); refine wpList_store_row rfl _ _ _ rfl w.heap.size (msgC m) rfl rfl 38 _ (heap_alloc_new w _) msg_size rfl (msgC_one m) ?_))
  refine world_gen (fun W => Holds w [(w.heap.size, .cells (msgC m) 38 (0, 0))] W) ((Holds.nil w).made (msgC MsgV.zero) (msgC m) 38) (fun W hK => ?_)
  have HK := Hd.mk hK.drew
  have hr2 : W.drew.heap[r]? = some (.cells #[.slice A l.length cap] 70 (0, 0)) := (HK.out.2.block r hlt).trans hr
  have hown2 := hown.below HK.out.2
  clear hta hK hr
  refine st_ 9 (S := fun W_ => W_.heap[r]? = some (.cells #[.slice A l.length cap] 70 (0, 0)) ∧ W_.heap[w.heap.size]? = some (.cells (msgC m) 38 (0, 0))) (ds := [8]) (⟨hr2, HK.out.get 0 rfl⟩) (fun hHeld => ?_)
  refine pu_ 0 (some 9) ?_
  refine pu_ 1 (some 10) ?_
  refine pu_ 2 (some 11) ?_
  refine tk_ 3 (some 12) (.slice A l.length cap) rfl (fun w' h => by have c : w'.cell? ⟨r, 0, none⟩ = some (.slice A l.length cap) := (cell_of_row w' _ 0 _ _ _ h.1).trans rfl; go_simp) hHeld ?_
  refine tk_ 4 (some 13) (.agg (msgC m)) rfl (fun w' h => run_load_wholeC _ rfl w.heap.size m rfl h.2) hHeld ?_
  refine one_ (i := 5) (N := some 14) #[true, true, true, true, true, true, false, false, false] rfl rfl (by kernel_rfl) (by decide) (fun K hK => ?_)
  refine value_ (by rfl) rfl (build1m 70 Tryz.underlying70 _ rfl m rfl) ?_
  refine hK.out _ _ (⟨(heap_alloc_old _ _ (lt_of hHeld.1)).trans hHeld.1, (heap_alloc_old _ _ (lt_of hHeld.2)).trans hHeld.2⟩) (fun hHeld => ?_)
  clear hK K
  refine norm_ (a' := ?_) ?_ ?_
  rotate_left
  · show Act.put _ (some 14) _ = _
    simp only [Act.put, List.setIfInBounds_toArray, List.set_cons_zero, List.set_cons_succ]
    rfl
  have hbw : b ≤ (W.drew.alloc (.cells (msgC m) 38 (0, 0))).heap.size := by have := HK.out.2.size; simp at this ⊢; omega
  obtain ⟨v1, w9, hrun, hown3, hgr, hnb⟩ := run_cat1 (hown2.below ((Below.refl _ _).alloc (Nat.le_refl _) (.cells (msgC m) 38 (0, 0)))) m (g0 := W.drew.heap.size) (fun j u hu => (cell_of_row _ _ j _ _ _ (heap_alloc_new W.drew _)).trans (by have hu2 : (msgC m).toList[j]? = some u := hu; simpa using hu2)) hlen hbw
  obtain ⟨A1, cp1, rfl⟩ := hown3.slice
  have hro : ∀ k, (Value.slice A l.length cap).ownBlock = some k → k ≠ r ∧ k < w.heap.size ∧ b ≤ k := fun k e => ⟨fun e2 => hne (e2 ▸ e), (hown.lt e).2, (hown.lt e).1⟩
  refine one_ (i := 6) (N := some 15) #[true, true, true, true, true, true, true, false, false] rfl rfl (by kernel_rfl) (by decide) (fun K hK => ?_)
  refine value_ (by rfl) rfl (run_catop rfl rfl rfl rfl hrun) ?_
  refine hK.out _ _ (⟨(hgr.block _ (lt_of hHeld.1) (fun e => (hro _ e.symm).1 rfl)).trans hHeld.1, (hgr.block _ (lt_of hHeld.2) (fun e => by have := (hro _ e.symm).2.1; omega)).trans hHeld.2⟩) (fun hHeld => ?_)
  clear hK K
  refine norm_ (a' := ?_) ?_ ?_
  rotate_left
  · show Act.put _ (some 15) _ = _
    simp only [Act.put, List.setIfInBounds_toArray, List.set_cons_zero, List.set_cons_succ]
    rfl
  refine pu_ 7 (some 16) ?_
  have cb : w9.cell? ⟨r, 0, none⟩ = some (.slice A l.length cap) := (cell_of_row w9 _ 0 _ _ _ hHeld.1).trans rfl
  have fb := frozen_of_row w9 r 0 _ _ hHeld.1
  refine last_ (i := 8) (N := none) #[true, true, true, true, true, true, true, true, true] rfl rfl (by kernel_rfl) (by decide) (fun K hK => ?_)
  refine skip_ (by rfl) rfl (show (execOp _ _).run Tryz.prog _ = .ok .skip (w9.setCell ⟨r, 0, none⟩ (.slice A1 (l ++ [m]).length cp1)) from (by go_simp)) ?_
  refine hK.out _ _ ?_
  clear hK K
  refine done_ (by kernel_rfl) ?_
  go_wp2_with fail
  go_end0
  have hr9 : (w9.setCell ⟨r, 0, none⟩ (.slice A1 (l ++ [m]).length cp1)).heap[r]? = some (.cells #[.slice A1 (l ++ [m]).length cp1] 70 (0, 0)) := heap_setCell_same _ _ _ _ _ _ hHeld.1
  have hne1 : (Value.slice A1 (l ++ [m]).length cp1).ownBlock ≠ some r := fun e => by
    rcases hnb _ e with h5 | h5
    · exact hne h5
    · have := HK.out.2.size; simp at h5 this; omega
  refine ⟨rfl, ⟨_, hr9, hbr, own_keep hown3 (fun k e => heap_setCell_other _ _ _ _ (fun e2 => hne1 ((show k = r from e2) ▸ e))), hne1⟩, ?_⟩
  have hb1 : Below b w (W.drew.alloc (.cells (msgC m) 38 (0, 0))) := (HK.out.2.mono (by omega)).alloc (by have := HK.out.2.size; omega) _
  exact (hb1.grown hgr hbw (fun k e => (hro k e).2.2)).setCell hbr _
end Go.Proofs.YtcgkkjfbdappoaaGreat

/- Pop of messages that are ready: its contract. -/
namespace Go.Proofs.YtcgkkjfbdappoaaGreat
open Go.RowKit Go.Proofs.YtcgkkjfbdappoaaGreatW.PrintWords Go.Proofs.YtcgkkjfbdappoaaGreatW.PrintLast Go.Proofs.YtcgkkjfbdappoaaGreatW.PrintMore
set_option linter.unusedVariables false
set_option linter.unusedSimpArgs false

set_option maxHeartbeats 1000000 in
set_option maxRecDepth 100000 in
theorem rdy_Pop (r : Nat) (l : List MsgV) (k : Nat) (y : MsgV) (hk : l.length = k + 1) (hy : l[k]? = some y) (b : Nat) (w : World) (h : Rdy b w r l) :
    Calls Tryz.prog 154 #[.pointer (some ⟨r, 0, none⟩)] w fun e w' => e = .returned (.iface 38 (.agg (msgC y))) ∧ Below b w w' := by
  obtain ⟨v, hr, hbr, hown, hne⟩ := h
  have hlt := lt_of hr
  obtain ⟨g, cap, rfl, hbg, -⟩ := hown.lit (fun e => by subst e; simp at hk)
  have hcap := hown.block.2.1
  have hcm := hown.block.2.2.1
  have hgr : g ≠ r := fun e => hne (by rw [e]; rfl)
  have hglt : g < w.heap.size := (hown.lt rfl).2
  have K0 := Hd.mk (⟨hr, hown, hlt, hbr, hbg, hgr, hglt⟩ : _ ∧ _ ∧ _ ∧ _ ∧ _ ∧ _ ∧ _)
  have HRG := Hd.mk (hown.range hy)
  have hle : k < cap := by omega
  unfold maxLen at hcm
  have c0 : w.cell? ⟨r, 0, none⟩ = some (.slice (some ⟨g, 0, none⟩) l.length cap) := (cell_of_row w _ 0 _ _ _ hr).trans rfl
  have f0 := frozen_of_row w r 0 _ _ hr
  clear hr hown hne hlt hbr hbg hgr hglt
  generalize hn : l.length = n at *
  have hn1 : (n : Int) - 1 = (k : Int) := by omega
  have hk1 : (k : Int) < (n : Int) := by omega
  have hkc : (k : Int) ≤ (cap : Int) := by omega
  have hk0 : (0 : Int) ≤ (k : Int) := by omega
  have hkw : wrap64 (k : Int) = (k : Int) := by unfold wrap64; omega
  have HN := Hd.mk hn
  clear hn hk hy hcm
  go_enter Tryz.func154, Tryz.ntmps154
  go_upto_region 3 with (first | ((with_reducible refine gate_dst (N := 13) rfl ?_); refine wpList_load_mid rfl 38 _ rfl g (k * 22) rfl (msgC y).toList _ HRG.out Tryz.underlying38 rfl msg_size ?_) | ((with_reducible refine gate_store (t := 38) rfl ?_); refine wpList_store_row rfl _ _ _ rfl w.heap.size (msgC y) rfl rfl 38 _ (heap_alloc_new w _) msg_size rfl (msgC_one y) ?_))
  clear c0 f0
  refine world_gen (fun W => Holds w [(w.heap.size, .cells (msgC y) 38 (0, 0))] W) ((Holds.nil w).made (msgC MsgV.zero) (msgC y) 38) (fun W hK => ?_)
  have hr2 : W.heap[r]? = some (.cells #[.slice (some ⟨g, 0, none⟩) n cap] 70 (0, 0)) := (hK.2.block r K0.out.2.2.1).trans K0.out.1
  have c0 : W.cell? ⟨r, 0, none⟩ = some (.slice (some ⟨g, 0, none⟩) n cap) := (cell_of_row W _ 0 _ _ _ hr2).trans rfl
  have f0 := frozen_of_row W r 0 _ _ hr2
  have HK := Hd.mk hK
  clear hK hr2
  go_upto_region 4 with (fail)
  refine world_gen (fun W2 => W2.heap[w.heap.size]? = some (.cells (msgC y) 38 (0, 0)) ∧ Below b w W2) ⟨(heap_setCell_other _ _ _ _ (by have := K0.out.2.2.1; show w.heap.size ≠ r; omega)).trans (HK.out.get 0 rfl), (HK.out.2.mono (by have := K0.out; omega)).setCell (p := ⟨r, 0, none⟩) K0.out.2.2.2.1 _⟩ (fun W2 hW => ?_)
  have HW := Hd.mk hW
  clear hW c0 f0 HK HRG
  go_wp2_with (first | ((with_reducible refine gate_dst (N := 21) rfl ?_); refine wpList_load_mid rfl 38 _ rfl w.heap.size 0 rfl (msgC y).toList _ (range_ofC HW.out.1 0 (msgC y).toList (fun j v hj => by simpa using hj)) Tryz.underlying38 rfl msg_size ?_))
  go_ret
  exact ⟨rfl, HW.out.2⟩
end Go.Proofs.YtcgkkjfbdappoaaGreat

/- The library's heap of messages that are ready: Push and up: their contracts. -/
namespace Go.Proofs.YtcgkkjfbdappoaaGreat
open Go.RowKit Go.Proofs.YtcgkkjfbdappoaaGreatW.PrintWords Go.Proofs.YtcgkkjfbdappoaaGreatW.PrintLast Go.Proofs.YtcgkkjfbdappoaaGreatW.PrintMore
set_option linter.unusedVariables false
set_option linter.unusedSimpArgs false

theorem meth_Push (r : Nat) (w : World) : Sem.run Tryz.prog (method (Tryz.prog.types.size + 100) 69 (.pointer (some ⟨r, 0, none⟩)) "Push") w = .ok (155, .pointer (some ⟨r, 0, none⟩)) w := by kernel_rfl
theorem meth_Pop (r : Nat) (w : World) : Sem.run Tryz.prog (method (Tryz.prog.types.size + 100) 69 (.pointer (some ⟨r, 0, none⟩)) "Pop") w = .ok (154, .pointer (some ⟨r, 0, none⟩)) w := by kernel_rfl
theorem load_rdy {r : Nat} {w : World} {A : Option Addr} {n cap : Nat} (h : w.heap[r]? = some (.cells #[.slice A n cap] 70 (0, 0))) : (loadVar 70 ⟨r, 0, none⟩).run Tryz.prog w = .ok (.slice A n cap) w := by
  have c : w.cell? ⟨r, 0, none⟩ = some (.slice A n cap) := (cell_of_row w _ 0 _ _ _ h).trans rfl
  go_simp
theorem wrapnil (t : TypeId) (p : Addr) (s m : String) (w : World) : Sem.run Tryz.prog (Builtin.ssaWrapNilChk_ #[t] t #[.pointer (some p), strVal s, strVal m]) w = .ok (.pointer (some p)) w := rfl
theorem add100 (a : Nat) : a + 100 = (a + 99) + 1 := rfl
theorem meth_at (r : Nat) (w : World) (nm : String) (f : Nat) (hrow : (Tryz.prog.info? 69).map (fun i => (i.methods.find? (·.name == nm)).map (fun m => (m.path, m.func))) = some (some (#[], some (f, false)))) {A : Option Addr} {n cap : Nat} (h : w.heap[r]? = some (.cells #[.slice A n cap] 70 (0, 0))) :
    Sem.run Tryz.prog (method (Tryz.prog.types.size + 100) 69 (.pointer (some ⟨r, 0, none⟩)) nm) w = .ok (f, .slice A n cap) w := by
  obtain ⟨i, hi, e⟩ := Option.map_eq_some_iff.1 hrow
  obtain ⟨m, hm, e⟩ := Option.map_eq_some_iff.1 e
  simp only [Prod.mk.injEq] at e
  obtain ⟨e1, e2⟩ := e
  have hl := load_rdy h
  have hu := run_underlying (P := Tryz.prog) Tryz.underlying69 w
  rw [add100]
  unfold method
  simp [typeInfo, hi, hm, e1, e2, follow, receiverAt, hu, Place.get, wrapnil, asAddr, hl]
theorem meth_Len {r : Nat} {w : World} {A : Option Addr} {n cap : Nat} (h : w.heap[r]? = some (.cells #[.slice A n cap] 70 (0, 0))) :
    Sem.run Tryz.prog (method (Tryz.prog.types.size + 100) 69 (.pointer (some ⟨r, 0, none⟩)) "Len") w = .ok (30, .slice A n cap) w := meth_at r w _ _ (by kernel_rfl) h
theorem meth_Less {r : Nat} {w : World} {A : Option Addr} {n cap : Nat} (h : w.heap[r]? = some (.cells #[.slice A n cap] 70 (0, 0))) :
    Sem.run Tryz.prog (method (Tryz.prog.types.size + 100) 69 (.pointer (some ⟨r, 0, none⟩)) "Less") w = .ok (153, .slice A n cap) w := meth_at r w _ _ (by kernel_rfl) h
theorem meth_Swap {r : Nat} {w : World} {A : Option Addr} {n cap : Nat} (h : w.heap[r]? = some (.cells #[.slice A n cap] 70 (0, 0))) :
    Sem.run Tryz.prog (method (Tryz.prog.types.size + 100) 69 (.pointer (some ⟨r, 0, none⟩)) "Swap") w = .ok (156, .slice A n cap) w := meth_at r w _ _ (by kernel_rfl) h

theorem Rdy.call {b r : Nat} {w w' : World} {l : List MsgV} (h : Rdy b w r l) (hb : Below w.heap.size w w') : Rdy b w' r l := by
  obtain ⟨v, h1, h2, h3, h4⟩ := h
  exact ⟨v, (hb.block _ (lt_of h1)).trans h1, h2, h3.below hb, h4⟩
theorem below_step' {b : Nat} {w w1 w2 : World} (h : Below b w w1) (k : Below w1.heap.size w1 w2) (hb : b ≤ w1.heap.size) : Below b w w2 := h.trans (k.mono hb)
theorem tdiv_half (j : Nat) (hj : 0 < j) : Int.tdiv ((j : Int) - 1) 2 = (((j - 1) / 2 : Nat) : Int) := by
  have e : (j : Int) - 1 = ((j - 1 : Nat) : Int) := by omega
  rw [e, Int.tdiv_eq_ediv_of_nonneg (by omega)]
  omega
set_option maxHeartbeats 1000000 in
set_option maxRecDepth 100000 in
theorem heap_up (r : Nat) (l : List MsgV) (j : Nat) (hj : j < l.length) (hup : UpTo l j) (hlen : l.length ≤ 50000000000) (b : Nat) (w : World) (h : Rdy b w r l) (hbs : b ≤ w.heap.size) :
    Calls Tryz.prog 59 #[.iface 69 (.pointer (some ⟨r, 0, none⟩)), .int .i64 (j : Int)] w fun e w' => e = .returned (.tuple #[]) ∧ (∃ l', Rdy b w' r l' ∧ IsHeap l' ∧ l'.Perm l) ∧ Below b w w' := by
  have H0 := Hd.mk (⟨h, hup, hbs⟩ : _ ∧ _ ∧ _)
  have HL := Hd.mk (⟨hj, hlen⟩ : _ ∧ _)
  clear h hup hj hlen hbs
  go_enter Tryz.func59, Tryz.ntmps59
  go_wp2_with fail
  go_loopg [1] j (fun kq v1 w' => ∃ (j1 : Nat) (l1 : List MsgV), v1 = .int .i64 (j1 : Int) ∧ Hd (j1 ≤ kq ∧ j1 < l1.length ∧ UpTo l1 j1 ∧ l1.Perm l ∧ Rdy b w' r l1 ∧ Below b w w' ∧ b ≤ w'.heap.size))
  case atStart => exact ⟨j, l, rfl, ⟨Nat.le_refl _, HL.out.1, H0.out.2.1, List.Perm.refl _, H0.out.1, Below.refl _ _, H0.out.2.2⟩⟩
  case round =>
    clear H0
    obtain ⟨j1, l1, rfl, HR⟩ := hrel
    by_cases h0 : j1 = 0
    · subst h0
      go_wp2_with fail
      go_end0
      exact ⟨rfl, ⟨l1, HR.out.2.2.2.2.1, HR.out.2.2.1.done (Or.inl rfl), HR.out.2.2.2.1⟩, HR.out.2.2.2.2.2.1⟩
    · have ht := tdiv_half j1 (by omega)
      have hjl : j1 < 50000000000 := by have h1 := HR.out.2.1; have h2 := HR.out.2.2.2.1.length_eq; have := HL.out.2; omega
      have hw1 : wrap64 ((j1 : Int) - 1) = (j1 : Int) - 1 := by unfold wrap64; omega
      have HI : Hd ((j1 - 1) / 2 < j1 ∧ (j1 - 1) / 2 < l1.length) := ⟨by omega, by have := HR.out.2.1; omega⟩
      obtain ⟨x, hx⟩ : ∃ x, l1[j1]? = some x := ⟨_, List.getElem?_eq_getElem HR.out.2.1⟩
      obtain ⟨y, hy⟩ : ∃ y, l1[(j1 - 1) / 2]? = some y := ⟨_, List.getElem?_eq_getElem HI.out.2⟩
      have HY := Hd.mk hy
      generalize hii : (j1 - 1) / 2 = i at *
      have HII := Hd.mk hii
      clear hii
      have hw2 : wrap64 (i : Int) = (i : Int) := by have := HI.out.1; unfold wrap64; omega
      have hne : ¬ ((i : Int) = (j1 : Int)) := by have := HI.out.1; omega
      obtain ⟨v, hr, hbr, hown, hnr⟩ := HR.out.2.2.2.2.1
      obtain ⟨g, cap, rfl, hbg, -⟩ := hown.lit (fun e => by subst e; simp at hx)
      have HLs := Hd.mk (rdy_Less g cap l1 j1 i x y hx hy b wr hown)
      have HX := Hd.mk hx
      have mL := meth_Less hr
      simp only [Tryz.types_size, Nat.reduceAdd] at mL
      have eL : ∀ args w, (callFunc 153 args).run Tryz.prog w = .ok (.enter 153 args) w := enters_of Tryz.func153 (by kernel_rfl) rfl
      have HRD := Hd.mk (⟨hr, hbr, hown, hnr⟩ : _ ∧ _ ∧ _ ∧ _)
      clear hr hbr hown hnr hbg hx hy
      rcases hv : lessM x y with _ | _
      · have HV := Hd.mk hv
        rw [hv] at HLs
        clear hv
        go_wp2_with fail
        refine HLs.out.mono ?_; rintro e w1 ⟨rfl, hb1⟩
        clear mL HLs
        go_wp2_with fail
        go_end0
        refine ⟨rfl, ⟨l1, HR.out.2.2.2.2.1.call hb1, HR.out.2.2.1.done (Or.inr (fun x' y' hx' hy' => ?_)), HR.out.2.2.2.1⟩, below_step' HR.out.2.2.2.2.2.1 hb1 HR.out.2.2.2.2.2.2⟩
        rw [HX.out] at hx'
        rw [HII.out, HY.out] at hy'
        cases hx'
        cases hy'
        exact HV.out
      · have HV := Hd.mk hv
        rw [hv] at HLs
        clear hv
        go_wp2_with fail
        refine HLs.out.mono ?_; rintro e w1 ⟨rfl, hb1⟩
        clear mL HLs
        have hr1 := (hb1.block _ (lt_of HRD.out.1)).trans HRD.out.1
        have hown1 := HRD.out.2.2.1.below hb1
        have HSw := Hd.mk (rdy_Swap g cap l1 i j1 y x HY.out HX.out b w1 hown1)
        have mS := meth_Swap hr1
        simp only [Tryz.types_size, Nat.reduceAdd] at mS
        have eS : ∀ args w, (callFunc 156 args).run Tryz.prog w = .ok (.enter 156 args) w := enters_of Tryz.func156 (by kernel_rfl) rfl
        have HR1 := Hd.mk hr1
        clear hr1 hown1 eL
        go_wp2_with fail
        refine HSw.out.mono ?_; rintro e w2 ⟨rfl, hown2, hb2, hfar⟩
        clear mS HSw eS
        have hgr : g ≠ r := fun e => HRD.out.2.2.2 (by rw [e]; rfl)
        have HQ : Hd (i ≤ j1 - 1 ∧ i < (swapL l1 i j1).length ∧ UpTo (swapL l1 i j1) i ∧ (swapL l1 i j1).Perm l ∧ Rdy b w2 r (swapL l1 i j1) ∧ Below b w w2 ∧ b ≤ w2.heap.size) := by
          have hb3 := below_step' HR.out.2.2.2.2.2.1 hb1 HR.out.2.2.2.2.2.2
          have hb4 : b ≤ w1.heap.size := Nat.le_trans HR.out.2.2.2.2.2.2 hb1.size
          have h6 := HR.out.2.2.1.step (by omega) HX.out (by rw [HII.out]; exact HY.out) HV.out
          rw [HII.out] at h6
          refine ⟨by have := HI.out.1; omega, by rw [swapL_len]; exact HI.out.2, h6, (swapL_perm l1 i j1).trans HR.out.2.2.2.1, ⟨_, (hfar r (fun e => hgr e.symm)).trans HR1.out, HRD.out.2.1, ?_, HRD.out.2.2.2⟩, hb3.trans hb2, Nat.le_trans hb4 hb2.size⟩
          exact hown2
        clear hown2 hfar hb2 hb1 HR1
        go_wp2_with fail
        go_roundg (j1 - 1)
        case measure => have := HR.out.1; omega
        case rel => exact ⟨i, swapL l1 i j1, rfl, HQ⟩
set_option maxHeartbeats 1000000 in
set_option maxRecDepth 100000 in
theorem heap_Push (r : Nat) (l : List MsgV) (m : MsgV) (hh : IsHeap l) (hlen : l.length < 50000000000) (b : Nat) (w : World) (h : Rdy b w r l) (hbs : b ≤ w.heap.size) :
    Calls Tryz.prog 29 #[.iface 69 (.pointer (some ⟨r, 0, none⟩)), .iface 38 (.agg (msgC m))] w fun e w' => e = .returned (.tuple #[]) ∧ (∃ l', Rdy b w' r l' ∧ IsHeap l' ∧ l'.Perm (l ++ [m])) ∧ Below b w w' := by
  have HP := Hd.mk (rdy_Push r l m b w h (by omega))
  have mP := fun w => meth_Push r w
  simp only [Tryz.types_size, Nat.reduceAdd] at mP
  have eP : ∀ args w, (callFunc 155 args).run Tryz.prog w = .ok (.enter 155 args) w := enters_of Tryz.func155 (by kernel_rfl) rfl
  have HL := Hd.mk (⟨hh, hlen, hbs⟩ : _ ∧ _ ∧ _)
  clear h hh hlen hbs
  go_enter Tryz.func29, Tryz.ntmps29
  go_wp2_with fail
  refine HP.out.mono ?_; rintro e w1 ⟨rfl, hrd, hb1⟩
  clear HP mP eP
  obtain ⟨v, hr, hbr, hown, hnr⟩ := hrd
  obtain ⟨A, cap, rfl⟩ := hown.slice
  have mL := meth_Len hr
  simp only [Tryz.types_size, Nat.reduceAdd] at mL
  have eL : ∀ args w, (callFunc 30 args).run Tryz.prog w = .ok (.enter 30 args) w := enters_of Tryz.func30 (by kernel_rfl) rfl
  have hlm : (l ++ [m]).length = l.length + 1 := by simp
  have HU := Hd.mk (heap_up r (l ++ [m]) l.length (by omega) (HL.out.1.push m) (by have := HL.out.2.1; omega) b w1 ⟨_, hr, hbr, hown, hnr⟩ (Nat.le_trans HL.out.2.2 hb1.size))
  have hw : wrap64 (l.length : Int) = (l.length : Int) := by have := HL.out.2.1; unfold wrap64; omega
  have hn1 : ((l ++ [m]).length : Int) - 1 = (l.length : Int) := by omega
  have HB := Hd.mk hb1
  clear hr hbr hown hnr hb1 hlm
  generalize (l ++ [m]).length = n at *
  have HLen := Hd.mk (rdy_Len A n cap)
  go_wp2_with fail
  refine (HLen.out _).mono ?_; rintro e w2 ⟨rfl, rfl⟩
  clear mL eL
  go_wp2_with fail
  refine HU.out.mono ?_; rintro e w3 ⟨rfl, hex, hb3⟩
  go_wp2_with fail
  go_end0
  exact ⟨rfl, hex, HB.out.trans hb3⟩
end Go.Proofs.YtcgkkjfbdappoaaGreat
