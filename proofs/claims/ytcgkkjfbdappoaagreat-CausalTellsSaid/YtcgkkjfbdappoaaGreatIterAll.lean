/- Texts that belong together, in one. -/
import Derived.Test.YtcgkkjfbdappoaaGreatIndexAll
import Derived.Test.YtcgkkjfbdappoaaGreatVecBll
import Derived.RangeFuncBox
import Derived.RangeFuncLeaves
import Derived.RangeFuncNested
import Derived.Shelf.Abstract
import Derived.WalkKit
import Derived.OwnWalkIn
import Derived.TacticsInMore
import Derived.LoopNIn
import Derived.LoopIn
import Derived.Maps.AppendAt
import Derived.Test.YtcgkkjfbdappoaaGreatCauOffer
/- slices.Values and slices.AppendSeq over messages: a range over a function. -/
namespace Go.Proofs.YtcgkkjfbdappoaaGreat
open Go.RowKit Go.Proofs.YtcgkkjfbdappoaaGreatW.PrintWords Go.Proofs.YtcgkkjfbdappoaaGreatW.PrintLast Go.Proofs.YtcgkkjfbdappoaaGreatW.PrintMore
open Go.Shelf
set_option linter.unusedVariables false
set_option linter.unusedSimpArgs false
attribute [local go_sem] Oper.semAt_some

section
variable {F : Fence} {n : Nat} {P : Program} {ops : Array Oper} {Q : Exit → Act → World → Prop} {a : Act} {w : World} {rest : List Oper} {o : Oper}
theorem gateI_dst {N : Nat} (_h : o.dst = some N) (h : wpListIn F n P ops Q (o :: rest) a w) : wpListIn F n P ops Q (o :: rest) a w := h
theorem gateI_store {t : TypeId} {x y : Operand} (_h : o.op = .store t x y) (h : wpListIn F n P ops Q (o :: rest) a w) : wpListIn F n P ops Q (o :: rest) a w := h
theorem wpListIn_val (hg : o.guard = none) (hnc : ∀ c, o.op ≠ .call c) (hnd : ∀ c, o.op ≠ .defer c) {v : Value} {w1 : World} (hr : (execOp a.eval o).run P w = .ok (.value v) w1) (h : wpListIn F n P ops Q rest (a.put o.dst v) w1) : wpListIn F n P ops Q (o :: rest) a w := by
  refine wpListIn_plain hg fun K hK => ?_
  unfold Oper.wpIn
  refine ⟨?_, ?_⟩
  · intro f hf
    unfold Oper.about at hf
    cases ho : o.op <;> simp [ho] at hf
    exact absurd ho (hnc _)
  · rw [Oper.semAt_plain F _ _ hnd, hr]
    exact hK _ _ h
theorem wpListIn_skipped (hg : o.guard = none) (hnc : ∀ c, o.op ≠ .call c) (hnd : ∀ c, o.op ≠ .defer c) {w1 : World} (hr : (execOp a.eval o).run P w = .ok .skip w1) (h : wpListIn F n P ops Q rest (a.put o.dst undef) w1) : wpListIn F n P ops Q (o :: rest) a w := by
  refine wpListIn_plain hg fun K hK => ?_
  unfold Oper.wpIn
  refine ⟨?_, ?_⟩
  · intro f hf
    unfold Oper.about at hf
    cases ho : o.op <;> simp [ho] at hf
    exact absurd ho (hnc _)
  · rw [Oper.semAt_plain F _ _ hnd, hr]
    exact hK _ _ h
end
theorem alloc_setRow (w : World) (old cs : Array Value) (t : TypeId) : (w.alloc (.cells old t (0, 0))).setRow w.heap.size cs = w.alloc (.cells cs t (0, 0)) := by
  unfold World.setRow World.alloc
  congr 1
  apply Array.ext
  · simp
  · intro i h1 h2
    simp only [Array.getElem_modify]
    split
    · rename_i e
      subst e
      simp
    · rename_i e
      have : i < w.heap.size := by simp at h2; omega
      simp [Array.getElem_push, this]
theorem run_store_newC {o : Oper} {ρ : Operand → Value} {w : World} (x y : Operand) (ho : o.op = .store 38 x y) (m : MsgV) (hx : ρ x = .pointer (some ⟨w.heap.size, 0, none⟩)) (hy : ρ y = .agg (msgC m)) (old : Array Value) (hold : old.size = 22) :
    (execOp ρ o).run Tryz.prog (w.alloc (.cells old 38 (0, 0))) = .ok .skip (w.alloc (.cells (msgC m) 38 (0, 0))) := by
  rw [← alloc_setRow w old (msgC m)]
  exact run_store_row 38 x y ho w.heap.size (msgC m) hx hy 38 old (heap_alloc_new w _) msg_size hold (msgC_one m)
set_option maxRecDepth 100000 in
set_option maxHeartbeats 2000000 in
theorem values1_in (F : Fence) (n : Nat) (h7 : F.fn 64) (hro : F.round = none) (hn : 1 ≤ n) (l Bs n₀ : Nat) (v : Value) (xs : List MsgV) (hlen : xs.length ≤ 50000000000) (J Jx : List MsgV → World → Prop)
    (hY : ∀ pre x W, J pre W → pre.length < xs.length → YieldAt F (n - 1) Tryz.prog l #[.agg (msgC x)] W fun e W' =>
      (e = .returned (.bool true) ∧ J (pre ++ [x]) W' ∧ Below n₀ W W') ∨ (e = .returned (.bool false) ∧ Jx (pre ++ [x]) W'))
    (W : World) (hJ : AbidesFrom W.heap.size J) (hBs : W.cell? ⟨Bs, 0, none⟩ = some v) (hown : msgE.Own 0 W v xs) (hlt : ∀ k, v.ownBlock = some k → k < n₀) (hn0 : n₀ ≤ W.heap.size) (h0 : J [] W) :
    CallsIn F n Tryz.prog 64 #[.func (.yield l) #[] #[], .pointer (some ⟨Bs, 0, none⟩)] W fun e W' => (∃ v, e = .returned v) ∧
      ((∃ ys, ys = xs ∧ J ys W') ∨ (∃ pre, pre <+: xs ∧ Jx pre W')) := by
  obtain ⟨A, cap, rfl⟩ := hown.slice
  refine callsIn_of_wp Tryz.func64 rfl h7 ?_ hro
  simp only [Tryz.ntmps64, List.size_toArray, List.length_cons, List.length_nil, Nat.reduceAdd, Nat.reduceSub, Array.replicate_succ, Array.replicate_zero, List.push_toArray, List.append_toArray, List.nil_append, List.cons_append]
  gi_wp2
  gi_loopw [7] (fun i wr => ∃ k : Nat, k ≤ xs.length ∧ i = .int .i64 k ∧ J (xs.take k) wr ∧ Below n₀ W wr)
    (fun i _ => xs.length - (intOf i).toNat)
  case atStart => exact ⟨0, Nat.zero_le _, rfl, h0, Below.refl _ _⟩
  case round =>
    obtain ⟨k, hk, rfl, hJs, hnx⟩ := hrel
    by_cases hlt2 : k < xs.length
    · obtain ⟨x, hx⟩ : ∃ x, xs[k]? = some x := ⟨_, List.getElem?_eq_getElem hlt2⟩
      obtain ⟨g, cap2, e, -, -⟩ := hown.lit (fun e => by subst e; simp at hlt2)
      cases e
      have hw1 : msgE.Own 0 wr (.slice (some ⟨g, 0, none⟩) xs.length cap) xs := own_keep hown (fun q hq => hnx.block q (hlt q hq))
      have hrg := hw1.range hx
      have hJ1 : J (xs.take k) (wr.alloc (.cells (msgC x) 38 (0, 0))) := hJ _ _ _ none hJs (World.grownBy_alloc _ _ _) (fun r e => by cases e)
      obtain ⟨fn, tmps, assign, body, hy, hR⟩ := hY _ x _ hJ1 (by rw [List.length_take]; omega)
      have htk : xs.take (k + 1) = xs.take k ++ [x] := by
        rw [List.take_succ_eq_append_getElem hlt2]
        rw [List.getElem?_eq_getElem hlt2] at hx
        rw [Option.some.inj hx]
      have hc1 : (k : Int) < (xs.length : Int) := by omega
      have hwr : n₀ ≤ wr.heap.size := Nat.le_trans hn0 hnx.size
      gi_wp2_with (first | ((with_reducible refine gateI_dst (N := 10) rfl ?_); refine wpListIn_val rfl (by intro c hc; cases hc) (by intro c hc; cases hc) (run_load_rangeC 38 _ rfl g (k * 22) (msgC x).toList rfl hrg _ Tryz.underlying38 rfl msg_size) ?_) | ((with_reducible refine gateI_store (t := 38) rfl ?_); refine wpListIn_skipped rfl (by intro c hc; cases hc) (by intro c hc; cases hc) (run_store_newC _ _ rfl x rfl rfl _ rfl) ?_) | ((with_reducible refine gateI_dst (N := 12) rfl ?_); refine wpListIn_val rfl (by intro c hc; cases hc) (by intro c hc; cases hc) (run_load_wholeC _ rfl wr.heap.size x rfl (heap_alloc_new wr _)) ?_))
      refine hR.mono ?_
      rintro e W3 (⟨rfl, hJ3, hk3⟩ | ⟨rfl, hJx3⟩)
      · have hb3 : Below n₀ W W3 := (hnx.alloc hwr _).trans hk3
        have hw : wrap64 ((k : Int) + 1) = ((k + 1 : Nat) : Int) := by unfold wrap64; omega
        gi_wp2
        go_roundw
        case rel => exact ⟨k + 1, by omega, by first | rfl | (congr 1), by rw [htk]; exact hJ3, hb3⟩
        case measure => simp [intOf, hw]; omega
      · gi_wp2
        refine bodyPost_ret (results_none rfl _ _ _) rfl ?_
        exact ⟨⟨_, rfl⟩, .inr ⟨_, by rw [← htk]; exact List.take_prefix _ _, hJx3⟩⟩
    · obtain rfl : k = xs.length := by omega
      gi_wp2
      go_end0
      exact ⟨⟨_, rfl⟩, .inl ⟨_, List.take_of_length_le (Nat.le_refl _), hJs⟩⟩
/-- slices.Values(s): the slice value is boxed; the function value captures the box. -/
theorem values_in (F : Fence) (n : Nat) (h5 : F.fn 39) (hro : F.round = none) (A : Option Addr) (len cap : Nat) (w : World) :
    CallsIn F n Tryz.prog 39 #[.slice A len cap] w fun e w' => e = .returned (.func (.func 64) #[] #[.pointer (some ⟨w.heap.size, 0, none⟩)]) ∧ w' = w.alloc (.cells #[.slice A len cap] 49) := by
  refine callsIn_of_wp Tryz.func39 rfl h5 ?_ hro
  simp only [Tryz.ntmps39, List.size_toArray, List.length_cons, List.length_nil, Nat.reduceAdd, Nat.reduceSub, Array.replicate_succ, Array.replicate_zero, List.push_toArray, List.append_toArray, List.nil_append, List.cons_append]
  gi_wp2
  go_ret
  exact ⟨rfl, rfl⟩
/-- It hands on all of xs, in order; or a begin of it. -/
theorem values_stops (F : Fence) (n : Nat) (h7 : F.fn 64) (hro : F.round = none) (hn : 1 ≤ n) (Bs n₀ : Nat) (v : Value) (xs : List MsgV) (hlen : xs.length ≤ 50000000000) (w : World) (hBs : Bs < w.heap.size) (hn₀ : n₀ ≤ w.heap.size)
    (hc : w.cell? ⟨Bs, 0, none⟩ = some v) (hI : msgE.Own 0 w v xs) (hlt : ∀ k, v.ownBlock = some k → k < n₀) :
    SeqStopsK F n Tryz.prog 64 #[.pointer (some ⟨Bs, 0, none⟩)] (fun x : MsgV => #[Value.agg (msgC x)]) (Below n₀) (fun ys => ys = xs) (fun pre => pre <+: xs) xs.length w := fun l J Jx W hW hJ _ hY h0 =>
  values1_in F n h7 hro hn l Bs n₀ v xs hlen J Jx hY W hJ ((hW.cell (p := ⟨Bs, 0, none⟩) hBs).trans hc) (hI.below hW) hlt (Nat.le_trans hn₀ hW.size) h0
set_option maxRecDepth 100000 in
set_option maxHeartbeats 4000000 in
/-- slices.AppendSeq(nil, slices.Values(s)): a slice of one's own that holds the same. -/
theorem appendseq_in (F : Fence) (n : Nat) (h3 : F.fn 92) (h7 : F.fn 64) (hro : F.round = none) (hn : 3 ≤ n) (Bs : Nat) (v : Value) (xs : List MsgV) (hlen : xs.length ≤ 40000000000) (w : World) (hBs : Bs < w.heap.size)
    (hc : w.cell? ⟨Bs, 0, none⟩ = some v) (hI : msgE.Own 0 w v xs) :
    CallsIn F n Tryz.prog 92 #[.slice none 0 0, .func (.func 64) #[] #[.pointer (some ⟨Bs, 0, none⟩)]] w fun e W' => ∃ v, e = .returned v ∧ msgE.Own w.heap.size W' v xs ∧ Below w.heap.size w W' := by
  have h1 : 1 ≤ n := by omega
  refine callsIn_of_wp_marks Tryz.func92 rfl h3 ?_ hro
  simp only [Tryz.ntmps92, List.size_toArray, List.length_cons, List.length_nil, Nat.reduceAdd, Nat.reduceSub, Array.replicate_succ, Array.replicate_zero, List.push_toArray, List.append_toArray, List.nil_append, List.cons_append]
  gi_wp2
  obtain ⟨i0, hi, hz0, hz1, hz2⟩ := info_parts msgE.info
  have bO := Boxed.new w 49 (.slice none 0 0)
  have hB0 : Below w.heap.size w (w.alloc (.cells #[.slice none 0 0] 49)) := (Below.refl _ w).alloc (Nat.le_refl _) _
  have hsz : (w.alloc (.cells #[.slice none 0 0] 49)).heap.size = w.heap.size + 1 := by simp
  obtain ⟨W0, hW0⟩ : ∃ W0, w.alloc (.cells #[.slice none 0 0] 49) = W0 := ⟨_, rfl⟩
  rw [hW0] at bO hB0 hsz ⊢
  clear hW0
  refine wpIn_rangeFunc_ownH hro h1 (gf := 64) (lb := #[.pointer (some ⟨Bs, 0, none⟩)]) rfl h7 (enters_of Tryz.func64 (by kernel_rfl) rfl)
    (values_stops F (n - 1) h7 hro (by omega) Bs w.heap.size v xs (by omega) W0 (by omega) (by omega) ((hB0.cell (p := ⟨Bs, 0, none⟩) hBs).trans hc) (hI.below hB0) (fun k e => (hI.lt e).2)) belowK_t (belowK_b (by omega)) (Below.refl _ _) (fun _ => rfl)
    (fun pre W => (∃ v, Boxed W w.heap.size 49 v ∧ W.ownsRow w.heap.size 38 22 v pre.length (msgE.cells pre) ∧ True) ∧ Below w.heap.size w W)
    (fun _ _ _ => False)
    (OwnFrom.and (Own.from (holdsRow_own w.heap.size w.heap.size 49 38 22 (fun pre : List MsgV => pre.length) (fun pre => msgE.cells pre) (fun pre v => True)) _) (ownFrom_below (Nat.le_refl _) (by omega)))
    (fun _ _ _ _ _ hs _ _ => hs)
    ⟨⟨_, bO, World.ownsRow_nil _ _ _ _, trivial⟩, hB0⟩
    (fun x a' W => ∃ Bx, w.heap.size < Bx ∧ W.heap[Bx]? = some (.cells (msgC x) 38 (0, 0)) ∧ a' = { tmps := #[.slice none 0 0, .func (.func 64) #[] #[.pointer (some ⟨Bs, 0, none⟩)], .pointer (some ⟨w.heap.size, 0, none⟩), undef, .slice none 0 0, .pointer (some ⟨Bx, 0, none⟩), .func (.func 64) #[] #[.pointer (some ⟨Bs, 0, none⟩)], .agg (msgC x), undef, undef, undef, undef, undef], defers := [] })
    (fun x a' _ X Y row hs hg hr => by
      obtain ⟨Bx, h1, h2, h3⟩ := hs
      refine ⟨Bx, h1, (hg.block Bx (lt_of h2) (fun e => ?_)).trans h2, h3⟩
      obtain ⟨_, o, ho, hcc⟩ := hr Bx e.symm
      rw [h2] at ho; cases ho; cases hcc)
    ?assign ?body ?done ?stop
  case assign =>
    rintro l pre x W K ⟨⟨v1, hv, hrow, _⟩, hB⟩ hK
    gi_wp2_with (first | ((with_reducible refine gateI_store (t := 38) rfl ?_); refine wpListIn_skipped rfl (by intro c hc; cases hc) (by intro c hc; cases hc) (run_store_newC _ _ rfl x rfl rfl _ rfl) ?_))
    exact hK _ _ ((KeepsOthers.alloc _ _).from _) ((Below.refl _ W).alloc hB.size _) ⟨⟨v1, hv.alloc _, hrow.alloc _, trivial⟩, hB.alloc hB.size _⟩ ⟨W.heap.size, hv.lt, heap_alloc_new W _, rfl⟩
  case body =>
    rintro l pre x a' W hl ⟨r, hr⟩ ⟨⟨v1, hv, hrow, _⟩, hB⟩ ⟨Bx, hBx, bX, rfl⟩ hlt
    obtain ⟨A1, cap1, rfl⟩ := Elt.Own.slice (E := msgE) (l := pre) hrow
    have hc1 := hv.cell
    gi_wp2_with (first | ((with_reducible refine gateI_dst (N := 9) rfl ?_); refine wpListIn_val rfl (by intro c hc; cases hc) (by intro c hc; cases hc) (run_load_wholeC _ rfl Bx x rfl bX) ?_) | ((with_reducible refine gateI_dst (N := 10) rfl ?_); refine wpListIn_val rfl (by intro c hc; cases hc) (by intro c hc; cases hc) (build1m 49 Tryz.underlying49 _ rfl x rfl) ?_) | ((with_reducible refine gateI_dst (N := 11) rfl ?_); refine wpListIn_append_own _ rfl _ _ 49 rfl w.heap.size 38 i0 _ 22 200 Tryz.underlying49 hi hz0 hz1 hz2 rfl (by decide) _ _ _ rfl (hrow.alloc _) ⟨W.heap.size, 0, none⟩ 1 1 (msgC x).toList rfl rfl (fun j u hj => (congrArg _ (Addr.add_mid W.heap.size 0 j)).trans ((cell_of_row _ _ _ _ _ _ (heap_alloc_new W _)).trans (by simpa using hj))) (msgE.one x) (by unfold maxLen; omega) (by omega) (by have := hB.size; simp; omega) ?_; intro v' w1 hown' hgrow _; obtain ⟨g', cap', rfl⟩ := ownsRow_succ hown'; obtain ⟨hv1, hv2, hr2, hk2, hb2⟩ := hv.appended (by decide) hrow hB.size (Nat.le_refl _) hown' hgrow; have hc2 := hv1.cell; have hf2 := hv1.frozen))
    have hlx : (pre ++ [x]).length = pre.length + 1 := by simp
    have hcx : msgE.cells (pre ++ [x]) = msgE.cells pre ++ (msgC x).toList := by rw [msgE.cells_append, msgE.cells_one]; rfl
    exact ⟨hk2.from _, hb2, ⟨⟨_, hv2, by rw [hlx, hcx]; exact hr2⟩, hB.trans hb2⟩⟩
  case done =>
    rintro D ys W hD rfl ⟨⟨v1, hv, hrow, _⟩, hB⟩ hK
    obtain ⟨A1, cap1, rfl⟩ := Elt.Own.slice (E := msgE) (l := ys) hrow
    have hc1 := hv.cell
    gi_wp2
    refine ⟨by simp, .inl ⟨_, _, rfl, run_takeDeferred hK, ?_⟩⟩
    exact ⟨_, results_tmp rfl _ _ _, .slice A1 ys.length cap1, rfl, ownsRow_putObj hrow (.deferred none) hK rfl, hB.trans (belowK_b (w := w) (Nat.le_refl _) W D _ _ (by omega) hK rfl rfl)⟩
  case stop =>
    rintro D c pre W _ _ h _
    exact h.elim
end Go.Proofs.YtcgkkjfbdappoaaGreat

/- Waiting, where one message waits, or none: its contract. -/
namespace Go.Proofs.YtcgkkjfbdappoaaGreat
open Go.RowKit Go.Proofs.YtcgkkjfbdappoaaGreatW.PrintWords Go.Proofs.YtcgkkjfbdappoaaGreatW.PrintLast Go.Proofs.YtcgkkjfbdappoaaGreatW.PrintMore
set_option linter.unusedVariables false
set_option linter.unusedSimpArgs false

theorem ins_small (A : Option Addr) (n cap : Nat) (hn : n ≤ 1) (w : World) : Calls Tryz.prog 105 #[.slice A n cap, .int .i64 0, .int .i64 (n : Int), .func (.func 40) #[] #[]] w fun e w' => e = .returned (.tuple #[]) ∧ w' = w := by
  have hc : ¬ (1 : Int) < (n : Int) := by omega
  go_enter Tryz.func105, Tryz.ntmps105
  go_wp2_with fail
  go_loopg [8] 0 (fun kq v8 w' => v8 = .int .i64 1 ∧ w' = w)
  case atStart => exact ⟨rfl, rfl⟩
  case round =>
    obtain ⟨rfl, rfl⟩ := hrel
    go_wp2_with fail
    go_end0
    exact ⟨rfl, rfl⟩
set_option maxHeartbeats 2000000 in
set_option maxRecDepth 100000 in
theorem pdq_small (A : Option Addr) (n cap : Nat) (hn : n ≤ 1) (y : Int) (w : World) : Calls Tryz.prog 93 #[.slice A n cap, .int .i64 0, .int .i64 (n : Int), .int .i64 y, .func (.func 40) #[] #[]] w fun e w' => e = .returned (.tuple #[]) ∧ w' = w := by
  have HI := Hd.mk (ins_small A n cap hn)
  have hc : (n : Int) ≤ 12 := by omega
  have hw : wrap64 (n : Int) = (n : Int) := by unfold wrap64; omega
  have HN := Hd.mk hn
  clear hn
  go_enter Tryz.func93, Tryz.ntmps93
  go_wp2_with fail
  go_loopg [1, 2] 0 (fun kq v1 v2 w' => v1 = .int .i64 0 ∧ v2 = .int .i64 (n : Int) ∧ w' = w)
  case atStart => exact ⟨rfl, rfl, rfl⟩
  case round =>
    obtain ⟨rfl, rfl, rfl⟩ := hrel
    go_wp2_with fail
    refine (HI.out _).mono ?_; rintro e w1 ⟨rfl, rfl⟩
    go_wp2_with fail
    refine bodyPost_ret (results_none rfl _ _ _) rfl ?_
    exact ⟨rfl, rfl⟩
theorem len64_small (n : Nat) (hn : n ≤ 1) (w : World) : Calls Tryz.prog 114 #[.int .u64 (n : Int)] w fun e w' => (∃ y : Int, e = .returned (.int .i64 y)) ∧ w' = w := by
  rcases (by omega : n = 0 ∨ n = 1) with rfl | rfl
  · go_enter Tryz.func114, Tryz.ntmps114
    go_wp2_with fail
    go_ret
    exact ⟨⟨_, rfl⟩, rfl⟩
  · go_enter Tryz.func114, Tryz.ntmps114
    go_wp2_with fail
    go_ret
    exact ⟨⟨_, rfl⟩, rfl⟩
theorem len_small (n : Nat) (hn : n ≤ 1) (w : World) : Calls Tryz.prog 94 #[.int .u64 (n : Int)] w fun e w' => (∃ y : Int, e = .returned (.int .i64 y)) ∧ w' = w := by
  have HI := Hd.mk (len64_small n hn)
  go_enter Tryz.func94, Tryz.ntmps94
  go_wp2_with fail
  refine (HI.out _).mono ?_; rintro e w1 ⟨⟨y, rfl⟩, rfl⟩
  go_wp2_with fail
  go_ret
  exact ⟨⟨_, rfl⟩, rfl⟩
theorem sort_small (A : Option Addr) (n cap : Nat) (hn : n ≤ 1) (w : World) : Calls Tryz.prog 63 #[.slice A n cap, .func (.func 40) #[] #[]] w fun e w' => e = .returned (.tuple #[]) ∧ w' = w := by
  have HI := Hd.mk (len_small n hn)
  have HP := Hd.mk (fun y => pdq_small A n cap hn y)
  have hm : (n : Int) % 18446744073709551616 = (n : Int) := by omega
  go_enter Tryz.func63, Tryz.ntmps63
  go_wp2_with fail
  refine (HI.out _).mono ?_; rintro e w1 ⟨⟨y, rfl⟩, rfl⟩
  go_wp2_with fail
  refine (HP.out _ _).mono ?_; rintro e w1 ⟨rfl, rfl⟩
  go_wp2_with fail
  go_end0
  exact ⟨rfl, rfl⟩
theorem appendseq (Bs : Nat) (v : Value) (xs : List MsgV) (hlen : xs.length ≤ 40000000000) (w : World) (hBs : Bs < w.heap.size) (hc : w.cell? ⟨Bs, 0, none⟩ = some v) (hI : msgE.Own 0 w v xs) :
    Calls Tryz.prog 92 #[.slice none 0 0, .func (.func 64) #[] #[.pointer (some ⟨Bs, 0, none⟩)]] w fun e W' => ∃ v, e = .returned v ∧ msgE.Own w.heap.size W' v xs ∧ Below w.heap.size w W' :=
  callsIn_wide.1 (appendseq_in Fence.wide 3 trivial trivial rfl (Nat.le_refl _) Bs v xs hlen w hBs hc hI)
theorem values_c (A : Option Addr) (len cap : Nat) (w : World) :
    Calls Tryz.prog 39 #[.slice A len cap] w fun e w' => e = .returned (.func (.func 64) #[] #[.pointer (some ⟨w.heap.size, 0, none⟩)]) ∧ w' = w.alloc (.cells #[.slice A len cap] 49) :=
  callsIn_wide.1 (values_in Fence.wide 3 trivial rfl A len cap w)
theorem collect_c (Bs : Nat) (v : Value) (xs : List MsgV) (hlen : xs.length ≤ 40000000000) (w : World) (hBs : Bs < w.heap.size) (hc : w.cell? ⟨Bs, 0, none⟩ = some v) (hI : msgE.Own 0 w v xs) :
    Calls Tryz.prog 62 #[.func (.func 64) #[] #[.pointer (some ⟨Bs, 0, none⟩)]] w fun e W' => ∃ v, e = .returned v ∧ msgE.Own w.heap.size W' v xs ∧ Below w.heap.size w W' := by
  have HA := Hd.mk (appendseq Bs v xs hlen w hBs hc hI)
  clear hc hI
  go_enter Tryz.func62, Tryz.ntmps62
  go_wp2_with fail
  refine HA.out.mono ?_; rintro e w1 ⟨v1, rfl, hown, hb⟩
  obtain ⟨A, cap, rfl⟩ := hown.slice
  go_wp2_with fail
  go_ret
  exact ⟨_, rfl, hown, hb⟩
theorem sorted_small (Bs : Nat) (v : Value) (xs : List MsgV) (hlen : xs.length ≤ 1) (w : World) (hBs : Bs < w.heap.size) (hc : w.cell? ⟨Bs, 0, none⟩ = some v) (hI : msgE.Own 0 w v xs) :
    Calls Tryz.prog 38 #[.func (.func 64) #[] #[.pointer (some ⟨Bs, 0, none⟩)], .func (.func 40) #[] #[]] w fun e W' => ∃ v, e = .returned v ∧ msgE.Own w.heap.size W' v xs ∧ Below w.heap.size w W' := by
  have HA := Hd.mk (collect_c Bs v xs (by omega) w hBs hc hI)
  have HS := Hd.mk (fun A cap => sort_small A xs.length cap hlen)
  clear hc hI
  go_enter Tryz.func38, Tryz.ntmps38
  go_wp2_with fail
  refine HA.out.mono ?_; rintro e w1 ⟨v1, rfl, hown, hb⟩
  obtain ⟨A, cap, rfl⟩ := hown.slice
  go_wp2_with fail
  refine (HS.out _ _ _).mono ?_; rintro e w2 ⟨rfl, rfl⟩
  go_wp2_with fail
  go_ret
  exact ⟨_, rfl, hown, hb⟩
set_option maxHeartbeats 1000000 in
set_option maxRecDepth 100000 in
theorem wait_small (S : Nat → Prop) (p : Nat) (s : List Int) (l : List MsgV) (hlen : l.length ≤ 1) (w : World) (h : BufAt S w p s l) :
    Calls Tryz.prog 14 #[.pointer (some ⟨p, 0, none⟩)] w fun e w' => ∃ v, e = .returned v ∧ msgE.Own w.heap.size w' v l ∧ Below w.heap.size w w' := by
  obtain ⟨v, hp, hown, -⟩ := h.ex
  obtain ⟨A, cap, rfl⟩ := hown.slice
  have c8 : w.cell? ⟨p, 8, none⟩ = some (.slice A l.length cap) := (cell_of_row w _ 8 _ _ _ hp).trans (bufC_last s _ h.len)
  have HV := Hd.mk (values_c A l.length cap w)
  have hb1 : Below w.heap.size w (w.alloc (.cells #[.slice A l.length cap] 49)) := (Below.refl _ w).alloc (Nat.le_refl _) _
  have HS := Hd.mk (sorted_small w.heap.size (.slice A l.length cap) l hlen (w.alloc (.cells #[.slice A l.length cap] 49)) (by simp) ((cell_of_row _ _ 0 _ _ _ (heap_alloc_new w _)).trans rfl) (hown.below hb1))
  have HB := Hd.mk hb1
  clear hp hown h hb1
  go_enter Tryz.func14, Tryz.ntmps14
  go_wp2_with fail
  refine HV.out.mono ?_; rintro e w1 ⟨rfl, rfl⟩
  clear c8 HV
  go_wp2_with fail
  refine HS.out.mono ?_; rintro e w2 ⟨v2, rfl, hown2, hb2⟩
  obtain ⟨A2, cap2, rfl⟩ := hown2.slice
  go_wp2_with fail
  go_ret
  exact ⟨_, rfl, own_base hown2 HB.out.size, below_step HB.out hb2⟩
end Go.Proofs.YtcgkkjfbdappoaaGreat
