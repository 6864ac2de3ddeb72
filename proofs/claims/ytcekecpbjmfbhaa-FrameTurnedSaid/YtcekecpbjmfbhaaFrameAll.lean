/- frame.All: its contract. -/
import Derived.Test.YtcekecpbjmfbhaaFrameEach
namespace Go.Proofs.Ytcekecpbjmfbhaa
open Go.RowKit Go.Shelf Pk Cr
set_option linter.unusedVariables false
set_option linter.unusedSimpArgs false
attribute [local go_sem] Oper.semAt_some

/-- Between two rounds. -/
def AllInv (w : World) (B : Nat) (s : List UInt8) (pre : List (List UInt8 × List UInt8)) (W : World) : Prop :=
  ∃ v, Boxed W w.heap.size 32 v ∧ OwnT B W v (strs (pre.map Prod.fst)) ∧ Boxed W (w.heap.size + 1) 9 (.string ⟨(leftF s pre).toArray⟩) ∧ Below w.heap.size w W ∧ B ≤ W.heap.size
theorem AllInv.turn {w : World} {B : Nat} {s : List UInt8} {pre : List (List UInt8 × List UInt8)} {A W : World} {row : Option Nat} (hB : w.heap.size + 3 ≤ B) (h : AllInv w B s pre A) (hg : A.grownBy W row)
    (hr : ∀ r, row = some r → r = w.heap.size + 2 ∨ (B ≤ r ∧ ∃ o : Obj, A.heap[r]? = some o ∧ o.isCells = false)) : AllInv w B s pre W := by
  obtain ⟨v, h1, h2, h3, h4, h5⟩ := h
  refine ⟨v, h1.kept hg (fun e => ?_), World.ownsRow.kept h2 hg ?_, h3.kept hg (fun e => ?_), h4.grown hg h4.size (fun k e => ?_), Nat.le_trans h5 hg.size⟩
  · rcases hr _ e.symm with e | ⟨e, -⟩ <;> omega
  · rcases h2.2 with ⟨rfl, _⟩ | ⟨g, cap, cur, rfl, hbg, hgb, _⟩
    · exact .inl rfl
    · refine .inr fun e => ?_
      have e' : row = some g := by simpa [Value.ownBlock] using e.symm
      rcases hr _ e' with e2 | ⟨e2, o, ho, hc⟩
      · omega
      · rw [hgb] at ho; cases ho; cases hc
  · rcases hr _ e.symm with e | ⟨e, -⟩ <;> omega
  · rcases hr _ e with e | ⟨e, -⟩ <;> omega
theorem wpListIn_push {F : Fence} {n : Nat} {ops : Array Oper} {rest : List Oper} {o : Oper} {a : Act} {Q : Exit → Act → World → Prop} {w : World} (hgd : o.guard = none) (sl x : Operand)
    (ho : o.op = .call { callee := .builtin .append, args := #[sl, x], argTypes := #[32, 32] }) (hty : o.type = 32) (base : Nat) (v : Value) (l : List ByteArray) (hs : a.eval sl = v) (hown : OwnT base w v l) (g : Nat) (b : ByteArray) (hx : a.eval x = .slice (some ⟨g, 0, none⟩) 1 1)
    (hg : w.heap[g]? = some (.cells #[.string b] 9 (0, 0))) (hn : l.length ≤ 1000000000000) (hbase : base ≤ w.heap.size)
    (h : ∀ v' w', OwnT base w' v' (l ++ [b]) → w.grownBy w' v.ownBlock → wpListIn F n Try.prog ops Q rest (a.put o.dst v') w') : wpListIn F n Try.prog ops Q (o :: rest) a w := by
  refine wpListIn_plain hgd fun K hK => ?_
  obtain ⟨v', w', hr, h2, h3⟩ := run_push hown g b hg hn hbase
  unfold Oper.wpIn
  refine ⟨?_, ?_⟩
  · simp [Oper.about, ho, resolve, Target.leads, Sem.run_pure]
  · rw [Oper.semAt_plain F _ _ (by rw [ho]; intro c hc; cases hc)]
    simp [execOp, ho, hty, resolve, invoke, builtin, hs, hx, hr, Result.andThen]
    exact hK _ _ (h v' w' h2 h3)

theorem OwnT.mono {B B' : Nat} {W : World} {v : Value} {l : List ByteArray} (h : OwnT B W v l) (hb : B' ≤ B) : OwnT B' W v l :=
  ⟨h.1, h.2.imp id fun ⟨g, cap, cur, h1, h2, h3⟩ => ⟨g, cap, cur, h1, Nat.le_trans hb h2, h3⟩⟩
theorem left_le (l : List UInt8) : (allF l).2.length ≤ l.length := by
  have h2 := congrArg List.length (allF_back l).1
  rw [List.length_append] at h2
  omega
theorem OwnT.block {B : Nat} {W : World} {v : Value} {l : List ByteArray} (h : OwnT B W v l) {k : Nat} (hk : k < B) : some k ≠ v.ownBlock := fun e => by
  have := (World.ownsRow.lt h k e.symm).1
  omega
/-- The boxes behind an append. -/
theorem AllInv.boxes {w : World} {s : List UInt8} {v : Value} {r : ByteArray} {l : List ByteArray} {W w2 : World} {o : Obj} (h1 : Boxed W w.heap.size 32 v) (h2 : OwnT (w.heap.size + 3) W v l) (h3 : Boxed W (w.heap.size + 1) 9 (.string r)) (g2 : (W.alloc o).grownBy w2 v.ownBlock) :
    Boxed w2 w.heap.size 32 v ∧ Boxed w2 (w.heap.size + 1) 9 (.string r) :=
  ⟨(h1.alloc o).kept g2 (h2.block (by omega)), (h3.alloc o).kept g2 (h2.block (by omega))⟩
theorem AllInv.step {w : World} {s : List UInt8} {pre : List (List UInt8 × List UInt8)} {x : List UInt8 × List UInt8} {v v2 : Value} {r : ByteArray} {W w2 : World} {o : Obj} (h1 : Boxed W w.heap.size 32 v) (h2 : OwnT (w.heap.size + 3) W v (strs (pre.map Prod.fst))) (h3 : Boxed W (w.heap.size + 1) 9 (.string r)) (h4 : Below w.heap.size w W) (h5 : w.heap.size + 3 ≤ W.heap.size)
    (g1 : OwnT (w.heap.size + 3) w2 v2 (strs (pre.map Prod.fst) ++ [⟨x.1.toArray⟩])) (g2 : (W.alloc o).grownBy w2 v.ownBlock) :
    KeepsOthers W ((w2.setCell ⟨w.heap.size, 0, none⟩ v2).setCell ⟨w.heap.size + 1, 0, none⟩ (.string ⟨x.2.toArray⟩)) ∧
    ((w2.setCell ⟨w.heap.size, 0, none⟩ v2).setCell ⟨w.heap.size + 1, 0, none⟩ (.string ⟨x.2.toArray⟩)).heap[w.heap.size + 2]? = W.heap[w.heap.size + 2]? ∧
    AllInv w (w.heap.size + 3) s (pre ++ [x]) ((w2.setCell ⟨w.heap.size, 0, none⟩ v2).setCell ⟨w.heap.size + 1, 0, none⟩ (.string ⟨x.2.toArray⟩)) := by
  obtain ⟨b1, b2⟩ := AllInv.boxes (s := s) h1 h2 h3 g2
  have hsize : w.heap.size + 3 ≤ w2.heap.size := by have := g2.size; simp at this; omega
  have hrow : ∀ (j : Nat) (o' : Obj), v.ownBlock = some j → (W.alloc o).heap[j]? = some o' → o'.isCells = true := by
    intro j o' hj ho
    rcases h2.2 with ⟨rfl, _⟩ | ⟨g, cap, cur, rfl, hbg, hgb, _⟩
    · cases hj
    · obtain rfl : g = j := by simpa [Value.ownBlock] using hj
      rw [heap_alloc_old _ _ (Array.getElem?_eq_some_iff.1 hgb).1, hgb] at ho
      cases ho; rfl
  refine ⟨((KeepsOthers.alloc W o).trans (KeepsOthers.of_grownBy g2 hrow)).trans ((KeepsOthers.setCell _ _ _).trans (KeepsOthers.setCell _ _ _)), ?_, v2, ?_, ?_, ?_, ?_, ?_⟩
  · rw [Below.heap_setCell _ _ _ _ (by show w.heap.size + 2 ≠ w.heap.size + 1; omega), Below.heap_setCell _ _ _ _ (by show w.heap.size + 2 ≠ w.heap.size; omega), g2.block _ (by simp; omega) (h2.block (by omega)), heap_alloc_old _ _ (by omega)]
  · exact (b1.set v2).kept (grownBy_setCell' _ _ _) (by simp)
  · have e : strs ((pre ++ [x]).map Prod.fst) = strs (pre.map Prod.fst) ++ [⟨x.1.toArray⟩] := by rw [List.map_append, strs_app]; rfl
    rw [e]
    have k1 := World.ownsRow.kept g1 (grownBy_setCell' w2 w.heap.size v2) (.inr (fun e => g1.block (k := w.heap.size) (by omega) e.symm))
    exact World.ownsRow.kept k1 (grownBy_setCell' _ (w.heap.size + 1) _) (.inr (fun e => g1.block (k := w.heap.size + 1) (by omega) e.symm))
  · rw [leftF_snoc]
    exact (b2.kept (grownBy_setCell' _ _ _) (by simp)).set _
  · have hb : Below w.heap.size w w2 := (h4.alloc h4.size o).grown g2 (by simp; omega) (fun k e => by have := (World.ownsRow.lt h2 k e).1; omega)
    exact (hb.setCell (p := ⟨w.heap.size, 0, none⟩) (Nat.le_refl _) _).setCell (p := ⟨w.heap.size + 1, 0, none⟩) (by simp) _
  · simpa using hsize

set_option maxHeartbeats 4000000 in
set_option maxRecDepth 100000 in
theorem frame_All (s : ByteArray) (hs : s.size ≤ 1000000) (w : World) :
    Calls Try.prog 19 #[.string s] w fun e w' => ∃ v, e = .returned (.tuple #[v, .int .i64 ((s.size - (allF s.data.toList).2.length : Nat) : Int)]) ∧ OwnT w.heap.size w' v (strs (allF s.data.toList).1) ∧ Below w.heap.size w w' := by
  refine (callsIn_wide (n := 5)).1 ?_
  refine callsIn_of_wp_marks Try.func19 rfl trivial ?_ rfl
  simp only [Try.ntmps19, List.size_toArray, List.length_cons, List.length_nil, Nat.reduceAdd, Nat.reduceSub, Array.replicate_succ, Array.replicate_zero, List.push_toArray, List.append_toArray, List.nil_append, List.cons_append]
  gi_wp2
  refine ⟨trivial, (callsIn_wide.2 (frame_each s _)).mono ?_⟩
  rintro e w1 ⟨rfl, rfl⟩
  gi_wp2
  obtain ⟨W0, hW0⟩ : ∃ W0, ((w.alloc (.cells #[.slice none 0 0] 32)).alloc (.cells #[.string s] 9)).alloc (.cells #[.string s] 9) = W0 := ⟨_, rfl⟩
  have hsz : W0.heap.size = w.heap.size + 3 := by rw [← hW0]; simp
  have hbs : Boxed W0 (w.heap.size + 2) 9 (.string s) := by
    have := Boxed.new ((w.alloc (.cells #[.slice none 0 0] 32)).alloc (.cells #[.string s] 9)) 9 (.string s)
    rw [hW0, World.size_alloc, World.size_alloc] at this
    exact this
  have hinv : AllInv w (w.heap.size + 3) s.data.toList [] W0 := by
    refine ⟨.slice none 0 0, ?_, OwnT.nil _ _, ?_, ?_, Nat.le_of_eq hsz.symm⟩
    · rw [← hW0]; exact ((Boxed.new w 32 _).alloc _).alloc _
    · have := (Boxed.new (w.alloc (.cells #[.slice none 0 0] 32)) 9 (.string s)).alloc (.cells #[.string s] 9)
      rw [hW0, World.size_alloc] at this
      exact this
    · rw [← hW0]; exact (((Below.refl _ w).alloc (Nat.le_refl _) _).alloc (by simp) _).alloc (by simp; omega) _
  rw [hW0]
  refine range_own_cell rfl (by omega) (gf := 70) (lb := #[.pointer (some ⟨w.heap.size + 1 + 1, 0, none⟩)]) rfl trivial (enters_of Try.func70 (by kernel_rfl) rfl) (encs := fun x : List UInt8 × List UInt8 => #[.string ⟨x.1.toArray⟩, .string ⟨x.2.toArray⟩]) (fun _ => rfl) (bs := w.heap.size + 2) (by omega) (S := CameAll s.data.toList) (N := s.size) ?seq
    (AllInv w (w.heap.size + 3) s.data.toList) (fun t A B row h hg hr => h.turn (Nat.le_refl _) hg (by rw [hsz] at hr; exact hr)) hinv
    (fun x => { tmps := #[.string s, undef, .slice none 0 0, .int .i64 0, .pointer (some ⟨w.heap.size, 0, none⟩), .pointer (some ⟨w.heap.size + 1, 0, none⟩), .string ⟨x.1.toArray⟩, .string ⟨x.2.toArray⟩, .string s, .string s, .func (.func 70) #[] #[.pointer (some ⟨w.heap.size + 1 + 1, 0, none⟩)], .string ⟨x.1.toArray⟩, .string ⟨x.2.toArray⟩, undef, undef, undef, undef, undef, undef, undef, undef, undef, undef, undef], defers := [] }) ?assign ?body ?done
  case seq =>
    intro l J W hb hJ hY h0
    exact each1_in 4 l (w.heap.size + 2) s hs J hJ hY W ((hb.block _ (by omega)).trans hbs) h0
  case assign =>
    intro l x W K hK
    gi_wp2
    exact hK
  case body =>
    rintro l pre x W ⟨v, h1, h2, h3, h4, h5⟩ hN
    obtain ⟨A, c, rfl⟩ := h2.slice
    have hc := h1.cell
    have hf := h1.frozen
    have hc2 := h3.cell
    have hf2 := h3.frozen
    gi_wp2_with (gi_at_builtin; refine wpListIn_push rfl _ _ rfl rfl (w.heap.size + 3) (.slice A (strs (pre.map Prod.fst)).length c) (strs (pre.map Prod.fst)) rfl (h2.below ((Below.refl _ _).alloc (Nat.le_refl _) _)) W.heap.size ⟨x.1.toArray⟩ rfl (heap_alloc_new _ _) (by rw [strs_len, List.length_map]; omega) (by simp; omega) ?_; intro v2 w2 g1 g2; obtain ⟨b1, b2⟩ := AllInv.boxes (s := s.data.toList) h1 h2 h3 g2; have hc3 := b1.cell; have hf3 := b1.frozen; have hc4 := b2.cell; have hf4 := b2.frozen; obtain ⟨A2, c2, rfl⟩ := g1.slice; rw [List.length_append, List.length_singleton] at g1)
    exact AllInv.step h1 h2 h3 h4 h5 g1 g2
  case done =>
    rintro D xs W hD ⟨hx1, hx2⟩ ⟨v, h1, h2, h3, h4, h5⟩ hK
    have hc := h1.cell
    have hc2 := h3.cell
    gi_wp2
    have hle : (allF s.data.toList).2.length ≤ s.size := left_le s.data.toList
    have hw : wrap64 ((s.size : Int) - ((allF s.data.toList).2.length : Int)) = ((s.size - (allF s.data.toList).2.length : Nat) : Int) := by unfold wrap64; omega
    gi_quiet (fail)
    all_goals
      gi_wp2
      have hK' : (W.drewN nq).heap[D]? = some (.deferred (some [])) := hK
      refine ⟨by simp, .inl ⟨_, _, rfl, run_takeDeferred hK', ?_⟩⟩
      have e : ((s.size : Int) - ((allF s.data.toList).2.length : Int)) = ((s.size - (allF s.data.toList).2.length : Nat) : Int) := by omega
      refine ⟨_, results_tmp2 rfl _ _ _, v, by rw [← e]; rfl, ?_, ?_⟩
      · have h6 : OwnT (w.heap.size + 3) (W.drewN nq) v (strs (xs.map Prod.fst)) := h2
        rw [hx1] at h6
        exact OwnT.mono (ownsRow_putObj h6 _ hK' rfl) (by omega)
      · have h7 : Below w.heap.size w (W.drewN nq) := h4.trans ((below_drewN W nq).mono h4.size)
        exact h7.trans (belowK_b (w := w) (Nat.le_refl _) (W.drewN nq) D _ _ (by omega) hK' rfl rfl)
end Go.Proofs.Ytcekecpbjmfbhaa
