/- The law CausalOnce: the walk. -/
import Derived.Test.YtcgkkjfbdappoaaCauShown
import Derived.Test.YtcgkkjfbdappoaaMsgOpen
namespace Go.Proofs.Ytcgkkjfbdappoaa.causalOnce
open Go.RowKit Go.Proofs.YtcgkkjfbdappoaaW.PrintWords Go.Proofs.YtcgkkjfbdappoaaW.PrintLast Go.Proofs.YtcgkkjfbdappoaaW.PrintMore
set_option linter.unusedVariables false
set_option linter.unusedSimpArgs false

theorem eqV_self (u : List Int) : eqV u u = true := by unfold eqV; simp
/-- A store into a block that isn't the buffer's. -/
theorem buf_other {S : Nat → Prop} {w : World} {p : Nat} {s : List Int} {l : List MsgV} (h : BufAt S w p s l) {q : Addr} (hq : S q.block) (x : Value) : BufAt S (w.setCell q x) p s l := by
  obtain ⟨v, h1, h2, h3⟩ := h.ex
  exact ⟨⟨v, (Below.heap_setCell w q x p (fun e => h.np (by rw [e]; exact hq))).trans h1, own_keep h2 (fun k hk => Below.heap_setCell w q x k (fun e => (h3 k hk).1 (by rw [e]; exact hq))), h3⟩, h.np, fun k hk => by have := h.bd k hk; simpa [World.setCell] using this, h.len⟩
/-- What holds all along. -/
structure Inv (w : World) (p pv n : Nat) (W : World) (s : List Int) (l : List MsgV) : Prop where
  buf : BufAt (fun k => k < w.heap.size ∨ k = pv) W p s l
  v : W.heap[pv]? = some (.cells (vec s) 26 (0, 0))
  bel : Below w.heap.size w W
  fine : ∀ m ∈ l, m.fine = true
  small : ∀ m ∈ l, m.dt.size ≤ 140737488355328
  len : l.length ≤ n
theorem Inv.call {w W W' : World} {p pv n : Nat} {s : List Int} {l : List MsgV} (h : Inv w p pv n W s l) (hb : Below W.heap.size W W') : Inv w p pv n W' s l :=
  ⟨h.buf.call hb, (hb.block _ (lt_of h.v)).trans h.v, below_step h.bel hb, h.fine, h.small, h.len⟩
theorem keep_below {w W W' : World} {pv : Nat} (h : KeepOn (fun k => k < w.heap.size ∨ k = pv) W W') : Below w.heap.size W W' := ⟨h.os, h.tape, h.output, h.size, fun k hk => h.block k (Or.inl hk)⟩
theorem Inv.offer {w W W' : World} {p pv n : Nat} {s : List Int} {l : List MsgV} {m : MsgV} (hd : m.dt.size ≤ 140737488355328) (h : Inv w p pv n W s l) (hb : BufAt (fun k => k < w.heap.size ∨ k = pv) W' p s (if offB s l m then l ++ [m] else l)) (hk : KeepOn (fun k => k < w.heap.size ∨ k = pv) W W') : ∃ l', Inv w p pv (n + 1) W' s l' := by
  refine ⟨_, hb, (hk.block pv (Or.inr rfl)).trans h.v, h.bel.trans (keep_below hk), ?_, ?_, ?_⟩
  · intro x hx
    split at hx
    · rename_i ho
      rcases List.mem_append.1 hx with hx | hx
      · exact h.fine x hx
      · obtain rfl := List.mem_singleton.1 hx
        unfold offB at ho
        simp only [Bool.and_eq_true] at ho
        exact ho.1.1
    · exact h.fine x hx
  · intro x hx
    split at hx
    · rcases List.mem_append.1 hx with hx | hx
      · exact h.small x hx
      · obtain rfl := List.mem_singleton.1 hx
        exact hd
    · exact h.small x hx
  · have := h.len
    split
    · simp; omega
    · omega
theorem run_loadVar_at {P : Program} (w : World) (ad : Addr) (ty : TypeId) (cs : List Value) (d : TypeDesc) (hc : ∀ j v, cs[j]? = some v → w.cell? (ad.add j) = some v)
    (hu : P.underlying ty = some d) (hd : d.isRow = true) (hi : (P.info? ty).map (·.size) = some cs.length) : (loadVar ty ad).run P w = .ok (.agg cs.toArray) w := by
  have hl : (loadCells ad cs.length).run P w = .ok cs.toArray w := run_loadCells_list (P := P) w ad cs hc
  cases hq : P.info? ty with
  | none => simp [hq] at hi
  | some i =>
    have hs : i.size = cs.length := by simpa [hq] using hi
    have hagg : (isAgg ty).run P w = .ok true w := by
      unfold isAgg
      rw [Sem.run_bind, run_underlying hu w]
      cases d <;> simp_all
    simp [loadVar, Sem.run_bind, hagg, sizeOf, typeInfo, hq, hs, hl]
theorem wpList_load_at {P : Program} {ops : Array Oper} {rest : List Oper} {op : Oper} {a : Act} {w : World} {Q : Exit → Act → World → Prop} (hgd : op.guard = none) (ty : TypeId) (x : Operand) (ho : op.op = .load ty x)
    (ad : Addr) (hx : a.eval x = .pointer (some ad)) (cs : List Value) (d : TypeDesc) (hc : ∀ j v, cs[j]? = some v → w.cell? (ad.add j) = some v)
    (hu : P.underlying ty = some d) (hd : d.isRow = true) (hi : (P.info? ty).map (·.size) = some cs.length)
    (h : wpList P ops Q rest (a.put op.dst (.agg cs.toArray)) w) : wpList P ops Q (op :: rest) a w := by
  refine wpList_plain hgd fun K hK => ?_
  unfold Oper.wp execOp
  simp only [ho, hx, Instr.loadAt, Instr.sureAddr, Sem.run_bind, Sem.run_pure, Result.andThen_ok, run_loadVar_at w ad ty cs d hc hu hd hi]
  exact hK _ _ h
theorem refmsg_size : (Try.prog.info? 37).map (·.size) = some 22 := by kernel_rfl
theorem are_at {w : World} {a : Addr} {n cap : Nat} {l : List MsgV} (h : refMsgE.Are w (.slice (some a) n cap) l) {j : Nat} {x : MsgV} (hx : l[j]? = some x) : ∀ i u, (msgC x).toList[i]? = some u → w.cell? ((a.add (j * 22)).add i) = some u := fun i u hu => by
  obtain ⟨b, e, hc⟩ := h.at hx
  cases e
  rw [Deep.add_add]
  exact hc i u hu
/-- The number of this replica has become one more, in the law's own vector too. -/
theorem lay_up {w w7 X : World} {p pv rr : Nat} {u s2 : List Int} {lf : List MsgV} {m : MsgV} {q : Int} (hX : Holds w7 [(w7.heap.size, .cells (msgC m) 34 (0, 0))] X) (hb : BufAt (fun k => k < w.heap.size ∨ k = pv) w7 p u lf) (hbel : Below w.heap.size w w7) (hv : w7.heap[pv]? = some (.cells (vec s2) 26 (0, 0))) (hu : u = s2.set rr q) (hpv : w.heap.size ≤ pv) :
    BufAt (fun k => k < w.heap.size ∨ k = pv) (X.setCell ⟨pv, rr, none⟩ (.int .i64 q)) p u lf ∧ (X.setCell ⟨pv, rr, none⟩ (.int .i64 q)).heap[pv]? = some (.cells (vec u) 26 (0, 0)) ∧ Below w.heap.size w (X.setCell ⟨pv, rr, none⟩ (.int .i64 q)) ∧ (X.setCell ⟨pv, rr, none⟩ (.int .i64 q)).heap[w7.heap.size]? = some (.cells (msgC m) 34 (0, 0)) := by
  have hpl := lt_of hv
  refine ⟨buf_other (hb.call hX.2) (Or.inr rfl) _, ?_, (below_step hbel hX.2).setCell hpv _, (heap_setCell_other _ _ _ _ (by show w7.heap.size ≠ pv; omega)).trans (hX.get 0 rfl)⟩
  rw [hu, ← vec_set]
  exact heap_setCell_same _ _ _ _ _ _ ((hX.2.block pv hpl).trans hv)
/-- What is known of a message that is ready. -/
theorem ready_known {s : List Int} {m : MsgV} (hs : s.length = 8) (h : rdyB s m = true) (hf : m.fine = true) : ∃ (rr : Nat) (sr : Int), rr < 8 ∧ m.r = (rr : Int) ∧ s[rr]? = some sr ∧ sr + 1 = m.q ∧ wrap64 (sr + 1) = m.q ∧ covL s m.deps = true ∧ nth s (rr : Int) = sr := by
  obtain ⟨rr, h8, hr⟩ := may_rep (fine_may hf)
  have hsr := nth_at hs h8
  unfold rdyB readyV at h
  simp only [Bool.and_eq_true, decide_eq_true_eq] at h
  obtain ⟨⟨⟨⟨h1, h2⟩, h3⟩, h4⟩, h5⟩ := h
  unfold MsgV.fine at hf
  simp only [Bool.and_eq_true, decide_eq_true_eq] at hf
  rw [hr] at h3
  refine ⟨rr, _, h8, hr, hsr, by omega, ?_, h5, rfl⟩
  rw [show nth s (rr : Int) + 1 = m.q by omega]
  unfold wrap64
  omega
theorem up_at {s : List Int} {rr : Nat} {sr q : Int} (hs : s.length = 8) (h8 : rr < 8) (hn : nth s (rr : Int) = sr) (hw : wrap64 (sr + 1) = q) : upV s rr = s.set rr q ∧ (upV s rr).getD rr 0 = q := by
  have e : upV s rr = s.set rr q := by unfold upV; rw [hn, hw]
  refine ⟨e, ?_⟩
  rw [e, List.getD_eq_getElem?_getD, List.getElem?_set_self (by omega)]
  rfl
set_option maxHeartbeats 4000000 in
set_option maxRecDepth 100000 in
theorem law_CausalOnce {A : Option Addr} {cap : Nat} {l : List MsgV} {v : Value} {w : World} (hl : IsMsgs w v A cap l) : Calls Try.prog 3 #[v] w fun e w' => e = .returned (.bool true) ∧ Below w.heap.size w w' := by
  obtain ⟨rfl, hare, hsz⟩ := hl
  have HA := Hd.mk (⟨hare, hsz⟩ : _ ∧ _)
  have HS := Hd.mk (cau_shown w)
  have HN := Hd.mk (fun w => cau_New zero8 rfl (by kernel_rfl) w)
  clear hare hsz
  go_enter Try.func3, Try.ntmps3
  go_wp2_with fail
  refine HS.out.mono ?_; rintro e w1 ⟨rfl, hb1⟩
  have HB1 := Hd.mk hb1
  clear HS hb1
  go_wp2_with (first | ((with_reducible refine gate_dst (N := 12) rfl ?_); refine wpList_buildB rfl _ _ rfl #[] rfl (.agg (vec zero8)) (run_build _ _ _ _ (by kernel_rfl)) ?_))
  refine (HN.out _).mono ?_; rintro e w2 ⟨p, rfl, hN⟩
  have HPV : Hd (w.heap.size ≤ w2.heap.size) := ⟨Nat.le_trans HB1.out.size hN.1.2.size⟩
  have HI0 : Hd (Inv w p w2.heap.size 0 (w2.alloc (.cells (vec zero8) 26 (0, 0))) zero8 []) := by
    have h1 := hN.1.2
    have h2 := HB1.out
    have hpl := hN.1.lt 0 rfl
    have hne : p ≠ w2.heap.size := by omega
    have hpw : w.heap.size ≤ p := Nat.le_trans h2.size hN.2.1
    have hb : Below w.heap.size w w2 := h2.trans (h1.mono h2.size)
    refine ⟨⟨⟨_, (heap_alloc_old _ _ hpl).trans (hN.1.get 0 rfl), Elt.Own.nil 0 _, fun k hk => by cases hk⟩, fun h => h.elim (by omega) (fun e => hne e), fun k hk => ?_, rfl⟩, heap_alloc_new _ _, hb.alloc hb.size _, by simp, by simp, Nat.le_refl _⟩
    have := hb.size
    simp
    rcases hk with hk | hk <;> omega
  clear HN hN HB1
  go_upto_region 6 with (fail)
  refine world_gen (fun W => Inv w p w2.heap.size 0 W zero8 []) HI0.out (fun W hW => ?_)
  have HW := Hd.mk hW
  clear hW HI0
  generalize w2.heap.size = pv at *
  go_wp2_with fail
  go_loopg [6] 100 (fun kq v6 w' => ∃ i : Nat, v6 = .int .i64 (i : Int) ∧ Hd (kq + i = 100 ∧ ∃ s l', Inv w p pv i w' s l'))
  case atStart => exact ⟨0, rfl, ⟨by omega, zero8, [], HW.out⟩⟩
  case round =>
    clear HW
    obtain ⟨i, rfl, HR⟩ := hrel
    obtain ⟨hki, s, lb, hinv⟩ := HR.out
    have HIN := Hd.mk hinv
    have HKI := Hd.mk hki
    clear hinv hki HR
    by_cases h1 : i < l.length
    · have e1 : (i : Int) < (l.length : Int) := by omega
      by_cases h2 : i < 100
      · have e2 : (i : Int) < 100 := by omega
        obtain ⟨x, hx⟩ : ∃ x, l[i]? = some x := ⟨_, List.getElem?_eq_getElem h1⟩
        obtain ⟨a, rfl, -⟩ := HA.out.1.at hx
        have HX := Hd.mk (are_at (HA.out.1.keep (HIN.out.bel)) hx)
        have HMd := Hd.mk (fun w => (msg_made x w : Calls Try.prog 9 #[.agg (msgC x)] w fun e w' => e = .returned (.agg (msgC x)) ∧ Below w.heap.size w w'))
        have hdt := (HA.out.2 x (List.mem_of_getElem? hx)).2.2.1
        have HOf := Hd.mk (fun w' (hb : Below wr.heap.size wr w') => buf_Offer _ p s lb x (by omega) (by have := HIN.out.len; omega) w' (HIN.out.buf.call hb))
        have HH := Hd.mk h2
        obtain ⟨i2, hi2⟩ : ∃ i2 : Nat, i2 = i + 1 := ⟨_, rfl⟩
        have HI2 := Hd.mk hi2
        clear hi2
        have HDT := Hd.mk (show x.dt.size ≤ 140737488355328 by omega)
        clear hx hdt h2
        generalize hln : l.length = n at *
        clear hln
        go_wp2_with (first | ((with_reducible refine gate_dst (N := 30) rfl ?_); refine wpList_load_at rfl 37 _ rfl (a.add (i * 22)) rfl (msgC x).toList _ HX.out Try.underlying37 rfl refmsg_size ?_))
        refine (HMd.out _).mono ?_; rintro e w4 ⟨rfl, hb4⟩
        have HO4 := Hd.mk (HOf.out w4 hb4)
        have HI4 := Hd.mk (HIN.out.call hb4)
        clear HOf hb4 HMd HX HIN
        go_wp2_with fail
        refine HO4.out.mono ?_; rintro e w5 ⟨rfl, hbuf, hk⟩
        obtain ⟨lc, hi5⟩ := Inv.offer HDT.out HI4.out hbuf hk
        have HI5 := Hd.mk hi5
        clear hbuf hk hi5 HO4 HI4
        go_wp2_with fail
        go_loopg [7] 100 (fun kq v7 w' => ∃ k : Nat, v7 = .int .i64 (k : Int) ∧ Hd (kq + k = 100 ∧ ∃ s l', Inv w p pv i2 w' s l'))
        case atStart => exact ⟨0, rfl, ⟨by omega, s, lc, by rw [HI2.out]; exact HI5.out⟩⟩
        case round =>
          clear HI5
          obtain ⟨k, rfl, HR⟩ := hrel
          obtain ⟨hkk, s2, ld, hinv⟩ := HR.out
          have HI6 := Hd.mk hinv
          have HKK := Hd.mk hkk
          clear hinv hkk HR
          have hi1 : wrap64 (i2 : Int) = (i2 : Int) := by have := HH.out; have := HI2.out; unfold wrap64; omega
          have hi2 : (i : Int) + 1 = (i2 : Int) := by have := HI2.out; omega
          by_cases h3 : k < 100
          · have e3 : (k : Int) < 100 := by omega
            have HNx := Hd.mk (buf_Next _ p s2 ld (by have := HI6.out.len; have := HI2.out; have := HH.out; omega) HI6.out.fine _ HI6.out.buf)
            obtain ⟨k2, hk2⟩ : ∃ k2 : Nat, k2 = k + 1 := ⟨_, rfl⟩
            have f1 : (k : Int) + 1 = (k2 : Int) := by omega
            have f2 : wrap64 (k2 : Int) = (k2 : Int) := by unfold wrap64; omega
            have HKq := Hd.mk (⟨hk2, h3⟩ : _ ∧ _)
            clear hk2 h3
            go_wp2_with fail
            refine HNx.out.mono ?_
            rintro e w7 ⟨hk7, ⟨-, rfl, hbuf⟩ | ⟨m, hm, -, rfl, hbuf⟩⟩
            · have HI7 : Hd (Inv w p pv i2 w7 s2 ld) := ⟨⟨hbuf, (hk7.block pv (Or.inr rfl)).trans HI6.out.v, HI6.out.bel.trans (keep_below hk7), HI6.out.fine, HI6.out.small, HI6.out.len⟩⟩
              clear HNx hk7 hbuf HI6
              go_upto_region 14 with (first | ((with_reducible refine gate_store (t := 34) rfl ?_); refine wpList_store_row rfl _ _ _ rfl w7.heap.size (msgC MsgV.zero) rfl rfl 34 _ (heap_alloc_new w7 _) msg_size rfl (msgC_one MsgV.zero) ?_))
              refine world_gen (fun W => Holds w7 [(w7.heap.size, .cells (msgC MsgV.zero) 34 (0, 0))] W) ((Holds.nil w7).made _ (msgC MsgV.zero) 34) (fun W8 hK => ?_)
              have HI8 := Hd.mk (HI7.out.call hK.2)
              clear hK HI7
              go_wp2_with fail
              go_roundg (99 - i)
              case measure => have := HKI.out; have := HH.out; omega
              case rel => exact ⟨i2, by first | rfl | rw [hi1], ⟨by have := HH.out; have := HI2.out; omega, _, _, HI8.out⟩⟩
            · have hm2 := List.mem_filter.1 hm
              have hmf := HI6.out.fine m hm2.1
              obtain ⟨rr, sr, hr8, hrr, hsr, hsq, hwq, hcov, hnt⟩ := ready_known HI6.out.buf.len hm2.2 hmf
              have hup := up_at HI6.out.buf.len hr8 hnt hwq
              have hsl := HI6.out.buf.len
              have hul : (upV s2 rr).length = 8 := by rw [upV_len]; exact hsl
              rw [hrr, Int.toNat_natCast] at hbuf
              have HM := Hd.mk (⟨hmf, hrr, hr8, HI6.out.small m hm2.1⟩ : _ ∧ _ ∧ _ ∧ _)
              have HU := Hd.mk hup
              have HUL := Hd.mk hul
              have HSL := Hd.mk hsl
              have HSR := Hd.mk (vec_at hsr)
              have HCv := Hd.mk (vec_Covers s2 m.deps hsl rfl)
              rw [hcov] at HCv
              have HV7 := Hd.mk ((hk7.block pv (Or.inr rfl)).trans HI6.out.v)
              have HB7 : Hd (BufAt (fun k => k < w.heap.size ∨ k = pv) w7 p (upV s2 rr) (ld.filter fun x => !sameM x m) ∧ Below w.heap.size w w7) := ⟨hbuf, HI6.out.bel.trans (keep_below hk7)⟩
              have HLf : Hd ((∀ x ∈ (ld.filter fun x => !sameM x m), x.fine = true) ∧ (∀ x ∈ (ld.filter fun x => !sameM x m), x.dt.size ≤ 140737488355328) ∧ (ld.filter fun x => !sameM x m).length ≤ i2) := ⟨fun x hx => HI6.out.fine x (List.mem_filter.1 hx).1, fun x hx => HI6.out.small x (List.mem_filter.1 hx).1, Nat.le_trans (List.length_filter_le _ _) HI6.out.len⟩
              have hg0 : decide ((rr : Int) < 0) = false := decide_eq_false (by omega)
              have hg7 : decide ((7 : Int) < (rr : Int)) = false := decide_eq_false (by omega)
              have hwq2 : wrap64 m.q = m.q := by rw [← hsq]; rw [hsq]; rw [← hsq]; exact hwq.trans hsq.symm
              have hwq3 : IntKind.i64.wrap m.q = m.q := by rw [IntKind.wrap_i64]; unfold wrap64 at hwq2; omega
              clear hwq
              have hg8 : (rr : Int) < 8 := by omega
              have hg9 : (0 : Int) ≤ (rr : Int) := by omega
              clear HNx hk7 hbuf HI6 hm hm2 hmf hr8 hrr hsr hcov hnt hup hsl hul
              generalize hlf : (ld.filter fun x => !sameM x m) = lf at *
              generalize huv : upV s2 rr = u at *
              clear hlf huv
              go_upto_region 15 with (first | ((with_reducible refine gate_store (t := 34) rfl ?_); refine wpList_store_row rfl _ _ _ rfl w7.heap.size (msgC m) rfl rfl 34 _ (heap_alloc_new w7 _) msg_size rfl (msgC_one m) ?_))
              refine world_gen (fun W => Holds w7 [(w7.heap.size, .cells (msgC m) 34 (0, 0))] W) ((Holds.nil w7).made _ (msgC m) 34) (fun W8 hK => ?_)
              have K8 := Hd.mk hK
              have c10 : W8.cell? ⟨w7.heap.size, 10, none⟩ = some (.int .i64 (rr : Int)) := (cell_of_row W8 _ 10 _ _ _ (hK.get 0 rfl)).trans (by rw [← HM.out.2.1]; rfl)
              clear hK
              go_upto_region 16 with (fail)
              clear c10
              refine start_ (n := 22) (S := fun W_ => Holds w7 [(w7.heap.size, .cells (msgC m) 34 (0, 0))] W_) (ds := []) #[false, false, false, false, false, false, false, false, false, false, false, false, false, false, false, false, false, false, false, false, false, false] (by kernel_rfl) rfl rfl (K8.out.drew) (fun hHeld => ?_)
              refine pure_ (i := 0) (N := some 48) (v := ?_) (a' := ?_) #[true, false, false, false, false, false, false, false, false, false, false, false, false, false, false, false, false, false, false, false, false, false] rfl rfl (by kernel_rfl) (fun _ _ _ h => h) (Or.inl ⟨by rfl, ?_⟩) ?_ ?_
              rotate_left
              · intro w_
                go_simp
                try with_reducible rfl
              rotate_left
              · simp only [Act.put, List.setIfInBounds_toArray, List.set_cons_zero, List.set_cons_succ]
                rfl
              refine pure_ (i := 1) (N := some 49) (v := ?_) (a' := ?_) #[true, true, false, false, false, false, false, false, false, false, false, false, false, false, false, false, false, false, false, false, false, false] rfl rfl (by kernel_rfl) (fun _ _ _ h => h) (Or.inl ⟨by rfl, ?_⟩) ?_ ?_
              rotate_left
              · intro w_
                go_simp
                try with_reducible rfl
              rotate_left
              · simp only [Act.put, List.setIfInBounds_toArray, List.set_cons_zero, List.set_cons_succ]
                rfl
              refine pure_ (i := 2) (N := some 50) (v := ?_) (a' := ?_) #[true, true, true, false, false, false, false, false, false, false, false, false, false, false, false, false, false, false, false, false, false, false] rfl rfl (by kernel_rfl) (fun _ _ _ h => h) (Or.inl ⟨by rfl, ?_⟩) ?_ ?_
              rotate_left
              · intro w_
                go_simp
                try with_reducible rfl
              rotate_left
              · simp only [Act.put, List.setIfInBounds_toArray, List.set_cons_zero, List.set_cons_succ]
                rfl
              refine pure_ (i := 3) (N := some 51) (v := ?_) (a' := ?_) #[true, true, true, true, false, false, false, false, false, false, false, false, false, false, false, false, false, false, false, false, false, false] rfl rfl (by kernel_rfl) (fun _ _ _ h => h) (Or.inl ⟨by rfl, ?_⟩) ?_ ?_
              rotate_left
              · intro w_
                go_simp
                try with_reducible rfl
              rotate_left
              · simp only [Act.put, List.setIfInBounds_toArray, List.set_cons_zero, List.set_cons_succ]
                rfl
              refine pure_ (i := 4) (N := some 52) (v := ?_) (a' := ?_) #[true, true, true, true, true, false, false, false, false, false, false, false, false, false, false, false, false, false, false, false, false, false] rfl rfl (by kernel_rfl) (fun _ _ _ h => h) (Or.inl ⟨by rfl, ?_⟩) ?_ ?_
              rotate_left
              · intro w_
                go_simp
                try with_reducible rfl
              rotate_left
              · simp only [Act.put, List.setIfInBounds_toArray, List.set_cons_zero, List.set_cons_succ]
                rfl
              refine pure_ (i := 5) (N := some 53) (v := ?_) (a' := ?_) #[true, true, true, true, true, true, false, false, false, false, false, false, false, false, false, false, false, false, false, false, false, false] rfl rfl (by kernel_rfl) (fun _ _ _ h => h) (Or.inl ⟨by rfl, ?_⟩) ?_ ?_
              rotate_left
              · intro w_
                go_simp
                try with_reducible rfl
              rotate_left
              · simp only [Act.put, List.setIfInBounds_toArray, List.set_cons_zero, List.set_cons_succ]
                rfl
              refine pure_ (i := 6) (N := some 54) (v := ?_) (a' := ?_) #[true, true, true, true, true, true, true, false, false, false, false, false, false, false, false, false, false, false, false, false, false, false] rfl rfl (by kernel_rfl) (fun _ _ _ h => h) (Or.inl ⟨by rfl, ?_⟩) ?_ ?_
              rotate_left
              · intro w_
                go_simp
                try with_reducible rfl
              rotate_left
              · simp only [Act.put, List.setIfInBounds_toArray, List.set_cons_zero, List.set_cons_succ]
                rfl
              refine pure_ (i := 7) (N := some 55) (v := ?_) (a' := ?_) #[true, true, true, true, true, true, true, true, false, false, false, false, false, false, false, false, false, false, false, false, false, false] rfl rfl (by kernel_rfl) (fun _ _ _ h => h) (Or.inl ⟨by rfl, ?_⟩) ?_ ?_
              rotate_left
              · intro w_
                go_simp
                try with_reducible rfl
              rotate_left
              · simp only [Act.put, List.setIfInBounds_toArray, List.set_cons_zero, List.set_cons_succ]
                rfl
              refine take_ (i := 8) (N := some 56) (v := .int .i64 m.q) (a' := ?_) #[true, true, true, true, true, true, true, true, true, false, false, false, false, false, false, false, false, false, false, false, false, false] rfl rfl (by kernel_rfl) (fun _ _ _ h => h) (Or.inl ⟨by rfl, fun w' h => by have c : w'.cell? ⟨w7.heap.size, 0, none⟩ = some (.int .i64 m.q) := (cell_of_row w' _ 0 _ _ _ (h.get 0 rfl)).trans rfl; go_simp⟩) hHeld ?_ ?_
              rotate_left
              · simp only [Act.put, List.setIfInBounds_toArray, List.set_cons_zero, List.set_cons_succ]
                rfl
              refine pure_ (i := 9) (N := some 57) (v := ?_) (a' := ?_) #[true, true, true, true, true, true, true, true, true, true, false, false, false, false, false, false, false, false, false, false, false, false] rfl rfl (by kernel_rfl) (fun _ _ _ h => h) (Or.inl ⟨by rfl, ?_⟩) ?_ ?_
              rotate_left
              · intro w_
                go_simp
                try with_reducible rfl
              rotate_left
              · simp only [Act.put, List.setIfInBounds_toArray, List.set_cons_zero, List.set_cons_succ]
                rfl
              refine pure_ (i := 10) (N := some 58) (v := ?_) (a' := ?_) #[true, true, true, true, true, true, true, true, true, true, true, false, false, false, false, false, false, false, false, false, false, false] rfl rfl (by kernel_rfl) (fun _ _ _ h => h) (Or.inl ⟨by rfl, ?_⟩) ?_ ?_
              rotate_left
              · intro w_
                go_simp
                try with_reducible rfl
              rotate_left
              · simp only [Act.put, List.setIfInBounds_toArray, List.set_cons_zero, List.set_cons_succ]
                rfl
              refine take_ (i := 11) (N := some 59) (v := .int .i64 sr) (a' := ?_) #[true, true, true, true, true, true, true, true, true, true, true, true, false, false, false, false, false, false, false, false, false, false] rfl rfl (by kernel_rfl) (fun _ _ _ h => h) (Or.inl ⟨by rfl, fun w' h => by have c : w'.cell? ⟨pv, rr, none⟩ = some (.int .i64 sr) := (cell_of_row w' _ rr _ _ _ ((h.2.block pv (lt_of HV7.out)).trans HV7.out)).trans HSR.out; go_simp⟩) hHeld ?_ ?_
              rotate_left
              · simp only [Act.put, List.setIfInBounds_toArray, List.set_cons_zero, List.set_cons_succ]
                rfl
              refine pure_ (i := 12) (N := some 60) (v := ?_) (a' := ?_) #[true, true, true, true, true, true, true, true, true, true, true, true, true, false, false, false, false, false, false, false, false, false] rfl rfl (by kernel_rfl) (fun _ _ _ h => h) (Or.inl ⟨by rfl, ?_⟩) ?_ ?_
              rotate_left
              · intro w_
                go_simp
                try with_reducible rfl
              rotate_left
              · simp only [Act.put, List.setIfInBounds_toArray, List.set_cons_zero, List.set_cons_succ]
                rfl
              refine pure_ (i := 13) (N := some 61) (v := ?_) (a' := ?_) #[true, true, true, true, true, true, true, true, true, true, true, true, true, true, false, false, false, false, false, false, false, false] rfl rfl (by kernel_rfl) (fun _ _ _ h => h) (Or.inl ⟨by rfl, ?_⟩) ?_ ?_
              rotate_left
              · intro w_
                go_simp
                try with_reducible rfl
              rotate_left
              · simp only [Act.put, List.setIfInBounds_toArray, List.set_cons_zero, List.set_cons_succ]
                rfl
              refine pure_ (i := 14) (N := some 62) (v := ?_) (a' := ?_) #[true, true, true, true, true, true, true, true, true, true, true, true, true, true, true, false, false, false, false, false, false, false] rfl rfl (by kernel_rfl) (fun _ _ _ h => h) (Or.inl ⟨by rfl, ?_⟩) ?_ ?_
              rotate_left
              · intro w_
                go_simp
                try with_reducible rfl
              rotate_left
              · simp only [Act.put, List.setIfInBounds_toArray, List.set_cons_zero, List.set_cons_succ]
                rfl
              refine pure_ (i := 15) (N := some 63) (v := ?_) (a' := ?_) #[true, true, true, true, true, true, true, true, true, true, true, true, true, true, true, true, false, false, false, false, false, false] rfl rfl (by kernel_rfl) (fun _ _ _ h => h) (Or.inl ⟨by rfl, ?_⟩) ?_ ?_
              rotate_left
              · intro w_
                go_simp
                try with_reducible rfl
              rotate_left
              · simp only [Act.put, List.setIfInBounds_toArray, List.set_cons_zero, List.set_cons_succ]
                rfl
              refine take_ (i := 16) (N := some 64) (v := .agg (vec s2)) (a' := ?_) #[true, true, true, true, true, true, true, true, true, true, true, true, true, true, true, true, true, false, false, false, false, false] rfl rfl (by kernel_rfl) (fun _ _ _ h => h) (Or.inl ⟨by rfl, fun w' h => run_load_rangeC 26 _ rfl pv 0 (vec s2).toList rfl (range_ofC ((h.2.block pv (lt_of HV7.out)).trans HV7.out) 0 _ (fun j v hj => by simpa using hj)) _ Try.underlying26 rfl (by rw [Array.length_toList, vec_size, HSL.out]; exact size_e8)⟩) hHeld ?_ ?_
              rotate_left
              · simp only [Act.put, List.setIfInBounds_toArray, List.set_cons_zero, List.set_cons_succ]
                rfl
              refine pure_ (i := 17) (N := some 65) (v := ?_) (a' := ?_) #[true, true, true, true, true, true, true, true, true, true, true, true, true, true, true, true, true, true, false, false, false, false] rfl rfl (by kernel_rfl) (fun _ _ _ h => h) (Or.inl ⟨by rfl, ?_⟩) ?_ ?_
              rotate_left
              · intro w_
                go_simp
                try with_reducible rfl
              rotate_left
              · simp only [Act.put, List.setIfInBounds_toArray, List.set_cons_zero, List.set_cons_succ]
                rfl
              refine take_ (i := 18) (N := some 66) (v := .agg (vec m.deps)) (a' := ?_) #[true, true, true, true, true, true, true, true, true, true, true, true, true, true, true, true, true, true, true, false, false, false] rfl rfl (by kernel_rfl) (fun _ _ _ h => h) (Or.inl ⟨by rfl, fun w' h => run_load_rangeC 27 _ rfl w7.heap.size 1 (vec m.deps).toList rfl (range_ofC (h.get 0 rfl) 1 _ (msg_deps m)) _ Try.underlying27 rfl size_vec⟩) hHeld ?_ ?_
              rotate_left
              · simp only [Act.put, List.setIfInBounds_toArray, List.set_cons_zero, List.set_cons_succ]
                rfl
              refine one_ (i := 19) (N := some 67) #[true, true, true, true, true, true, true, true, true, true, true, true, true, true, true, true, true, true, true, true, false, false] rfl rfl (by kernel_rfl) (by decide) (fun K hK => ?_)
              refine goes_ Try.func11 (by kernel_rfl) rfl #[.agg (vec s2), .agg (vec m.deps)] (by rfl) rfl rfl (by (try simp only [List.map_toArray, List.map_cons, List.map_nil]); first | done | rfl) ?_
              (with_reducible refine (HCv.out _).mono ?_)
              rintro e wr1 ⟨rfl, hr1⟩
              refine ⟨_, rfl, ?_⟩
              refine hK.out _ _ (hHeld.call hr1) (fun hHeld => ?_)
              clear hK K
              refine norm_ (a' := ?_) ?_ ?_
              rotate_left
              · show Act.put _ (some 67) _ = _
                simp only [Act.put, List.setIfInBounds_toArray, List.set_cons_zero, List.set_cons_succ]
                rfl
              refine pure_ (i := 20) (N := some 68) (v := ?_) (a' := ?_) #[true, true, true, true, true, true, true, true, true, true, true, true, true, true, true, true, true, true, true, true, true, false] rfl rfl (by kernel_rfl) (fun _ _ _ h => h) (Or.inl ⟨by rfl, ?_⟩) ?_ ?_
              rotate_left
              · intro w_
                go_simp
                try with_reducible rfl
              rotate_left
              · simp only [Act.put, List.setIfInBounds_toArray, List.set_cons_zero, List.set_cons_succ]
                rfl
              refine pure_ (i := 21) (N := some 69) (v := ?_) (a' := ?_) #[true, true, true, true, true, true, true, true, true, true, true, true, true, true, true, true, true, true, true, true, true, true] rfl rfl (by kernel_rfl) (fun _ _ _ h => h) (Or.inl ⟨by rfl, ?_⟩) ?_ ?_
              rotate_left
              · intro w_
                go_simp
                try with_reducible rfl
              rotate_left
              · simp only [Act.put, List.setIfInBounds_toArray, List.set_cons_zero, List.set_cons_succ]
                rfl
              refine done_ (by kernel_rfl) ?_
              have c18 := (cell_of_row _ _ rr _ _ _ ((hHeld.2.block pv (lt_of HV7.out)).trans HV7.out)).trans HSR.out
              have f18 := frozen_of_row _ pv rr _ _ ((hHeld.2.block pv (lt_of HV7.out)).trans HV7.out)
              have HM2 := Hd.mk (lay_up hHeld HB7.out.1 HB7.out.2 HV7.out HU.out.1 HPV.out)
              clear hHeld K8 HCv
              go_upto_region 19 with (fail)
              refine world_gen (fun W9 => BufAt (fun k => k < w.heap.size ∨ k = pv) W9 p u lf ∧ W9.heap[pv]? = some (.cells (vec u) 26 (0, 0)) ∧ Below w.heap.size w W9 ∧ W9.heap[w7.heap.size]? = some (.cells (msgC m) 34 (0, 0))) HM2.out (fun W9 h9 => ?_)
              have H9 := Hd.mk h9
              clear h9 HM2 c18 f18
              have heq := eqVec 9998 HUL.out HUL.out
              have hself := eqV_self u
              have HSe := Hd.mk (fun W (hW : Below W9.heap.size W9 W) => buf_Seen _ p u lf W (H9.out.1.call hW))
              have HOf := Hd.mk (fun W (hW : Below W9.heap.size W9 W) => offer_seen _ p u lf m HM.out.2.2.2 W (H9.out.1.call hW) HM.out.1 (by rw [HM.out.2.1, Int.toNat_natCast, HU.out.2]; exact Int.le_refl _))
              refine start_ (n := 9) (S := fun W_ => Below W9.heap.size W9 W_) (ds := []) #[false, false, false, false, false, false, false, false, false] (by kernel_rfl) rfl rfl ((Below.refl _ _).drew) (fun hHeld => ?_)
              refine pure_ (i := 0) (N := some 75) (v := ?_) (a' := ?_) #[true, false, false, false, false, false, false, false, false] rfl rfl (by kernel_rfl) (fun _ _ _ h => h) (Or.inl ⟨by rfl, ?_⟩) ?_ ?_
              rotate_left
              · intro w_
                go_simp
                try with_reducible rfl
              rotate_left
              · simp only [Act.put, List.setIfInBounds_toArray, List.set_cons_zero, List.set_cons_succ]
                rfl
              refine take_ (i := 2) (N := some 77) (v := .agg (vec u)) (a' := ?_) #[true, false, true, false, false, false, false, false, false] rfl rfl (by kernel_rfl) (fun _ _ _ h => h) (Or.inl ⟨by rfl, fun w' h => run_load_rangeC 26 _ rfl pv 0 (vec u).toList rfl (range_ofC ((h.block pv (lt_of H9.out.2.1)).trans H9.out.2.1) 0 _ (fun j v hj => by simpa using hj)) _ Try.underlying26 rfl (by rw [Array.length_toList, vec_size, HUL.out]; exact size_e8)⟩) hHeld ?_ ?_
              rotate_left
              · simp only [Act.put, List.setIfInBounds_toArray, List.set_cons_zero, List.set_cons_succ]
                rfl
              refine one_ (i := 1) (N := some 76) #[true, true, true, false, false, false, false, false, false] rfl rfl (by kernel_rfl) (by decide) (fun K hK => ?_)
              refine goes_ Try.func12 (by kernel_rfl) rfl #[.pointer (some ⟨p, 0, none⟩)] (by rfl) rfl rfl (by (try simp only [List.map_toArray, List.map_cons, List.map_nil]); first | done | rfl) ?_
              (with_reducible refine (HSe.out _ hHeld).mono ?_)
              rintro e wr2 ⟨rfl, hr2⟩
              refine ⟨_, rfl, ?_⟩
              refine hK.out _ _ (below_step hHeld hr2) (fun hHeld => ?_)
              clear hK K
              refine norm_ (a' := ?_) ?_ ?_
              rotate_left
              · show Act.put _ (some 76) _ = _
                simp only [Act.put, List.setIfInBounds_toArray, List.set_cons_zero, List.set_cons_succ]
                rfl
              refine pure_ (i := 3) (N := some 78) (v := ?_) (a' := ?_) #[true, true, true, true, false, false, false, false, false] rfl rfl (by kernel_rfl) (fun _ _ _ h => h) (Or.inl ⟨by rfl, ?_⟩) ?_ ?_
              rotate_left
              · intro w_
                go_simp
                try with_reducible rfl
              rotate_left
              · simp only [Act.put, List.setIfInBounds_toArray, List.set_cons_zero, List.set_cons_succ]
                rfl
              refine pure_ (i := 4) (N := some 79) (v := ?_) (a' := ?_) #[true, true, true, true, true, false, false, false, false] rfl rfl (by kernel_rfl) (fun _ _ _ h => h) (Or.inl ⟨by rfl, ?_⟩) ?_ ?_
              rotate_left
              · intro w_
                go_simp
                try with_reducible rfl
              rotate_left
              · simp only [Act.put, List.setIfInBounds_toArray, List.set_cons_zero, List.set_cons_succ]
                rfl
              refine pure_ (i := 5) (N := some 80) (v := ?_) (a' := ?_) #[true, true, true, true, true, true, false, false, false] rfl rfl (by kernel_rfl) (fun _ _ _ h => h) (Or.inl ⟨by rfl, ?_⟩) ?_ ?_
              rotate_left
              · intro w_
                go_simp
                try with_reducible rfl
              rotate_left
              · simp only [Act.put, List.setIfInBounds_toArray, List.set_cons_zero, List.set_cons_succ]
                rfl
              refine take_ (i := 6) (N := some 81) (v := .agg (msgC m)) (a' := ?_) #[true, true, true, true, true, true, true, false, false] rfl rfl (by kernel_rfl) (fun _ _ _ h => h) (Or.inl ⟨by rfl, fun w' h => run_load_wholeC _ rfl w7.heap.size m rfl ((h.block _ (lt_of H9.out.2.2.2)).trans H9.out.2.2.2)⟩) hHeld ?_ ?_
              rotate_left
              · simp only [Act.put, List.setIfInBounds_toArray, List.set_cons_zero, List.set_cons_succ]
                rfl
              refine one_ (i := 7) (N := some 82) #[true, true, true, true, true, true, true, true, false] rfl rfl (by kernel_rfl) (by decide) (fun K hK => ?_)
              refine goes_ Try.func8 (by kernel_rfl) rfl #[.pointer (some ⟨p, 0, none⟩), .agg (msgC m)] (by rfl) rfl rfl (by (try simp only [List.map_toArray, List.map_cons, List.map_nil]); first | done | rfl) ?_
              (with_reducible refine (HOf.out _ hHeld).mono ?_)
              rintro e wr3 ⟨rfl, hr3⟩
              refine ⟨_, rfl, ?_⟩
              refine hK.out _ _ (below_step hHeld hr3) (fun hHeld => ?_)
              clear hK K
              refine norm_ (a' := ?_) ?_ ?_
              rotate_left
              · show Act.put _ (some 82) _ = _
                simp only [Act.put, List.setIfInBounds_toArray, List.set_cons_zero, List.set_cons_succ]
                rfl
              refine pure_ (i := 8) (N := some 83) (v := ?_) (a' := ?_) #[true, true, true, true, true, true, true, true, true] rfl rfl (by kernel_rfl) (fun _ _ _ h => h) (Or.inl ⟨by rfl, ?_⟩) ?_ ?_
              rotate_left
              · intro w_
                go_simp
                try with_reducible rfl
              rotate_left
              · simp only [Act.put, List.setIfInBounds_toArray, List.set_cons_zero, List.set_cons_succ]
                rfl
              refine done_ (by kernel_rfl) ?_
              have HI9 : Hd (Inv w p pv i2 _ u lf) := ⟨⟨H9.out.1.call hHeld, (hHeld.block _ (lt_of H9.out.2.1)).trans H9.out.2.1, below_step H9.out.2.2.1 hHeld, HLf.out.1, HLf.out.2.1, HLf.out.2.2⟩⟩
              clear hHeld heq hself HSe HOf
              go_wp2_with fail
              go_roundg (99 - k)
              case measure => have := HKK.out; have := HKq.out.2; omega
              case rel => exact ⟨k2, by first | rfl | rw [f2], ⟨by have := HKq.out; omega, _, _, HI9.out⟩⟩
          · have e3 : ¬ (k : Int) < 100 := by omega
            go_wp2_with fail
            go_roundg (99 - i)
            case measure => have := HKI.out; have := HH.out; omega
            case rel => exact ⟨i2, by first | rfl | rw [hi1], ⟨by have := HH.out; have := HI2.out; omega, _, _, HI6.out⟩⟩
      · have e2 : ¬ (i : Int) < 100 := by omega
        go_upto_region 21 with (fail)
        have heq := eqVec 9998 HIN.out.buf.len HIN.out.buf.len
        have hself := eqV_self s
        have HSe := Hd.mk (fun W (hW : Below wr.heap.size wr W) => buf_Seen _ p s lb W (HIN.out.buf.call hW))
        refine start_ (n := 8) (S := fun W_ => Below wr.heap.size wr W_) (ds := []) #[false, false, false, false, false, false, false, false] (by kernel_rfl) rfl rfl ((Below.refl _ _).drew) (fun hHeld => ?_)
        refine pure_ (i := 0) (N := some 84) (v := ?_) (a' := ?_) #[true, false, false, false, false, false, false, false] rfl rfl (by kernel_rfl) (fun _ _ _ h => h) (Or.inl ⟨by rfl, ?_⟩) ?_ ?_
        rotate_left
        · intro w_
          go_simp
          try with_reducible rfl
        rotate_left
        · simp only [Act.put, List.setIfInBounds_toArray, List.set_cons_zero, List.set_cons_succ]
          rfl
        refine pure_ (i := 1) (N := some 85) (v := ?_) (a' := ?_) #[true, true, false, false, false, false, false, false] rfl rfl (by kernel_rfl) (fun _ _ _ h => h) (Or.inl ⟨by rfl, ?_⟩) ?_ ?_
        rotate_left
        · intro w_
          go_simp
          try with_reducible rfl
        rotate_left
        · simp only [Act.put, List.setIfInBounds_toArray, List.set_cons_zero, List.set_cons_succ]
          rfl
        refine pure_ (i := 2) (N := some 86) (v := ?_) (a' := ?_) #[true, true, true, false, false, false, false, false] rfl rfl (by kernel_rfl) (fun _ _ _ h => h) (Or.inl ⟨by rfl, ?_⟩) ?_ ?_
        rotate_left
        · intro w_
          go_simp
          try with_reducible rfl
        rotate_left
        · simp only [Act.put, List.setIfInBounds_toArray, List.set_cons_zero, List.set_cons_succ]
          rfl
        refine take_ (i := 4) (N := some 88) (v := .agg (vec s)) (a' := ?_) #[true, true, true, false, true, false, false, false] rfl rfl (by kernel_rfl) (fun _ _ _ h => h) (Or.inl ⟨by rfl, fun w' h => run_load_rangeC 26 _ rfl pv 0 (vec s).toList rfl (range_ofC ((h.block pv (lt_of HIN.out.v)).trans HIN.out.v) 0 _ (fun j v hj => by simpa using hj)) _ Try.underlying26 rfl (by rw [Array.length_toList, vec_size, HIN.out.buf.len]; exact size_e8)⟩) hHeld ?_ ?_
        rotate_left
        · simp only [Act.put, List.setIfInBounds_toArray, List.set_cons_zero, List.set_cons_succ]
          rfl
        refine one_ (i := 3) (N := some 87) #[true, true, true, true, true, false, false, false] rfl rfl (by kernel_rfl) (by decide) (fun K hK => ?_)
        refine goes_ Try.func12 (by kernel_rfl) rfl #[.pointer (some ⟨p, 0, none⟩)] (by rfl) rfl rfl (by (try simp only [List.map_toArray, List.map_cons, List.map_nil]); first | done | rfl) ?_
        (with_reducible refine (HSe.out _ hHeld).mono ?_)
        rintro e wr4 ⟨rfl, hr4⟩
        refine ⟨_, rfl, ?_⟩
        refine hK.out _ _ (below_step hHeld hr4) (fun hHeld => ?_)
        clear hK K
        refine norm_ (a' := ?_) ?_ ?_
        rotate_left
        · show Act.put _ (some 87) _ = _
          simp only [Act.put, List.setIfInBounds_toArray, List.set_cons_zero, List.set_cons_succ]
          rfl
        refine pure_ (i := 5) (N := some 89) (v := ?_) (a' := ?_) #[true, true, true, true, true, true, false, false] rfl rfl (by kernel_rfl) (fun _ _ _ h => h) (Or.inl ⟨by rfl, ?_⟩) ?_ ?_
        rotate_left
        · intro w_
          go_simp
          try with_reducible rfl
        rotate_left
        · simp only [Act.put, List.setIfInBounds_toArray, List.set_cons_zero, List.set_cons_succ]
          rfl
        refine pure_ (i := 6) (N := some 90) (v := ?_) (a' := ?_) #[true, true, true, true, true, true, true, false] rfl rfl (by kernel_rfl) (fun _ _ _ h => h) (Or.inl ⟨by rfl, ?_⟩) ?_ ?_
        rotate_left
        · intro w_
          go_simp
          try with_reducible rfl
        rotate_left
        · simp only [Act.put, List.setIfInBounds_toArray, List.set_cons_zero, List.set_cons_succ]
          rfl
        refine pure_ (i := 7) (N := some 2) (v := ?_) (a' := ?_) #[true, true, true, true, true, true, true, true] rfl rfl (by kernel_rfl) (fun _ _ _ h => h) (Or.inl ⟨by rfl, ?_⟩) ?_ ?_
        rotate_left
        · intro w_
          go_simp
          try with_reducible rfl
        rotate_left
        · simp only [Act.put, List.setIfInBounds_toArray, List.set_cons_zero, List.set_cons_succ]
          rfl
        refine done_ (by kernel_rfl) ?_
        go_wp2_with fail
        go_ret
        exact ⟨by rfl, below_step HIN.out.bel hHeld⟩
    · have e1 : ¬ (i : Int) < (l.length : Int) := by omega
      go_upto_region 21 with (fail)
      have heq := eqVec 9998 HIN.out.buf.len HIN.out.buf.len
      have hself := eqV_self s
      have HSe := Hd.mk (fun W (hW : Below wr.heap.size wr W) => buf_Seen _ p s lb W (HIN.out.buf.call hW))
      refine start_ (n := 8) (S := fun W_ => Below wr.heap.size wr W_) (ds := []) #[false, false, false, false, false, false, false, false] (by kernel_rfl) rfl rfl ((Below.refl _ _).drew) (fun hHeld => ?_)
      refine pure_ (i := 0) (N := some 84) (v := ?_) (a' := ?_) #[true, false, false, false, false, false, false, false] rfl rfl (by kernel_rfl) (fun _ _ _ h => h) (Or.inl ⟨by rfl, ?_⟩) ?_ ?_
      rotate_left
      · intro w_
        go_simp
        try with_reducible rfl
      rotate_left
      · simp only [Act.put, List.setIfInBounds_toArray, List.set_cons_zero, List.set_cons_succ]
        rfl
      refine pure_ (i := 1) (N := some 85) (v := ?_) (a' := ?_) #[true, true, false, false, false, false, false, false] rfl rfl (by kernel_rfl) (fun _ _ _ h => h) (Or.inl ⟨by rfl, ?_⟩) ?_ ?_
      rotate_left
      · intro w_
        go_simp
        try with_reducible rfl
      rotate_left
      · simp only [Act.put, List.setIfInBounds_toArray, List.set_cons_zero, List.set_cons_succ]
        rfl
      refine pure_ (i := 2) (N := some 86) (v := ?_) (a' := ?_) #[true, true, true, false, false, false, false, false] rfl rfl (by kernel_rfl) (fun _ _ _ h => h) (Or.inl ⟨by rfl, ?_⟩) ?_ ?_
      rotate_left
      · intro w_
        go_simp
        try with_reducible rfl
      rotate_left
      · simp only [Act.put, List.setIfInBounds_toArray, List.set_cons_zero, List.set_cons_succ]
        rfl
      refine take_ (i := 4) (N := some 88) (v := .agg (vec s)) (a' := ?_) #[true, true, true, false, true, false, false, false] rfl rfl (by kernel_rfl) (fun _ _ _ h => h) (Or.inl ⟨by rfl, fun w' h => run_load_rangeC 26 _ rfl pv 0 (vec s).toList rfl (range_ofC ((h.block pv (lt_of HIN.out.v)).trans HIN.out.v) 0 _ (fun j v hj => by simpa using hj)) _ Try.underlying26 rfl (by rw [Array.length_toList, vec_size, HIN.out.buf.len]; exact size_e8)⟩) hHeld ?_ ?_
      rotate_left
      · simp only [Act.put, List.setIfInBounds_toArray, List.set_cons_zero, List.set_cons_succ]
        rfl
      refine one_ (i := 3) (N := some 87) #[true, true, true, true, true, false, false, false] rfl rfl (by kernel_rfl) (by decide) (fun K hK => ?_)
      refine goes_ Try.func12 (by kernel_rfl) rfl #[.pointer (some ⟨p, 0, none⟩)] (by rfl) rfl rfl (by (try simp only [List.map_toArray, List.map_cons, List.map_nil]); first | done | rfl) ?_
      (with_reducible refine (HSe.out _ hHeld).mono ?_)
      rintro e wr5 ⟨rfl, hr5⟩
      refine ⟨_, rfl, ?_⟩
      refine hK.out _ _ (below_step hHeld hr5) (fun hHeld => ?_)
      clear hK K
      refine norm_ (a' := ?_) ?_ ?_
      rotate_left
      · show Act.put _ (some 87) _ = _
        simp only [Act.put, List.setIfInBounds_toArray, List.set_cons_zero, List.set_cons_succ]
        rfl
      refine pure_ (i := 5) (N := some 89) (v := ?_) (a' := ?_) #[true, true, true, true, true, true, false, false] rfl rfl (by kernel_rfl) (fun _ _ _ h => h) (Or.inl ⟨by rfl, ?_⟩) ?_ ?_
      rotate_left
      · intro w_
        go_simp
        try with_reducible rfl
      rotate_left
      · simp only [Act.put, List.setIfInBounds_toArray, List.set_cons_zero, List.set_cons_succ]
        rfl
      refine pure_ (i := 6) (N := some 90) (v := ?_) (a' := ?_) #[true, true, true, true, true, true, true, false] rfl rfl (by kernel_rfl) (fun _ _ _ h => h) (Or.inl ⟨by rfl, ?_⟩) ?_ ?_
      rotate_left
      · intro w_
        go_simp
        try with_reducible rfl
      rotate_left
      · simp only [Act.put, List.setIfInBounds_toArray, List.set_cons_zero, List.set_cons_succ]
        rfl
      refine pure_ (i := 7) (N := some 2) (v := ?_) (a' := ?_) #[true, true, true, true, true, true, true, true] rfl rfl (by kernel_rfl) (fun _ _ _ h => h) (Or.inl ⟨by rfl, ?_⟩) ?_ ?_
      rotate_left
      · intro w_
        go_simp
        try with_reducible rfl
      rotate_left
      · simp only [Act.put, List.setIfInBounds_toArray, List.set_cons_zero, List.set_cons_succ]
        rfl
      refine done_ (by kernel_rfl) ?_
      go_wp2_with fail
      go_ret
      exact ⟨by rfl, below_step HIN.out.bel hHeld⟩
end Go.Proofs.Ytcgkkjfbdappoaa.causalOnce
