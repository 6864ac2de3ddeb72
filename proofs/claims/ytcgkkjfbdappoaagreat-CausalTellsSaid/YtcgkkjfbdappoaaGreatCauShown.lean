/- The document's example. -/
import Derived.Test.YtcgkkjfbdappoaaGreatCauNext
import Derived.Test.YtcgkkjfbdappoaaGreatIterAll
namespace Go.Proofs.YtcgkkjfbdappoaaGreat
open Go.RowKit Go.Proofs.YtcgkkjfbdappoaaGreatW.PrintWords Go.Proofs.YtcgkkjfbdappoaaGreatW.PrintLast Go.Proofs.YtcgkkjfbdappoaaGreatW.PrintMore
set_option linter.unusedVariables false
set_option linter.unusedSimpArgs false

/-- Offer, all told. -/
def offB (s : List Int) (l : List MsgV) (m : MsgV) : Bool := m.fine && !decide (m.q ≤ s.getD m.r.toNat 0) && !(l.any fun x => sameM x m)
theorem buf_Offer (S : Nat → Prop) (p : Nat) (s : List Int) (l : List MsgV) (m : MsgV) (hd : m.dt.size ≤ 140737488355328) (hlen : l.length ≤ 50000000000) (w : World) (h : BufAt S w p s l) :
    Calls Tryz.prog 8 #[.pointer (some ⟨p, 0, none⟩), .agg (msgC m)] w fun e w' => e = .returned (.bool (offB s l m)) ∧ BufAt S w' p s (if offB s l m then l ++ [m] else l) ∧ KeepOn S w w' := by
  have off : ∀ {w' : World}, Below w.heap.size w w' → offB s l m = false → BufAt S w' p s (if offB s l m then l ++ [m] else l) ∧ KeepOn S w w' := fun hb e => by
    rw [e, if_neg (by simp)]
    exact ⟨h.call hb, h.keep hb⟩
  rcases hf : m.fine with _ | _
  · have e : offB s l m = false := by unfold offB; rw [hf]; rfl
    refine (offer_not S p s l m hd w h hf).mono ?_
    rintro e' w' ⟨rfl, hb⟩
    exact ⟨by rw [e], off hb e⟩
  · by_cases hq : m.q ≤ s.getD m.r.toNat 0
    · have e : offB s l m = false := by unfold offB; rw [hf, decide_eq_true hq]; rfl
      refine (offer_seen S p s l m hd w h hf hq).mono ?_
      rintro e' w' ⟨rfl, hb⟩
      exact ⟨by rw [e], off hb e⟩
    · rcases ha : (l.any fun x => sameM x m) with _ | _
      · have e : offB s l m = true := by unfold offB; rw [hf, decide_eq_false hq, ha]; rfl
        refine (offer_done S p s l m hd w h hlen hf hq ha).mono ?_
        rintro e' w' ⟨rfl, hb⟩
        rw [e, if_pos rfl]
        exact ⟨rfl, hb⟩
      · have e : offB s l m = false := by unfold offB; rw [hf, decide_eq_false hq, ha]; rfl
        refine (offer_waits S p s l m hd w h hlen hf hq ha).mono ?_
        rintro e' w' ⟨rfl, hb⟩
        exact ⟨by rw [e], off hb e⟩
def shM1 : MsgV := ⟨1, 0, 0, 0, 0, 0, 0, 0, 0, 1, 0, 1, 0, 0, 0, 0, 0, 0, ⟨#[97]⟩, ⟨#[]⟩, 0, ⟨#[]⟩⟩
def shM2 : MsgV := ⟨2, 1, 0, 0, 0, 0, 0, 0, 0, 2, 0, 1, 0, 0, 0, 0, 0, 0, ⟨#[98]⟩, ⟨#[]⟩, 0, ⟨#[]⟩⟩
def shO1 : Array Value := #[.int .i64 1, .int .i64 0, .int .i64 1, .int .i64 0, .int .i64 0, .int .i64 0, .int .i64 0, .int .i64 0, .int .i64 0, .string ⟨#[97]⟩, .string ⟨#[]⟩, .int .i64 0, .string ⟨#[]⟩]
def shO2 : Array Value := #[.int .i64 2, .int .i64 0, .int .i64 1, .int .i64 0, .int .i64 0, .int .i64 0, .int .i64 0, .int .i64 0, .int .i64 0, .string ⟨#[98]⟩, .string ⟨#[]⟩, .int .i64 0, .string ⟨#[]⟩]
theorem shO1_build (w : World) : (Instr.build 36 #[(0, .agg #[.int .i64 1, .int .i64 0]), (1, .int .i64 1), (5, .string ⟨#[97]⟩)]).run Tryz.prog w = .ok (.agg shO1) w := run_build w _ _ _ (by kernel_rfl)
theorem shO2_build (w : World) : (Instr.build 36 #[(0, .agg #[.int .i64 2, .int .i64 0]), (1, .int .i64 1), (5, .string ⟨#[98]⟩)]).run Tryz.prog w = .ok (.agg shO2) w := run_build w _ _ _ (by kernel_rfl)
theorem shM2_build (w : World) : (Instr.build 38 #[(0, .int .i64 2), (1, .agg (vec [1, 0, 0, 0, 0, 0, 0, 0])), (2, .agg shO2)]).run Tryz.prog w = .ok (.agg (msgC shM2)) w := run_build w _ _ _ (by kernel_rfl)
theorem shM1_build (w : World) : (Instr.build 38 #[(0, .int .i64 1), (2, .agg shO1)]).run Tryz.prog w = .ok (.agg (msgC shM1)) w := run_build w _ _ _ (by kernel_rfl)
theorem sh_fine1 : shM1.fine = true := by kernel_rfl
theorem sh_fine2 : shM2.fine = true := by kernel_rfl
theorem sh_off2 : offB zero8 [] shM2 = true := by kernel_rfl
theorem sh_off1 : offB zero8 [shM2] shM1 = true := by kernel_rfl
theorem sh_rdy0 : [shM2].filter (rdyB zero8) = [] := by kernel_rfl
theorem sh_rdy1 : [shM2, shM1].filter (rdyB zero8) = [shM1] := by kernel_rfl
theorem sh_rest : ([shM2, shM1].filter fun x => !sameM x shM1) = [shM2] := by kernel_rfl
theorem sh_seen : upV zero8 shM1.r.toNat = [1, 0, 0, 0, 0, 0, 0, 0] := by kernel_rfl
theorem shO_size (w : World) : (Tryz.prog.info? 36).map (·.size) = some 13 := by kernel_rfl
theorem shM1_op : ∀ (j : Nat) v, shO1.toList[j]? = some v → (msgC shM1)[9 + j]? = some v := fun j v hj => by
  have h : j < 13 := (List.getElem?_eq_some_iff.1 hj).1
  have e : (msgC shM1).toList.drop 9 = shO1.toList := by kernel_rfl
  rw [← e, List.getElem?_drop] at hj
  simpa using hj
theorem wpList_valC {ops : Array Oper} {rest : List Oper} {o : Oper} {a : Act} {Q : Exit → Act → World → Prop} {w : World} (hgd : o.guard = none) {v : Value} {w1 : World} (hr : (execOp a.eval o).run Tryz.prog w = .ok (.value v) w1) (h : wpList Tryz.prog ops Q rest (a.put o.dst v) w1) : wpList Tryz.prog ops Q (o :: rest) a w := by
  refine wpList_plain hgd fun K hK => ?_
  unfold Oper.wp
  rw [hr]
  exact hK _ _ h
theorem run_eqO {o : Oper} {ρ : Operand → Value} {w : World} (x y : Operand) (ho : o.op = .binOp .eql 36 x y 36) (hx : ρ x = .agg shO1) (hy : ρ y = .agg shO1) : (execOp ρ o).run Tryz.prog w = .ok (.value (.bool true)) w := by
  unfold execOp
  simp only [ho, hx, hy]
  kernel_rfl
theorem run_eqV {o : Oper} {ρ : Operand → Value} {w : World} (x y : Operand) (ho : o.op = .binOp .eql 32 x y 32) (hx : ρ x = .agg (vec [1, 0, 0, 0, 0, 0, 0, 0])) (hy : ρ y = .agg (vec [1, 0, 0, 0, 0, 0, 0, 0])) : (execOp ρ o).run Tryz.prog w = .ok (.value (.bool true)) w := by
  unfold execOp
  simp only [ho, hx, hy]
  kernel_rfl
theorem shO1_one : shO1.all (·.oneCell') = true := by kernel_rfl
theorem shO2_one : shO2.all (·.oneCell') = true := by kernel_rfl
set_option maxHeartbeats 4000000 in
set_option maxRecDepth 100000 in
theorem cau_shown (w : World) : Calls Tryz.prog 5 #[] w fun e w' => e = .returned (.bool true) ∧ Below w.heap.size w w' := by
  have HNew := Hd.mk (cau_New zero8 rfl (by kernel_rfl) w)
  go_enter Tryz.func5, Tryz.ntmps5
  go_wp2_with (first | ((with_reducible refine gate_dst (N := 10) rfl ?_); refine wpList_buildB rfl _ _ rfl #[] rfl (.agg (vec zero8)) (run_build _ _ _ _ (by kernel_rfl)) ?_))
  refine HNew.out.mono ?_; rintro e w1 ⟨p, rfl, hN⟩
  have HW1 := Hd.mk hN
  have hB1 : BufAt (fun k => k < w.heap.size) w1 p zero8 [] := ⟨⟨_, hN.1.get 0 rfl, Elt.Own.nil 0 w1, fun k hk => by cases hk⟩, by have := hN.2.1; omega, fun k hk => Nat.lt_of_lt_of_le hk hN.1.2.size, rfl⟩
  have HB1 := Hd.mk hB1
  clear HNew hN hB1
  go_upto_region 3 with (first | ((with_reducible refine gate_dst (N := 13) rfl ?_); refine wpList_buildB rfl _ _ rfl #[(0, .agg #[.int .i64 1, .int .i64 0]), (1, .int .i64 1), (5, .string ⟨#[97]⟩)] rfl (.agg shO1) (shO1_build _) ?_) | ((with_reducible refine gate_store (t := 36) rfl ?_); refine wpList_store_row rfl _ _ _ rfl w1.heap.size shO1 rfl rfl 36 _ (heap_alloc_new w1 _) (shO_size w1) rfl shO1_one ?_))
  refine world_gen (fun W => Holds w1 [(w1.heap.size, .cells shO1 36 (0, 0))] W) ((Holds.nil w1).made _ shO1 36) (fun W2 hK => ?_)
  have K2 := Hd.mk hK
  clear hK
  go_upto_region 4 with (first | ((with_reducible refine gate_dst (N := 15) rfl ?_); refine wpList_buildB rfl _ _ rfl #[(0, .agg #[.int .i64 2, .int .i64 0]), (1, .int .i64 1), (5, .string ⟨#[98]⟩)] rfl (.agg shO2) (shO2_build _) ?_) | ((with_reducible refine gate_store (t := 36) rfl ?_); refine wpList_store_row rfl _ _ _ rfl W2.heap.size shO2 rfl rfl 36 _ (heap_alloc_new W2 _) (shO_size w1) rfl shO2_one ?_))
  refine world_gen (fun W => Holds W2 [(W2.heap.size, .cells shO2 36 (0, 0))] W) ((Holds.nil W2).made _ shO2 36) (fun W3 hK => ?_)
  have hb13 : Below w1.heap.size w1 W3 := below_step K2.out.2 hK.2
  have HT := Hd.mk (HB1.out.fresh hb13 (T := fun k => k < w.heap.size ∨ k = w1.heap.size ∨ k = W2.heap.size) (fun k hk => by
    have h1 := K2.out.lt 0 rfl
    have h2 := hK.lt 0 rfl
    rcases hk with h | h | h
    · exact Or.inl h
    · exact Or.inr ⟨by omega, by omega⟩
    · exact Or.inr ⟨by omega, by omega⟩))
  have HO1 := Hd.mk ((hK.2.block _ (K2.out.lt 0 rfl)).trans (K2.out.get 0 rfl))
  have HO2 := Hd.mk (hK.get 0 rfl)
  have HBw : Hd (Below w.heap.size w W3) := ⟨HW1.out.1.2.trans (hb13.mono HW1.out.1.2.size)⟩
  clear hK K2 hb13 HB1
  have HOf := Hd.mk (buf_Offer _ p zero8 [] shM2 (by decide) (by decide) W3 HT.out)
  rw [sh_off2] at HOf
  go_wp2_with (first | ((with_reducible refine gate_dst (N := 18) rfl ?_); refine wpList_load_mid rfl 36 _ rfl W2.heap.size 0 rfl shO2.toList _ (range_ofC (HO2.out) 0 _ (fun j v hj => by simpa using hj)) Tryz.underlying36 rfl (shO_size w1) ?_) | ((with_reducible refine gate_dst (N := 19) rfl ?_); refine wpList_buildB rfl _ _ rfl #[(0, .int .i64 2), (1, .agg (vec [1, 0, 0, 0, 0, 0, 0, 0])), (2, .agg shO2)] rfl (.agg (msgC shM2)) (shM2_build _) ?_))
  refine HOf.out.mono ?_; rintro e w4 ⟨rfl, hbuf, hk4⟩
  have HK4 := Hd.mk hk4
  have hbuf4 : BufAt (fun k => k < w.heap.size ∨ k = w1.heap.size ∨ k = W2.heap.size) w4 p zero8 [shM2] := by simpa using hbuf
  have HNx := Hd.mk (buf_Next _ p zero8 [shM2] (by decide) (fun m hm => by obtain rfl := List.mem_singleton.1 hm; exact sh_fine2) w4 hbuf4)
  clear hbuf hk4 hbuf4 HOf HT
  go_wp2_with fail
  refine HNx.out.mono ?_
  rintro e w5 ⟨hk5, ⟨-, rfl, hbuf⟩ | ⟨m, hm, -⟩⟩
  · have HB5 := Hd.mk hbuf
    have HK5 := Hd.mk (HK4.out.trans hk5)
    clear HNx hk5 hbuf HK4
    go_upto_region 6 with (first | ((with_reducible refine gate_store (t := 38) rfl ?_); refine wpList_store_row rfl _ _ _ rfl w5.heap.size (msgC MsgV.zero) rfl rfl 38 _ (heap_alloc_new w5 _) msg_size rfl (msgC_one MsgV.zero) ?_))
    refine world_gen (fun W => Holds w5 [(w5.heap.size, .cells (msgC MsgV.zero) 38 (0, 0))] W) ((Holds.nil w5).made _ (msgC MsgV.zero) 38) (fun W6 hK => ?_)
    have HB6 := Hd.mk (HB5.out.call hK.2)
    have HK6 := Hd.mk (HK5.out.trans (HB5.out.keep hK.2))
    have HP1 := Hd.mk ((HK6.out.block w1.heap.size (Or.inr (Or.inl rfl))).trans HO1.out)
    clear hK HB5 HK5
    have HOf := Hd.mk (buf_Offer _ p zero8 [shM2] shM1 (by decide) (by decide) W6 HB6.out)
    rw [sh_off1] at HOf
    go_wp2_with (first | ((with_reducible refine gate_dst (N := 27) rfl ?_); refine wpList_load_mid rfl 36 _ rfl w1.heap.size 0 rfl shO1.toList _ (range_ofC (HP1.out) 0 _ (fun j v hj => by simpa using hj)) Tryz.underlying36 rfl (shO_size w1) ?_) | ((with_reducible refine gate_dst (N := 28) rfl ?_); refine wpList_buildB rfl _ _ rfl #[(0, .int .i64 1), (2, .agg shO1)] rfl (.agg (msgC shM1)) (shM1_build _) ?_))
    refine HOf.out.mono ?_; rintro e w7 ⟨rfl, hbuf, hk7⟩
    have HK7 := Hd.mk (HK6.out.trans hk7)
    have hbuf7 : BufAt (fun k => k < w.heap.size ∨ k = w1.heap.size ∨ k = W2.heap.size) w7 p zero8 [shM2, shM1] := by simpa using hbuf
    have HNx := Hd.mk (buf_Next _ p zero8 [shM2, shM1] (by decide) (fun m hm => by
      rcases List.mem_cons.1 hm with rfl | hm
      · exact sh_fine2
      · obtain rfl := List.mem_singleton.1 hm
        exact sh_fine1) w7 hbuf7)
    clear hbuf hk7 hbuf7 HOf HB6 HK6 HP1
    go_wp2_with fail
    refine HNx.out.mono ?_
    rintro e w8 ⟨hk8, ⟨hm, -⟩ | ⟨m, hm, -, rfl, hbuf⟩⟩
    · rw [sh_rdy1] at hm
      cases hm
    · rw [sh_rdy1] at hm
      obtain rfl := List.mem_singleton.1 hm
      rw [sh_rest, sh_seen] at hbuf
      have HB8 := Hd.mk hbuf
      have HK8 := Hd.mk (HK7.out.trans hk8)
      clear HNx hk8 hbuf HK7 hm
      go_upto_region 8 with (first | ((with_reducible refine gate_store (t := 38) rfl ?_); refine wpList_store_row rfl _ _ _ rfl w8.heap.size (msgC shM1) rfl rfl 38 _ (heap_alloc_new w8 _) msg_size rfl (msgC_one shM1) ?_))
      refine world_gen (fun W => Holds w8 [(w8.heap.size, .cells (msgC shM1) 38 (0, 0))] W) ((Holds.nil w8).made _ (msgC shM1) 38) (fun W9 hK => ?_)
      have HB9 := Hd.mk (HB8.out.call hK.2)
      have HK9 := Hd.mk (HK8.out.trans (HB8.out.keep hK.2))
      have HP1 := Hd.mk ((HK9.out.block w1.heap.size (Or.inr (Or.inl rfl))).trans HO1.out)
      have HM := Hd.mk (hK.get 0 rfl)
      have HSeen := Hd.mk (buf_Seen _ p _ _ W9 HB9.out)
      clear hK HB8 HK8 HO1 HO2
      go_wp2_with (first | ((with_reducible refine gate_dst (N := 48) rfl ?_); refine gate_guard (by rfl) ?_; refine wpList_load_mid rfl 36 _ rfl w8.heap.size 9 rfl shO1.toList _ (range_ofC (HM.out) 9 _ (shM1_op)) Tryz.underlying36 rfl (shO_size w1) ?_) | ((with_reducible refine gate_dst (N := 49) rfl ?_); refine gate_guard (by rfl) ?_; refine wpList_load_mid rfl 36 _ rfl w1.heap.size 0 rfl shO1.toList _ (range_ofC (HP1.out) 0 _ (fun j v hj => by simpa using hj)) Tryz.underlying36 rfl (shO_size w1) ?_) | ((with_reducible refine gate_dst (N := 50) rfl ?_); refine gate_guard (by rfl) ?_; refine wpList_valC rfl (run_eqO _ _ rfl rfl rfl) ?_))
      refine HSeen.out.mono ?_; rintro e w10 ⟨rfl, hb10⟩
      have HB10 := Hd.mk (HB9.out.call hb10)
      have HK10 := Hd.mk (HK9.out.trans (HB9.out.keep hb10))
      have HWt := Hd.mk (wait_small _ p _ _ (by decide) w10 HB10.out)
      clear HSeen hb10 HB9 HK9 HP1 HM
      go_wp2_with (first | ((with_reducible refine gate_dst (N := 56) rfl ?_); refine gate_guard (by rfl) ?_; refine wpList_valC rfl (run_eqV _ _ rfl rfl rfl) ?_))
      refine HWt.out.mono ?_; rintro e w11 ⟨v, rfl, hown, hb11⟩
      obtain ⟨A, cap, rfl⟩ := hown.slice
      have hk11 := HK10.out.trans (HB10.out.keep hb11)
      have HF := Hd.mk (HBw.out.trans (⟨hk11.os, hk11.tape, hk11.output, hk11.size, fun k hk => hk11.block k (Or.inl hk)⟩ : Below w.heap.size W3 w11))
      clear HWt hown hb11 hk11
      go_wp2_with fail
      go_ret
      exact ⟨by rfl, HF.out⟩
  · rw [sh_rdy0] at hm
    cases hm
end Go.Proofs.YtcgkkjfbdappoaaGreat
