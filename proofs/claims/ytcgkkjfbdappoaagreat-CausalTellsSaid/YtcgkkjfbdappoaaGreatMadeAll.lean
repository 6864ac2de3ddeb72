/- Texts that belong together, in one. -/
import Derived.Test.YtcgkkjfbdappoaaGreatCauMay
/- causal: a message as the program has it; a new buffer: their contracts. -/
namespace Go.Proofs.YtcgkkjfbdappoaaGreat
open Go.RowKit Go.Proofs.YtcgkkjfbdappoaaGreatW.PrintWords Go.Proofs.YtcgkkjfbdappoaaGreatW.PrintLast Go.Proofs.YtcgkkjfbdappoaaGreatW.PrintMore
set_option linter.unusedVariables false
set_option linter.unusedSimpArgs false

theorem size_e8 : (Tryz.prog.info? 22).map (·.size) = some 8 := by kernel_rfl
theorem zm_one (m : MsgV) : (#[.int .i64 m.q, .int .i64 m.d0, .int .i64 m.d1, .int .i64 m.d2, .int .i64 m.d3, .int .i64 m.d4, .int .i64 m.d5, .int .i64 m.d6, .int .i64 m.d7, .int .i64 m.t, .int .i64 m.r, .int .i64 m.k, .int .i64 m.a0, .int .i64 m.a1, .int .i64 m.i0, .int .i64 m.i1, .int .i64 m.t0, .int .i64 m.t1, .string m.nm, .string m.nw, .int .i64 m.off, .string m.dt] : Array Value).all (·.oneCell') = true := by kernel_rfl
set_option maxHeartbeats 4000000 in
set_option maxRecDepth 100000 in
theorem msg_made (m : MsgV) (w : World) : Calls Tryz.prog 9 #[.agg #[.int .i64 m.q, .int .i64 m.d0, .int .i64 m.d1, .int .i64 m.d2, .int .i64 m.d3, .int .i64 m.d4, .int .i64 m.d5, .int .i64 m.d6, .int .i64 m.d7, .int .i64 m.t, .int .i64 m.r, .int .i64 m.k, .int .i64 m.a0, .int .i64 m.a1, .int .i64 m.i0, .int .i64 m.i1, .int .i64 m.t0, .int .i64 m.t1, .string m.nm, .string m.nw, .int .i64 m.off, .string m.dt]] w fun e w' => e = .returned (.agg #[.int .i64 m.q, .int .i64 m.d0, .int .i64 m.d1, .int .i64 m.d2, .int .i64 m.d3, .int .i64 m.d4, .int .i64 m.d5, .int .i64 m.d6, .int .i64 m.d7, .int .i64 m.t, .int .i64 m.r, .int .i64 m.k, .int .i64 m.a0, .int .i64 m.a1, .int .i64 m.i0, .int .i64 m.i1, .int .i64 m.t0, .int .i64 m.t1, .string m.nm, .string m.nw, .int .i64 m.off, .string m.dt]) ∧ Below w.heap.size w w' := by
  have K0 := Hd.mk (Holds.start2 w (.cells #[.int .i64 m.q, .int .i64 m.d0, .int .i64 m.d1, .int .i64 m.d2, .int .i64 m.d3, .int .i64 m.d4, .int .i64 m.d5, .int .i64 m.d6, .int .i64 m.d7, .int .i64 m.t, .int .i64 m.r, .int .i64 m.k, .int .i64 m.a0, .int .i64 m.a1, .int .i64 m.i0, .int .i64 m.i1, .int .i64 m.t0, .int .i64 m.t1, .string m.nm, .string m.nw, .int .i64 m.off, .string m.dt] 41 (0, 0)) (.cells #[.int .i64 0, .int .i64 0, .int .i64 0, .int .i64 0, .int .i64 0, .int .i64 0, .int .i64 0, .int .i64 0, .int .i64 0, .int .i64 0, .int .i64 0, .int .i64 0, .int .i64 0, .int .i64 0, .int .i64 0, .int .i64 0, .int .i64 0, .int .i64 0, .string ⟨#[]⟩, .string ⟨#[]⟩, .int .i64 0, .string ⟨#[]⟩] 38 (0, 0)))
  go_enter Tryz.func9, Tryz.ntmps9
  go_upto_region 1 with (fail)
  refine world_gen _ K0.out (fun W hK => ?_)
  have K1 := Hd.mk hK
  clear hK K0
  have g0 := cell_of_row W _ 0 _ _ _ (K1.out.get 1 rfl)
  go_wp2_with (first | ((with_reducible refine gate_dst (N := 6) rfl ?_); refine wpList_load_mid rfl _ _ rfl w.heap.size 1 rfl [.int .i64 m.d0, .int .i64 m.d1, .int .i64 m.d2, .int .i64 m.d3, .int .i64 m.d4, .int .i64 m.d5, .int .i64 m.d6, .int .i64 m.d7] _ (fun j v hj => (cell_of_row W _ _ _ _ _ (K1.out.get 1 rfl)).trans (eight_at rfl rfl rfl rfl rfl rfl rfl rfl j v hj)) Tryz.underlying22 rfl size_e8 ?_) | ((with_reducible refine gate_dst (N := 8) rfl ?_); refine wpList_load_mid rfl _ _ rfl w.heap.size 9 rfl #[.int .i64 m.t, .int .i64 m.r, .int .i64 m.k, .int .i64 m.a0, .int .i64 m.a1, .int .i64 m.i0, .int .i64 m.i1, .int .i64 m.t0, .int .i64 m.t1, .string m.nm, .string m.nw, .int .i64 m.off, .string m.dt].toList _ (fun j v hj => (cell_of_row W _ _ _ _ _ (K1.out.get 1 rfl)).trans (by simpa [Nat.add_comm] using hj)) Tryz.underlying36 rfl size_opM ?_) | ((with_reducible refine gate_store (t := 38) rfl ?_); refine wpList_store_row rfl _ _ _ rfl (w.heap.size + 1) #[.int .i64 m.q, .int .i64 m.d0, .int .i64 m.d1, .int .i64 m.d2, .int .i64 m.d3, .int .i64 m.d4, .int .i64 m.d5, .int .i64 m.d6, .int .i64 m.d7, .int .i64 m.t, .int .i64 m.r, .int .i64 m.k, .int .i64 m.a0, .int .i64 m.a1, .int .i64 m.i0, .int .i64 m.i1, .int .i64 m.t0, .int .i64 m.t1, .string m.nm, .string m.nw, .int .i64 m.off, .string m.dt] rfl rfl 38 #[.int .i64 0, .int .i64 0, .int .i64 0, .int .i64 0, .int .i64 0, .int .i64 0, .int .i64 0, .int .i64 0, .int .i64 0, .int .i64 0, .int .i64 0, .int .i64 0, .int .i64 0, .int .i64 0, .int .i64 0, .int .i64 0, .int .i64 0, .int .i64 0, .string ⟨#[]⟩, .string ⟨#[]⟩, .int .i64 0, .string ⟨#[]⟩] (K1.out.get 0 rfl) size_msg rfl (zm_one m) ?_))
  exact bodyPost_ret (results_cell_row (p := 2) rfl _ _ (w.heap.size + 1) 38 #[.int .i64 m.q, .int .i64 m.d0, .int .i64 m.d1, .int .i64 m.d2, .int .i64 m.d3, .int .i64 m.d4, .int .i64 m.d5, .int .i64 m.d6, .int .i64 m.d7, .int .i64 m.t, .int .i64 m.r, .int .i64 m.k, .int .i64 m.a0, .int .i64 m.a1, .int .i64 m.i0, .int .i64 m.i1, .int .i64 m.t0, .int .i64 m.t1, .string m.nm, .string m.nw, .int .i64 m.off, .string m.dt] (0, 0) _ rfl (setRow_heap _ _ _ _ _ _ (K1.out.get 0 rfl)) Tryz.underlying38 rfl size_msg) rfl ⟨rfl, below_setRow K1.out.2 (Nat.le_succ _) _⟩
end Go.Proofs.YtcgkkjfbdappoaaGreat

/- causal.New: its contract. -/
namespace Go.Proofs.YtcgkkjfbdappoaaGreat
open Go.RowKit Go.Proofs.YtcgkkjfbdappoaaGreatW.PrintWords Go.Proofs.YtcgkkjfbdappoaaGreatW.PrintLast Go.Proofs.YtcgkkjfbdappoaaGreatW.PrintMore
set_option linter.unusedVariables false
set_option linter.unusedSimpArgs false

/-- A buffer's cells: what was seen, and what waits. -/
def bufC (s : List Int) (v : Value) : Array Value := vec s ++ #[v]
theorem build_buf (s : List Int) (hs : s.length = 8) (w : World) : (Instr.build 65 #[(0, .agg (vec s))]).run Tryz.prog w = .ok (.agg (bufC s (.slice none 0 0))) w := by
  match s, hs with
  | [a, b, c, d, e, f, g, h], _ => exact run_build w _ _ _ (by kernel_rfl)
theorem wpList_buildB {ops : Array Oper} {rest : List Oper} {o : Oper} {a : Act} {Q : Exit → Act → World → Prop} {w : World} (hgd : o.guard = none) (t : TypeId) (parts : Array (Nat × Operand)) (ho : o.op = .build t parts) (vs : Array (Nat × Value)) (hvs : (parts.map fun (i, x) => (i, a.eval x)) = vs) (v : Value)
    (hr : (Instr.build t vs).run Tryz.prog w = .ok v w) (h : wpList Tryz.prog ops Q rest (a.put o.dst v) w) : wpList Tryz.prog ops Q (o :: rest) a w := by
  refine wpList_plain hgd fun K hK => ?_
  unfold Oper.wp execOp
  simp only [ho, hvs, Sem.run_bind, Sem.run_pure, Result.andThen_ok, hr]
  exact hK _ _ h
set_option maxHeartbeats 2000000 in
set_option maxRecDepth 100000 in
theorem cau_New_off (s : List Int) (hs : s.length = 8) (hm : mayV s = false) (w : World) : Calls Tryz.prog 6 #[.agg (vec s)] w fun e w' => e = .returned (.pointer none) ∧ Below w.heap.size w w' := by
  have HM := Hd.mk (vec_May s hs)
  rw [hm] at HM
  have K0 := Hd.mk (Holds.start1 w (.cells (vec s) 32 (0, 0)))
  have HSZ : Hd ((Tryz.prog.info? 32).map (·.size) = some (vec s).size) := ⟨by rw [vec_size, hs]; exact size_vec⟩
  clear hs hm
  go_enter Tryz.func6, Tryz.ntmps6
  go_upto_region 1 with (fail)
  refine world_gen _ K0.out (fun W hK => ?_)
  have K1 := Hd.mk hK
  clear hK K0
  go_wp2_with (first | ((with_reducible refine gate_load (t := 32) rfl ?_); refine wpList_load_row rfl _ _ rfl w.heap.size rfl 32 (vec s) (0, 0) _ (K1.out.get 0 rfl) Tryz.underlying32 rfl HSZ.out ?_))
  refine (HM.out _).mono ?_; rintro e w1 ⟨rfl, hb⟩
  have K2 := Hd.mk (K1.out.call hb)
  clear hb K1 HM
  go_wp2_with fail
  go_ret
  exact ⟨rfl, K2.out.2⟩
set_option maxHeartbeats 2000000 in
set_option maxRecDepth 100000 in
theorem cau_New (s : List Int) (hs : s.length = 8) (hm : mayV s = true) (w : World) : Calls Tryz.prog 6 #[.agg (vec s)] w fun e w' => ∃ p, e = .returned (.pointer (some ⟨p, 0, none⟩)) ∧ NewHolds w p (.cells (bufC s (.slice none 0 0)) 65 (0, 0)) [] w' := by
  have HM := Hd.mk (vec_May s hs)
  rw [hm] at HM
  have HB := Hd.mk (build_buf s hs)
  have K0 := Hd.mk (Holds.start1 w (.cells (vec s) 32 (0, 0)))
  have HSZ : Hd ((Tryz.prog.info? 32).map (·.size) = some (vec s).size) := ⟨by rw [vec_size, hs]; exact size_vec⟩
  clear hs hm
  go_enter Tryz.func6, Tryz.ntmps6
  go_upto_region 1 with (fail)
  refine world_gen _ K0.out (fun W hK => ?_)
  have K1 := Hd.mk hK
  clear hK K0
  go_wp2_with (first | ((with_reducible refine gate_load (t := 32) rfl ?_); refine wpList_load_row rfl _ _ rfl w.heap.size rfl 32 (vec s) (0, 0) _ (K1.out.get 0 rfl) Tryz.underlying32 rfl HSZ.out ?_))
  refine (HM.out _).mono ?_; rintro e w1 ⟨rfl, hb⟩
  have K2 := Hd.mk (K1.out.call hb)
  clear hb K1 HM
  go_wp2_with (first | ((with_reducible refine gate_load (t := 32) rfl ?_); refine wpList_load_row rfl _ _ rfl w.heap.size rfl 32 (vec s) (0, 0) _ (K2.out.get 0 rfl) Tryz.underlying32 rfl HSZ.out ?_) | ((with_reducible refine gate_dst (N := 7) rfl ?_); refine wpList_buildB rfl _ _ rfl #[(0, .agg (vec s))] (by simp only [List.map_toArray, List.map_cons, List.map_nil]; rfl) _ (HB.out _) ?_))
  go_ret
  have h := K2.out.fresh (.cells (bufC s (.slice none 0 0)) 65 (0, 0))
  exact ⟨_, rfl, ⟨⟨fun p hp => h.1.1 p (by rw [List.mem_singleton] at hp; subst hp; exact List.mem_cons_self), h.1.2⟩, h.2.1, by simp⟩⟩
end Go.Proofs.YtcgkkjfbdappoaaGreat
