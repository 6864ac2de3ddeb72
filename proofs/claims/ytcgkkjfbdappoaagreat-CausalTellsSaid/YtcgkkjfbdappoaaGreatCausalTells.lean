/- The law CausalTells: whether any message may be, its bytes, and what any string begins with, are the document's. -/
import Derived.Test.YtcgkkjfbdappoaaGreatCauTellsC
import Derived.Test.YtcgkkjfbdappoaaGreatCauShown
namespace Go.Proofs.YtcgkkjfbdappoaaGreat.causalTells
open Go.RowKit Go.Proofs.YtcgkkjfbdappoaaGreatW.PrintWords Go.Proofs.YtcgkkjfbdappoaaGreatW.PrintLast Go.Proofs.YtcgkkjfbdappoaaGreatW.PrintMore Pk
set_option linter.unusedVariables false
set_option linter.unusedSimpArgs false

theorem refmsg_size : (Tryz.prog.info? 41).map (·.size) = some 22 := by kernel_rfl
set_option maxHeartbeats 4000000 in
set_option maxRecDepth 100000 in
/-- What is long is let go. -/
theorem tells_idle (m : MsgV) (s : ByteArray) (h : 2000 < s.size ∨ fewO m.opv = false) (w : World) :
    Calls Tryz.prog 4 #[.agg #[.int .i64 m.q, .int .i64 m.d0, .int .i64 m.d1, .int .i64 m.d2, .int .i64 m.d3, .int .i64 m.d4, .int .i64 m.d5, .int .i64 m.d6, .int .i64 m.d7, .int .i64 m.t, .int .i64 m.r, .int .i64 m.k, .int .i64 m.a0, .int .i64 m.a1, .int .i64 m.i0, .int .i64 m.i1, .int .i64 m.t0, .int .i64 m.t1, .string m.nm, .string m.nw, .int .i64 m.off, .string m.dt], .string s] w fun e w' => e = .returned (.bool true) ∧ Below w.heap.size w w' := by
  have HS := Hd.mk (fun w => cau_shown w)
  have K0 := Hd.mk (Holds.start1 w (.cells #[.int .i64 m.q, .int .i64 m.d0, .int .i64 m.d1, .int .i64 m.d2, .int .i64 m.d3, .int .i64 m.d4, .int .i64 m.d5, .int .i64 m.d6, .int .i64 m.d7, .int .i64 m.t, .int .i64 m.r, .int .i64 m.k, .int .i64 m.a0, .int .i64 m.a1, .int .i64 m.i0, .int .i64 m.i1, .int .i64 m.t0, .int .i64 m.t1, .string m.nm, .string m.nw, .int .i64 m.off, .string m.dt] 41 (0, 0)))
  by_cases h0 : 2000 < s.size
  · have d0 : (2000 : Int) < (s.size : Int) := by omega
    have e0 : decide ((2000 : Int) < (s.size : Int)) = true := decide_eq_true d0
    clear h h0
    go_enter Tryz.func4, Tryz.ntmps4
    go_wp2_with fail
    refine world_gen_calls _ K0.out (fun W hK => ?_)
    have K0 := Hd.mk hK
    clear hK
    refine (HS.out _).mono ?_; rintro e w1 ⟨rfl, hb1⟩
    have K1 := Hd.mk (K0.out.call hb1)
    clear hb1 K0
    go_wp2_with fail
    go_ret
    exact ⟨rfl, K1.out.2⟩
  · have d0 : ¬ (2000 : Int) < (s.size : Int) := by omega
    have e0 : decide ((2000 : Int) < (s.size : Int)) = false := decide_eq_false d0
    have HF := Hd.mk (few_c m.opv)
    rw [h.resolve_left h0] at HF
    clear h h0
    go_enter Tryz.func4, Tryz.ntmps4
    go_wp2_with fail
    refine world_gen_calls _ K0.out (fun W hK => ?_)
    have K0 := Hd.mk hK
    clear hK
    refine (HS.out _).mono ?_; rintro e w1 ⟨rfl, hb1⟩
    have K1 := Hd.mk (K0.out.call hb1)
    clear hb1 K0
    go_wp2_with (first | (refine gate_guard (by rfl) ?_; (with_reducible refine gate_dst (N := 22) rfl ?_); refine wpList_load_mid rfl _ _ rfl w.heap.size 9 rfl #[.int .i64 m.t, .int .i64 m.r, .int .i64 m.k, .int .i64 m.a0, .int .i64 m.a1, .int .i64 m.i0, .int .i64 m.i1, .int .i64 m.t0, .int .i64 m.t1, .string m.nm, .string m.nw, .int .i64 m.off, .string m.dt].toList _ (fun j v hj => (cell_of_row w1 _ _ _ _ _ (K1.out.get 0 rfl)).trans (by simpa [Nat.add_comm] using hj)) Tryz.underlying36 rfl size_opM ?_))
    refine (HF.out _).mono ?_; rintro e w2 ⟨rfl, hb2⟩
    have K2 := Hd.mk (K1.out.call hb2)
    clear hb2 K1
    go_wp2_with fail
    go_ret
    exact ⟨rfl, K2.out.2⟩
set_option maxHeartbeats 8000000 in
set_option maxRecDepth 100000 in
theorem tells_walk (m x b4 : MsgV) (s p q q4 : ByteArray) (c c4 : Int) (mB : Bool) (hb : mB = true → b4 = m ∧ q4 = s ∧ c4 = 0) (hs : s.size ≤ 2000) (hf : fewO m.opv = true) (hp : p.size + s.size ≤ 9223372036854775807) (w : World)
    (HT1 : Hd (∀ w, Calls Tryz.prog 18 #[.string s] w fun e w' => e = .returned (.tuple #[.agg #[.int .i64 x.q, .int .i64 x.d0, .int .i64 x.d1, .int .i64 x.d2, .int .i64 x.d3, .int .i64 x.d4, .int .i64 x.d5, .int .i64 x.d6, .int .i64 x.d7, .int .i64 x.t, .int .i64 x.r, .int .i64 x.k, .int .i64 x.a0, .int .i64 x.a1, .int .i64 x.i0, .int .i64 x.i1, .int .i64 x.t0, .int .i64 x.t1, .string x.nm, .string x.nw, .int .i64 x.off, .string x.dt], .string q, .int .i64 c]) ∧ Below w.heap.size w w'))
    (HT2 : Hd (∀ w, Calls Tryz.prog 19 #[.string s] w fun e w' => e = .returned (.tuple #[.agg #[.int .i64 x.q, .int .i64 x.d0, .int .i64 x.d1, .int .i64 x.d2, .int .i64 x.d3, .int .i64 x.d4, .int .i64 x.d5, .int .i64 x.d6, .int .i64 x.d7, .int .i64 x.t, .int .i64 x.r, .int .i64 x.k, .int .i64 x.a0, .int .i64 x.a1, .int .i64 x.i0, .int .i64 x.i1, .int .i64 x.t0, .int .i64 x.t1, .string x.nm, .string x.nw, .int .i64 x.off, .string x.dt], .string q, .int .i64 c]) ∧ Below w.heap.size w w'))
    (HT4 : Hd (∀ w, Calls Tryz.prog 18 #[.string (p ++ s)] w fun e w' => e = .returned (.tuple #[.agg #[.int .i64 b4.q, .int .i64 b4.d0, .int .i64 b4.d1, .int .i64 b4.d2, .int .i64 b4.d3, .int .i64 b4.d4, .int .i64 b4.d5, .int .i64 b4.d6, .int .i64 b4.d7, .int .i64 b4.t, .int .i64 b4.r, .int .i64 b4.k, .int .i64 b4.a0, .int .i64 b4.a1, .int .i64 b4.i0, .int .i64 b4.i1, .int .i64 b4.t0, .int .i64 b4.t1, .string b4.nm, .string b4.nw, .int .i64 b4.off, .string b4.dt], .string q4, .int .i64 c4]) ∧ Below w.heap.size w w'))
    (HM1 : Hd (∀ w, Calls Tryz.prog 20 #[.agg #[.int .i64 m.q, .int .i64 m.d0, .int .i64 m.d1, .int .i64 m.d2, .int .i64 m.d3, .int .i64 m.d4, .int .i64 m.d5, .int .i64 m.d6, .int .i64 m.d7, .int .i64 m.t, .int .i64 m.r, .int .i64 m.k, .int .i64 m.a0, .int .i64 m.a1, .int .i64 m.i0, .int .i64 m.i1, .int .i64 m.t0, .int .i64 m.t1, .string m.nm, .string m.nw, .int .i64 m.off, .string m.dt]] w fun e w' => e = .returned (.bool mB) ∧ Below w.heap.size w w'))
    (HM2 : Hd (∀ w, Calls Tryz.prog 22 #[.agg #[.int .i64 m.q, .int .i64 m.d0, .int .i64 m.d1, .int .i64 m.d2, .int .i64 m.d3, .int .i64 m.d4, .int .i64 m.d5, .int .i64 m.d6, .int .i64 m.d7, .int .i64 m.t, .int .i64 m.r, .int .i64 m.k, .int .i64 m.a0, .int .i64 m.a1, .int .i64 m.i0, .int .i64 m.i1, .int .i64 m.t0, .int .i64 m.t1, .string m.nm, .string m.nw, .int .i64 m.off, .string m.dt]] w fun e w' => e = .returned (.bool mB) ∧ Below w.heap.size w w'))
    (HP1 : Hd (∀ w, Calls Tryz.prog 21 #[.agg #[.int .i64 m.q, .int .i64 m.d0, .int .i64 m.d1, .int .i64 m.d2, .int .i64 m.d3, .int .i64 m.d4, .int .i64 m.d5, .int .i64 m.d6, .int .i64 m.d7, .int .i64 m.t, .int .i64 m.r, .int .i64 m.k, .int .i64 m.a0, .int .i64 m.a1, .int .i64 m.i0, .int .i64 m.i1, .int .i64 m.t0, .int .i64 m.t1, .string m.nm, .string m.nw, .int .i64 m.off, .string m.dt]] w fun e w' => e = .returned (.string p) ∧ Below w.heap.size w w'))
    (HP2 : Hd (∀ w, Calls Tryz.prog 23 #[.agg #[.int .i64 m.q, .int .i64 m.d0, .int .i64 m.d1, .int .i64 m.d2, .int .i64 m.d3, .int .i64 m.d4, .int .i64 m.d5, .int .i64 m.d6, .int .i64 m.d7, .int .i64 m.t, .int .i64 m.r, .int .i64 m.k, .int .i64 m.a0, .int .i64 m.a1, .int .i64 m.i0, .int .i64 m.i1, .int .i64 m.t0, .int .i64 m.t1, .string m.nm, .string m.nw, .int .i64 m.off, .string m.dt]] w fun e w' => e = .returned (.string p) ∧ Below w.heap.size w w')) :
    Calls Tryz.prog 4 #[.agg #[.int .i64 m.q, .int .i64 m.d0, .int .i64 m.d1, .int .i64 m.d2, .int .i64 m.d3, .int .i64 m.d4, .int .i64 m.d5, .int .i64 m.d6, .int .i64 m.d7, .int .i64 m.t, .int .i64 m.r, .int .i64 m.k, .int .i64 m.a0, .int .i64 m.a1, .int .i64 m.i0, .int .i64 m.i1, .int .i64 m.t0, .int .i64 m.t1, .string m.nm, .string m.nw, .int .i64 m.off, .string m.dt], .string s] w fun e w' => e = .returned (.bool true) ∧ Below w.heap.size w w' := by
  have HS := Hd.mk (fun w => cau_shown w)
  have HF := Hd.mk (few_c m.opv)
  rw [hf] at HF
  have HMd : Hd (∀ w, Calls Tryz.prog 9 #[.agg #[.int .i64 m.q, .int .i64 m.d0, .int .i64 m.d1, .int .i64 m.d2, .int .i64 m.d3, .int .i64 m.d4, .int .i64 m.d5, .int .i64 m.d6, .int .i64 m.d7, .int .i64 m.t, .int .i64 m.r, .int .i64 m.k, .int .i64 m.a0, .int .i64 m.a1, .int .i64 m.i0, .int .i64 m.i1, .int .i64 m.t0, .int .i64 m.t1, .string m.nm, .string m.nw, .int .i64 m.off, .string m.dt]] w fun e w' => e = .returned (.agg #[.int .i64 m.q, .int .i64 m.d0, .int .i64 m.d1, .int .i64 m.d2, .int .i64 m.d3, .int .i64 m.d4, .int .i64 m.d5, .int .i64 m.d6, .int .i64 m.d7, .int .i64 m.t, .int .i64 m.r, .int .i64 m.k, .int .i64 m.a0, .int .i64 m.a1, .int .i64 m.i0, .int .i64 m.i1, .int .i64 m.t0, .int .i64 m.t1, .string m.nm, .string m.nw, .int .i64 m.off, .string m.dt]) ∧ Below w.heap.size w w') := ⟨fun w => msg_made m w⟩
  have HSX : Hd (∀ w, Calls Tryz.prog 13 #[.agg #[.int .i64 x.q, .int .i64 x.d0, .int .i64 x.d1, .int .i64 x.d2, .int .i64 x.d3, .int .i64 x.d4, .int .i64 x.d5, .int .i64 x.d6, .int .i64 x.d7, .int .i64 x.t, .int .i64 x.r, .int .i64 x.k, .int .i64 x.a0, .int .i64 x.a1, .int .i64 x.i0, .int .i64 x.i1, .int .i64 x.t0, .int .i64 x.t1, .string x.nm, .string x.nw, .int .i64 x.off, .string x.dt], .agg #[.int .i64 x.q, .int .i64 x.d0, .int .i64 x.d1, .int .i64 x.d2, .int .i64 x.d3, .int .i64 x.d4, .int .i64 x.d5, .int .i64 x.d6, .int .i64 x.d7, .int .i64 x.t, .int .i64 x.r, .int .i64 x.k, .int .i64 x.a0, .int .i64 x.a1, .int .i64 x.i0, .int .i64 x.i1, .int .i64 x.t0, .int .i64 x.t1, .string x.nm, .string x.nw, .int .i64 x.off, .string x.dt]] w fun e w' => e = .returned (.bool true) ∧ Below w.heap.size w w') := ⟨fun w => law_same x w⟩
  have HSM : Hd (∀ w, Calls Tryz.prog 13 #[.agg #[.int .i64 m.q, .int .i64 m.d0, .int .i64 m.d1, .int .i64 m.d2, .int .i64 m.d3, .int .i64 m.d4, .int .i64 m.d5, .int .i64 m.d6, .int .i64 m.d7, .int .i64 m.t, .int .i64 m.r, .int .i64 m.k, .int .i64 m.a0, .int .i64 m.a1, .int .i64 m.i0, .int .i64 m.i1, .int .i64 m.t0, .int .i64 m.t1, .string m.nm, .string m.nw, .int .i64 m.off, .string m.dt], .agg #[.int .i64 m.q, .int .i64 m.d0, .int .i64 m.d1, .int .i64 m.d2, .int .i64 m.d3, .int .i64 m.d4, .int .i64 m.d5, .int .i64 m.d6, .int .i64 m.d7, .int .i64 m.t, .int .i64 m.r, .int .i64 m.k, .int .i64 m.a0, .int .i64 m.a1, .int .i64 m.i0, .int .i64 m.i1, .int .i64 m.t0, .int .i64 m.t1, .string m.nm, .string m.nw, .int .i64 m.off, .string m.dt]] w fun e w' => e = .returned (.bool true) ∧ Below w.heap.size w w') := ⟨fun w => law_same m w⟩
  have K0 := Hd.mk (Holds.start1 w (.cells #[.int .i64 m.q, .int .i64 m.d0, .int .i64 m.d1, .int .i64 m.d2, .int .i64 m.d3, .int .i64 m.d4, .int .i64 m.d5, .int .i64 m.d6, .int .i64 m.d7, .int .i64 m.t, .int .i64 m.r, .int .i64 m.k, .int .i64 m.a0, .int .i64 m.a1, .int .i64 m.i0, .int .i64 m.i1, .int .i64 m.t0, .int .i64 m.t1, .string m.nm, .string m.nw, .int .i64 m.off, .string m.dt] 41 (0, 0)))
  have d0 : ¬ (2000 : Int) < (s.size : Int) := by omega
  have e0 : decide ((2000 : Int) < (s.size : Int)) = false := decide_eq_false d0
  have y1 : (9223372036854775807 < p.size + s.size) = False := eq_false (by omega)
  have HB := Hd.mk hb
  clear hs hf hp hb
  go_enter Tryz.func4, Tryz.ntmps4
  go_wp2_with fail
  refine world_gen_calls _ K0.out (fun W hK => ?_)
  have K0 := Hd.mk hK
  clear hK
  refine (HS.out _).mono ?_; rintro e w1 ⟨rfl, hb1⟩
  have K1 := Hd.mk (K0.out.call hb1)
  clear hb1 K0 HS
  go_wp2_with (first | (refine gate_guard (by rfl) ?_; (with_reducible refine gate_dst (N := 22) rfl ?_); refine wpList_load_mid rfl _ _ rfl w.heap.size 9 rfl #[.int .i64 m.t, .int .i64 m.r, .int .i64 m.k, .int .i64 m.a0, .int .i64 m.a1, .int .i64 m.i0, .int .i64 m.i1, .int .i64 m.t0, .int .i64 m.t1, .string m.nm, .string m.nw, .int .i64 m.off, .string m.dt].toList _ (fun j v hj => (cell_of_row w1 _ _ _ _ _ (K1.out.get 0 rfl)).trans (by simpa [Nat.add_comm] using hj)) Tryz.underlying36 rfl size_opM ?_))
  refine (HF.out _).mono ?_; rintro e w2 ⟨rfl, hb2⟩
  have K2 := Hd.mk (K1.out.call hb2)
  clear hb2 K1 HF
  go_wp2_with fail
  clear d0 e0
  refine (HT1.out _).mono ?_; rintro e w3 ⟨rfl, hb3⟩
  have K3 := Hd.mk (K2.out.call hb3)
  clear hb3 K2 HT1
  go_upto_region 5 with (first | ((with_reducible refine gate_store (t := 38) rfl ?_); refine wpList_store_row rfl _ _ _ rfl w3.heap.size #[.int .i64 x.q, .int .i64 x.d0, .int .i64 x.d1, .int .i64 x.d2, .int .i64 x.d3, .int .i64 x.d4, .int .i64 x.d5, .int .i64 x.d6, .int .i64 x.d7, .int .i64 x.t, .int .i64 x.r, .int .i64 x.k, .int .i64 x.a0, .int .i64 x.a1, .int .i64 x.i0, .int .i64 x.i1, .int .i64 x.t0, .int .i64 x.t1, .string x.nm, .string x.nw, .int .i64 x.off, .string x.dt] rfl rfl 38 _ (heap_alloc_new w3 _) size_msg rfl (zm_one x) ?_))
  refine world_gen (fun W_ => Holds w [(w3.heap.size, .cells #[.int .i64 x.q, .int .i64 x.d0, .int .i64 x.d1, .int .i64 x.d2, .int .i64 x.d3, .int .i64 x.d4, .int .i64 x.d5, .int .i64 x.d6, .int .i64 x.d7, .int .i64 x.t, .int .i64 x.r, .int .i64 x.k, .int .i64 x.a0, .int .i64 x.a1, .int .i64 x.i0, .int .i64 x.i1, .int .i64 x.t0, .int .i64 x.t1, .string x.nm, .string x.nw, .int .i64 x.off, .string x.dt] 38 (0, 0)), (w.heap.size, .cells #[.int .i64 m.q, .int .i64 m.d0, .int .i64 m.d1, .int .i64 m.d2, .int .i64 m.d3, .int .i64 m.d4, .int .i64 m.d5, .int .i64 m.d6, .int .i64 m.d7, .int .i64 m.t, .int .i64 m.r, .int .i64 m.k, .int .i64 m.a0, .int .i64 m.a1, .int .i64 m.i0, .int .i64 m.i1, .int .i64 m.t0, .int .i64 m.t1, .string m.nm, .string m.nw, .int .i64 m.off, .string m.dt] 41 (0, 0))] W_) (K3.out.made _ #[.int .i64 x.q, .int .i64 x.d0, .int .i64 x.d1, .int .i64 x.d2, .int .i64 x.d3, .int .i64 x.d4, .int .i64 x.d5, .int .i64 x.d6, .int .i64 x.d7, .int .i64 x.t, .int .i64 x.r, .int .i64 x.k, .int .i64 x.a0, .int .i64 x.a1, .int .i64 x.i0, .int .i64 x.i1, .int .i64 x.t0, .int .i64 x.t1, .string x.nm, .string x.nw, .int .i64 x.off, .string x.dt] 38) (fun W3 hK => ?_)
  have K4 := Hd.mk hK
  clear hK K3
  generalize w3.heap.size = bx at *
  go_wp2_with fail
  refine (HT2.out _).mono ?_; rintro e w4 ⟨rfl, hb4⟩
  have K5 := Hd.mk (K4.out.call hb4)
  clear hb4 K4 HT2
  go_upto_region 6 with (first | ((with_reducible refine gate_store (t := 41) rfl ?_); refine wpList_store_row rfl _ _ _ rfl w4.heap.size #[.int .i64 x.q, .int .i64 x.d0, .int .i64 x.d1, .int .i64 x.d2, .int .i64 x.d3, .int .i64 x.d4, .int .i64 x.d5, .int .i64 x.d6, .int .i64 x.d7, .int .i64 x.t, .int .i64 x.r, .int .i64 x.k, .int .i64 x.a0, .int .i64 x.a1, .int .i64 x.i0, .int .i64 x.i1, .int .i64 x.t0, .int .i64 x.t1, .string x.nm, .string x.nw, .int .i64 x.off, .string x.dt] rfl rfl 41 _ (heap_alloc_new w4 _) refmsg_size rfl (zm_one x) ?_))
  refine world_gen (fun W_ => Holds w [(w4.heap.size, .cells #[.int .i64 x.q, .int .i64 x.d0, .int .i64 x.d1, .int .i64 x.d2, .int .i64 x.d3, .int .i64 x.d4, .int .i64 x.d5, .int .i64 x.d6, .int .i64 x.d7, .int .i64 x.t, .int .i64 x.r, .int .i64 x.k, .int .i64 x.a0, .int .i64 x.a1, .int .i64 x.i0, .int .i64 x.i1, .int .i64 x.t0, .int .i64 x.t1, .string x.nm, .string x.nw, .int .i64 x.off, .string x.dt] 41 (0, 0)), (bx, .cells #[.int .i64 x.q, .int .i64 x.d0, .int .i64 x.d1, .int .i64 x.d2, .int .i64 x.d3, .int .i64 x.d4, .int .i64 x.d5, .int .i64 x.d6, .int .i64 x.d7, .int .i64 x.t, .int .i64 x.r, .int .i64 x.k, .int .i64 x.a0, .int .i64 x.a1, .int .i64 x.i0, .int .i64 x.i1, .int .i64 x.t0, .int .i64 x.t1, .string x.nm, .string x.nw, .int .i64 x.off, .string x.dt] 38 (0, 0)), (w.heap.size, .cells #[.int .i64 m.q, .int .i64 m.d0, .int .i64 m.d1, .int .i64 m.d2, .int .i64 m.d3, .int .i64 m.d4, .int .i64 m.d5, .int .i64 m.d6, .int .i64 m.d7, .int .i64 m.t, .int .i64 m.r, .int .i64 m.k, .int .i64 m.a0, .int .i64 m.a1, .int .i64 m.i0, .int .i64 m.i1, .int .i64 m.t0, .int .i64 m.t1, .string m.nm, .string m.nw, .int .i64 m.off, .string m.dt] 41 (0, 0))] W_) (K5.out.made _ #[.int .i64 x.q, .int .i64 x.d0, .int .i64 x.d1, .int .i64 x.d2, .int .i64 x.d3, .int .i64 x.d4, .int .i64 x.d5, .int .i64 x.d6, .int .i64 x.d7, .int .i64 x.t, .int .i64 x.r, .int .i64 x.k, .int .i64 x.a0, .int .i64 x.a1, .int .i64 x.i0, .int .i64 x.i1, .int .i64 x.t0, .int .i64 x.t1, .string x.nm, .string x.nw, .int .i64 x.off, .string x.dt] 41) (fun W5 hK => ?_)
  have K6 := Hd.mk hK
  clear hK K5
  generalize w4.heap.size = bY at *
  go_wp2_with (first | ((with_reducible refine gate_dst (N := 39) rfl ?_); refine wpList_load_mid rfl _ _ rfl w.heap.size 0 rfl #[.int .i64 m.q, .int .i64 m.d0, .int .i64 m.d1, .int .i64 m.d2, .int .i64 m.d3, .int .i64 m.d4, .int .i64 m.d5, .int .i64 m.d6, .int .i64 m.d7, .int .i64 m.t, .int .i64 m.r, .int .i64 m.k, .int .i64 m.a0, .int .i64 m.a1, .int .i64 m.i0, .int .i64 m.i1, .int .i64 m.t0, .int .i64 m.t1, .string m.nm, .string m.nw, .int .i64 m.off, .string m.dt].toList _ (fun j v hj => (cell_of_row W5 _ _ _ _ _ (K6.out.get 2 rfl)).trans (by simpa [Nat.add_comm] using hj)) Tryz.underlying41 rfl refmsg_size ?_))
  refine (HMd.out _).mono ?_; rintro e w6 ⟨rfl, hb6⟩
  have K7 := Hd.mk (K6.out.call hb6)
  clear hb6 K6
  go_wp2_with fail
  refine (HM1.out _).mono ?_; rintro e w7 ⟨rfl, hb7⟩
  have K8 := Hd.mk (K7.out.call hb7)
  clear hb7 K7 HM1
  go_wp2_with (first | ((with_reducible refine gate_dst (N := 43) rfl ?_); refine wpList_load_mid rfl _ _ rfl w.heap.size 0 rfl #[.int .i64 m.q, .int .i64 m.d0, .int .i64 m.d1, .int .i64 m.d2, .int .i64 m.d3, .int .i64 m.d4, .int .i64 m.d5, .int .i64 m.d6, .int .i64 m.d7, .int .i64 m.t, .int .i64 m.r, .int .i64 m.k, .int .i64 m.a0, .int .i64 m.a1, .int .i64 m.i0, .int .i64 m.i1, .int .i64 m.t0, .int .i64 m.t1, .string m.nm, .string m.nw, .int .i64 m.off, .string m.dt].toList _ (fun j v hj => (cell_of_row w7 _ _ _ _ _ (K8.out.get 2 rfl)).trans (by simpa [Nat.add_comm] using hj)) Tryz.underlying41 rfl refmsg_size ?_))
  refine (HMd.out _).mono ?_; rintro e w8 ⟨rfl, hb8⟩
  have K9 := Hd.mk (K8.out.call hb8)
  clear hb8 K8
  go_wp2_with fail
  refine (HP1.out _).mono ?_; rintro e w9 ⟨rfl, hb9⟩
  have K10 := Hd.mk (K9.out.call hb9)
  clear hb9 K9
  go_wp2_with fail
  refine (HT4.out _).mono ?_; rintro e wa ⟨rfl, hba⟩
  have K11 := Hd.mk (K10.out.call hba)
  clear hba K10 HT4 y1
  go_upto_region 8 with (first | ((with_reducible refine gate_store (t := 38) rfl ?_); refine wpList_store_row rfl _ _ _ rfl wa.heap.size #[.int .i64 b4.q, .int .i64 b4.d0, .int .i64 b4.d1, .int .i64 b4.d2, .int .i64 b4.d3, .int .i64 b4.d4, .int .i64 b4.d5, .int .i64 b4.d6, .int .i64 b4.d7, .int .i64 b4.t, .int .i64 b4.r, .int .i64 b4.k, .int .i64 b4.a0, .int .i64 b4.a1, .int .i64 b4.i0, .int .i64 b4.i1, .int .i64 b4.t0, .int .i64 b4.t1, .string b4.nm, .string b4.nw, .int .i64 b4.off, .string b4.dt] rfl rfl 38 _ (heap_alloc_new wa _) size_msg rfl (zm_one b4) ?_))
  refine world_gen (fun W_ => Holds w [(wa.heap.size, .cells #[.int .i64 b4.q, .int .i64 b4.d0, .int .i64 b4.d1, .int .i64 b4.d2, .int .i64 b4.d3, .int .i64 b4.d4, .int .i64 b4.d5, .int .i64 b4.d6, .int .i64 b4.d7, .int .i64 b4.t, .int .i64 b4.r, .int .i64 b4.k, .int .i64 b4.a0, .int .i64 b4.a1, .int .i64 b4.i0, .int .i64 b4.i1, .int .i64 b4.t0, .int .i64 b4.t1, .string b4.nm, .string b4.nw, .int .i64 b4.off, .string b4.dt] 38 (0, 0)), (bY, .cells #[.int .i64 x.q, .int .i64 x.d0, .int .i64 x.d1, .int .i64 x.d2, .int .i64 x.d3, .int .i64 x.d4, .int .i64 x.d5, .int .i64 x.d6, .int .i64 x.d7, .int .i64 x.t, .int .i64 x.r, .int .i64 x.k, .int .i64 x.a0, .int .i64 x.a1, .int .i64 x.i0, .int .i64 x.i1, .int .i64 x.t0, .int .i64 x.t1, .string x.nm, .string x.nw, .int .i64 x.off, .string x.dt] 41 (0, 0)), (bx, .cells #[.int .i64 x.q, .int .i64 x.d0, .int .i64 x.d1, .int .i64 x.d2, .int .i64 x.d3, .int .i64 x.d4, .int .i64 x.d5, .int .i64 x.d6, .int .i64 x.d7, .int .i64 x.t, .int .i64 x.r, .int .i64 x.k, .int .i64 x.a0, .int .i64 x.a1, .int .i64 x.i0, .int .i64 x.i1, .int .i64 x.t0, .int .i64 x.t1, .string x.nm, .string x.nw, .int .i64 x.off, .string x.dt] 38 (0, 0)), (w.heap.size, .cells #[.int .i64 m.q, .int .i64 m.d0, .int .i64 m.d1, .int .i64 m.d2, .int .i64 m.d3, .int .i64 m.d4, .int .i64 m.d5, .int .i64 m.d6, .int .i64 m.d7, .int .i64 m.t, .int .i64 m.r, .int .i64 m.k, .int .i64 m.a0, .int .i64 m.a1, .int .i64 m.i0, .int .i64 m.i1, .int .i64 m.t0, .int .i64 m.t1, .string m.nm, .string m.nw, .int .i64 m.off, .string m.dt] 41 (0, 0))] W_) (K11.out.made _ #[.int .i64 b4.q, .int .i64 b4.d0, .int .i64 b4.d1, .int .i64 b4.d2, .int .i64 b4.d3, .int .i64 b4.d4, .int .i64 b4.d5, .int .i64 b4.d6, .int .i64 b4.d7, .int .i64 b4.t, .int .i64 b4.r, .int .i64 b4.k, .int .i64 b4.a0, .int .i64 b4.a1, .int .i64 b4.i0, .int .i64 b4.i1, .int .i64 b4.t0, .int .i64 b4.t1, .string b4.nm, .string b4.nw, .int .i64 b4.off, .string b4.dt] 38) (fun W11 hK => ?_)
  have K12 := Hd.mk hK
  clear hK K11
  generalize wa.heap.size = bZ at *
  cases mB
  · clear HB HSM
    refine st_ 49 (S := fun W_ => Holds w [(bZ, .cells #[.int .i64 b4.q, .int .i64 b4.d0, .int .i64 b4.d1, .int .i64 b4.d2, .int .i64 b4.d3, .int .i64 b4.d4, .int .i64 b4.d5, .int .i64 b4.d6, .int .i64 b4.d7, .int .i64 b4.t, .int .i64 b4.r, .int .i64 b4.k, .int .i64 b4.a0, .int .i64 b4.a1, .int .i64 b4.i0, .int .i64 b4.i1, .int .i64 b4.t0, .int .i64 b4.t1, .string b4.nm, .string b4.nw, .int .i64 b4.off, .string b4.dt] 38 (0, 0)), (bY, .cells #[.int .i64 x.q, .int .i64 x.d0, .int .i64 x.d1, .int .i64 x.d2, .int .i64 x.d3, .int .i64 x.d4, .int .i64 x.d5, .int .i64 x.d6, .int .i64 x.d7, .int .i64 x.t, .int .i64 x.r, .int .i64 x.k, .int .i64 x.a0, .int .i64 x.a1, .int .i64 x.i0, .int .i64 x.i1, .int .i64 x.t0, .int .i64 x.t1, .string x.nm, .string x.nw, .int .i64 x.off, .string x.dt] 41 (0, 0)), (bx, .cells #[.int .i64 x.q, .int .i64 x.d0, .int .i64 x.d1, .int .i64 x.d2, .int .i64 x.d3, .int .i64 x.d4, .int .i64 x.d5, .int .i64 x.d6, .int .i64 x.d7, .int .i64 x.t, .int .i64 x.r, .int .i64 x.k, .int .i64 x.a0, .int .i64 x.a1, .int .i64 x.i0, .int .i64 x.i1, .int .i64 x.t0, .int .i64 x.t1, .string x.nm, .string x.nw, .int .i64 x.off, .string x.dt] 38 (0, 0)), (w.heap.size, .cells #[.int .i64 m.q, .int .i64 m.d0, .int .i64 m.d1, .int .i64 m.d2, .int .i64 m.d3, .int .i64 m.d4, .int .i64 m.d5, .int .i64 m.d6, .int .i64 m.d7, .int .i64 m.t, .int .i64 m.r, .int .i64 m.k, .int .i64 m.a0, .int .i64 m.a1, .int .i64 m.i0, .int .i64 m.i1, .int .i64 m.t0, .int .i64 m.t1, .string m.nm, .string m.nw, .int .i64 m.off, .string m.dt] 41 (0, 0))] W_) (ds := []) (K12.out.drew) (fun hHeld => ?_)
    refine pu_ 0 (some 52) ?_
    refine pu_ 1 (some 53) ?_
    refine pu_ 2 (some 54) ?_
    refine tk_ 3 (some 55) (.agg #[.int .i64 m.q, .int .i64 m.d0, .int .i64 m.d1, .int .i64 m.d2, .int .i64 m.d3, .int .i64 m.d4, .int .i64 m.d5, .int .i64 m.d6, .int .i64 m.d7, .int .i64 m.t, .int .i64 m.r, .int .i64 m.k, .int .i64 m.a0, .int .i64 m.a1, .int .i64 m.i0, .int .i64 m.i1, .int .i64 m.t0, .int .i64 m.t1, .string m.nm, .string m.nw, .int .i64 m.off, .string m.dt]) rfl (fun w' h => run_load_mid 41 _ rfl w.heap.size 0 #[.int .i64 m.q, .int .i64 m.d0, .int .i64 m.d1, .int .i64 m.d2, .int .i64 m.d3, .int .i64 m.d4, .int .i64 m.d5, .int .i64 m.d6, .int .i64 m.d7, .int .i64 m.t, .int .i64 m.r, .int .i64 m.k, .int .i64 m.a0, .int .i64 m.a1, .int .i64 m.i0, .int .i64 m.i1, .int .i64 m.t0, .int .i64 m.t1, .string m.nm, .string m.nw, .int .i64 m.off, .string m.dt].toList rfl _ _ _ (h.get 3 rfl) (fun j v hj => by simpa using hj) _ Tryz.underlying41 rfl refmsg_size) hHeld ?_
    refine cb_ 4 (some 56) Tryz.func22 HM2 (fun _ hr => hHeld.call hr) (fun wr1 hHeld => ?_)
    refine pu_ 5 (some 57) ?_
    refine pu_ 6 (some 58) ?_
    refine pu_ 7 (some 59) ?_
    refine tk_ 8 (some 60) (.agg #[.int .i64 m.q, .int .i64 m.d0, .int .i64 m.d1, .int .i64 m.d2, .int .i64 m.d3, .int .i64 m.d4, .int .i64 m.d5, .int .i64 m.d6, .int .i64 m.d7, .int .i64 m.t, .int .i64 m.r, .int .i64 m.k, .int .i64 m.a0, .int .i64 m.a1, .int .i64 m.i0, .int .i64 m.i1, .int .i64 m.t0, .int .i64 m.t1, .string m.nm, .string m.nw, .int .i64 m.off, .string m.dt]) rfl (fun w' h => run_load_mid 41 _ rfl w.heap.size 0 #[.int .i64 m.q, .int .i64 m.d0, .int .i64 m.d1, .int .i64 m.d2, .int .i64 m.d3, .int .i64 m.d4, .int .i64 m.d5, .int .i64 m.d6, .int .i64 m.d7, .int .i64 m.t, .int .i64 m.r, .int .i64 m.k, .int .i64 m.a0, .int .i64 m.a1, .int .i64 m.i0, .int .i64 m.i1, .int .i64 m.t0, .int .i64 m.t1, .string m.nm, .string m.nw, .int .i64 m.off, .string m.dt].toList rfl _ _ _ (h.get 3 rfl) (fun j v hj => by simpa using hj) _ Tryz.underlying41 rfl refmsg_size) hHeld ?_
    refine tk_ 11 (some 63) (.agg #[.int .i64 m.q, .int .i64 m.d0, .int .i64 m.d1, .int .i64 m.d2, .int .i64 m.d3, .int .i64 m.d4, .int .i64 m.d5, .int .i64 m.d6, .int .i64 m.d7, .int .i64 m.t, .int .i64 m.r, .int .i64 m.k, .int .i64 m.a0, .int .i64 m.a1, .int .i64 m.i0, .int .i64 m.i1, .int .i64 m.t0, .int .i64 m.t1, .string m.nm, .string m.nw, .int .i64 m.off, .string m.dt]) rfl (fun w' h => run_load_mid 41 _ rfl w.heap.size 0 #[.int .i64 m.q, .int .i64 m.d0, .int .i64 m.d1, .int .i64 m.d2, .int .i64 m.d3, .int .i64 m.d4, .int .i64 m.d5, .int .i64 m.d6, .int .i64 m.d7, .int .i64 m.t, .int .i64 m.r, .int .i64 m.k, .int .i64 m.a0, .int .i64 m.a1, .int .i64 m.i0, .int .i64 m.i1, .int .i64 m.t0, .int .i64 m.t1, .string m.nm, .string m.nw, .int .i64 m.off, .string m.dt].toList rfl _ _ _ (h.get 3 rfl) (fun j v hj => by simpa using hj) _ Tryz.underlying41 rfl refmsg_size) hHeld ?_
    refine cb_ 9 (some 61) Tryz.func9 HMd (fun _ hr => hHeld.call hr) (fun wr2 hHeld => ?_)
    refine cb_ 10 (some 62) Tryz.func21 HP1 (fun _ hr => hHeld.call hr) (fun wr3 hHeld => ?_)
    refine cb_ 12 (some 64) Tryz.func23 HP2 (fun _ hr => hHeld.call hr) (fun wr4 hHeld => ?_)
    refine pu_ 13 (some 65) ?_
    refine pu_ 14 (some 66) ?_
    refine pu_ 15 (some 67) ?_
    refine tk_ 16 (some 68) (.agg #[.int .i64 x.q, .int .i64 x.d0, .int .i64 x.d1, .int .i64 x.d2, .int .i64 x.d3, .int .i64 x.d4, .int .i64 x.d5, .int .i64 x.d6, .int .i64 x.d7, .int .i64 x.t, .int .i64 x.r, .int .i64 x.k, .int .i64 x.a0, .int .i64 x.a1, .int .i64 x.i0, .int .i64 x.i1, .int .i64 x.t0, .int .i64 x.t1, .string x.nm, .string x.nw, .int .i64 x.off, .string x.dt]) rfl (fun w' h => run_load_mid 38 _ rfl bx 0 #[.int .i64 x.q, .int .i64 x.d0, .int .i64 x.d1, .int .i64 x.d2, .int .i64 x.d3, .int .i64 x.d4, .int .i64 x.d5, .int .i64 x.d6, .int .i64 x.d7, .int .i64 x.t, .int .i64 x.r, .int .i64 x.k, .int .i64 x.a0, .int .i64 x.a1, .int .i64 x.i0, .int .i64 x.i1, .int .i64 x.t0, .int .i64 x.t1, .string x.nm, .string x.nw, .int .i64 x.off, .string x.dt].toList rfl _ _ _ (h.get 2 rfl) (fun j v hj => by simpa using hj) _ Tryz.underlying38 rfl size_msg) hHeld ?_
    refine tk_ 17 (some 69) (.agg #[.int .i64 x.q, .int .i64 x.d0, .int .i64 x.d1, .int .i64 x.d2, .int .i64 x.d3, .int .i64 x.d4, .int .i64 x.d5, .int .i64 x.d6, .int .i64 x.d7, .int .i64 x.t, .int .i64 x.r, .int .i64 x.k, .int .i64 x.a0, .int .i64 x.a1, .int .i64 x.i0, .int .i64 x.i1, .int .i64 x.t0, .int .i64 x.t1, .string x.nm, .string x.nw, .int .i64 x.off, .string x.dt]) rfl (fun w' h => run_load_mid 41 _ rfl bY 0 #[.int .i64 x.q, .int .i64 x.d0, .int .i64 x.d1, .int .i64 x.d2, .int .i64 x.d3, .int .i64 x.d4, .int .i64 x.d5, .int .i64 x.d6, .int .i64 x.d7, .int .i64 x.t, .int .i64 x.r, .int .i64 x.k, .int .i64 x.a0, .int .i64 x.a1, .int .i64 x.i0, .int .i64 x.i1, .int .i64 x.t0, .int .i64 x.t1, .string x.nm, .string x.nw, .int .i64 x.off, .string x.dt].toList rfl _ _ _ (h.get 1 rfl) (fun j v hj => by simpa using hj) _ Tryz.underlying41 rfl refmsg_size) hHeld ?_
    refine cb_ 18 (some 70) Tryz.func13 HSX (fun _ hr => hHeld.call hr) (fun wr5 hHeld => ?_)
    refine pu_ 19 (some 71) ?_
    refine pu_ 20 (some 72) ?_
    refine pu_ 21 (some 73) ?_
    refine pu_ 22 (some 74) ?_
    refine pu_ 23 (some 75) ?_
    refine pu_ 24 (some 76) ?_
    refine pu_ 25 (some 77) ?_
    refine pu_ 26 (some 78) ?_
    refine pu_ 27 (some 79) ?_
    refine pu_ 28 (some 80) ?_
    refine pu_ 29 (some 81) ?_
    refine pu_ 30 (some 82) ?_
    refine pu_ 31 (some 83) ?_
    refine pu_ 32 (some 84) ?_
    refine pu_ 33 (some 85) ?_
    first | (refine pu_ 34 (some 86) ?_) | refine po_ 34 (some 86) ?_
    first | (refine pu_ 35 (some 87) ?_) | refine po_ 35 (some 87) ?_
    first | (refine pu_ 36 (some 88) ?_) | refine po_ 36 (some 88) ?_
    first | (refine pu_ 37 (some 89) ?_) | refine po_ 37 (some 89) ?_
    first | (refine tk_ 38 (some 90) (.agg #[.int .i64 m.q, .int .i64 m.d0, .int .i64 m.d1, .int .i64 m.d2, .int .i64 m.d3, .int .i64 m.d4, .int .i64 m.d5, .int .i64 m.d6, .int .i64 m.d7, .int .i64 m.t, .int .i64 m.r, .int .i64 m.k, .int .i64 m.a0, .int .i64 m.a1, .int .i64 m.i0, .int .i64 m.i1, .int .i64 m.t0, .int .i64 m.t1, .string m.nm, .string m.nw, .int .i64 m.off, .string m.dt]) rfl (fun w' h => run_load_mid 41 _ rfl w.heap.size 0 #[.int .i64 m.q, .int .i64 m.d0, .int .i64 m.d1, .int .i64 m.d2, .int .i64 m.d3, .int .i64 m.d4, .int .i64 m.d5, .int .i64 m.d6, .int .i64 m.d7, .int .i64 m.t, .int .i64 m.r, .int .i64 m.k, .int .i64 m.a0, .int .i64 m.a1, .int .i64 m.i0, .int .i64 m.i1, .int .i64 m.t0, .int .i64 m.t1, .string m.nm, .string m.nw, .int .i64 m.off, .string m.dt].toList rfl _ _ _ (h.get 3 rfl) (fun j v hj => by simpa using hj) _ Tryz.underlying41 rfl refmsg_size) hHeld ?_) | refine po_ 38 (some 90) ?_
    refine po_ 39 (some 91) ?_
    first | (refine pu_ 40 (some 92) ?_) | refine po_ 40 (some 92) ?_
    first | (refine pu_ 41 (some 93) ?_) | refine po_ 41 (some 93) ?_
    first | (refine pu_ 42 (some 94) ?_) | refine po_ 42 (some 94) ?_
    first | (refine pu_ 43 (some 95) ?_) | refine po_ 43 (some 95) ?_
    first | (refine pu_ 44 (some 96) ?_) | refine po_ 44 (some 96) ?_
    first | (refine pu_ 45 (some 97) ?_) | refine po_ 45 (some 97) ?_
    refine pu_ 46 (some 98) ?_
    refine pu_ 47 (some 99) ?_
    refine pu_ 48 (some 4) ?_
    refine done_ (by kernel_rfl) ?_
    go_wp2_with fail
    go_ret
    exact ⟨rfl, hHeld.2⟩
  · obtain ⟨rfl, rfl, rfl⟩ := HB.out rfl
    clear HB
    refine st_ 49 (S := fun W_ => Holds w [(bZ, .cells #[.int .i64 b4.q, .int .i64 b4.d0, .int .i64 b4.d1, .int .i64 b4.d2, .int .i64 b4.d3, .int .i64 b4.d4, .int .i64 b4.d5, .int .i64 b4.d6, .int .i64 b4.d7, .int .i64 b4.t, .int .i64 b4.r, .int .i64 b4.k, .int .i64 b4.a0, .int .i64 b4.a1, .int .i64 b4.i0, .int .i64 b4.i1, .int .i64 b4.t0, .int .i64 b4.t1, .string b4.nm, .string b4.nw, .int .i64 b4.off, .string b4.dt] 38 (0, 0)), (bY, .cells #[.int .i64 x.q, .int .i64 x.d0, .int .i64 x.d1, .int .i64 x.d2, .int .i64 x.d3, .int .i64 x.d4, .int .i64 x.d5, .int .i64 x.d6, .int .i64 x.d7, .int .i64 x.t, .int .i64 x.r, .int .i64 x.k, .int .i64 x.a0, .int .i64 x.a1, .int .i64 x.i0, .int .i64 x.i1, .int .i64 x.t0, .int .i64 x.t1, .string x.nm, .string x.nw, .int .i64 x.off, .string x.dt] 41 (0, 0)), (bx, .cells #[.int .i64 x.q, .int .i64 x.d0, .int .i64 x.d1, .int .i64 x.d2, .int .i64 x.d3, .int .i64 x.d4, .int .i64 x.d5, .int .i64 x.d6, .int .i64 x.d7, .int .i64 x.t, .int .i64 x.r, .int .i64 x.k, .int .i64 x.a0, .int .i64 x.a1, .int .i64 x.i0, .int .i64 x.i1, .int .i64 x.t0, .int .i64 x.t1, .string x.nm, .string x.nw, .int .i64 x.off, .string x.dt] 38 (0, 0)), (w.heap.size, .cells #[.int .i64 b4.q, .int .i64 b4.d0, .int .i64 b4.d1, .int .i64 b4.d2, .int .i64 b4.d3, .int .i64 b4.d4, .int .i64 b4.d5, .int .i64 b4.d6, .int .i64 b4.d7, .int .i64 b4.t, .int .i64 b4.r, .int .i64 b4.k, .int .i64 b4.a0, .int .i64 b4.a1, .int .i64 b4.i0, .int .i64 b4.i1, .int .i64 b4.t0, .int .i64 b4.t1, .string b4.nm, .string b4.nw, .int .i64 b4.off, .string b4.dt] 41 (0, 0))] W_) (ds := []) (K12.out.drew) (fun hHeld => ?_)
    refine pu_ 0 (some 52) ?_
    refine pu_ 1 (some 53) ?_
    refine pu_ 2 (some 54) ?_
    refine tk_ 3 (some 55) (.agg #[.int .i64 b4.q, .int .i64 b4.d0, .int .i64 b4.d1, .int .i64 b4.d2, .int .i64 b4.d3, .int .i64 b4.d4, .int .i64 b4.d5, .int .i64 b4.d6, .int .i64 b4.d7, .int .i64 b4.t, .int .i64 b4.r, .int .i64 b4.k, .int .i64 b4.a0, .int .i64 b4.a1, .int .i64 b4.i0, .int .i64 b4.i1, .int .i64 b4.t0, .int .i64 b4.t1, .string b4.nm, .string b4.nw, .int .i64 b4.off, .string b4.dt]) rfl (fun w' h => run_load_mid 41 _ rfl w.heap.size 0 #[.int .i64 b4.q, .int .i64 b4.d0, .int .i64 b4.d1, .int .i64 b4.d2, .int .i64 b4.d3, .int .i64 b4.d4, .int .i64 b4.d5, .int .i64 b4.d6, .int .i64 b4.d7, .int .i64 b4.t, .int .i64 b4.r, .int .i64 b4.k, .int .i64 b4.a0, .int .i64 b4.a1, .int .i64 b4.i0, .int .i64 b4.i1, .int .i64 b4.t0, .int .i64 b4.t1, .string b4.nm, .string b4.nw, .int .i64 b4.off, .string b4.dt].toList rfl _ _ _ (h.get 3 rfl) (fun j v hj => by simpa using hj) _ Tryz.underlying41 rfl refmsg_size) hHeld ?_
    refine cb_ 4 (some 56) Tryz.func22 HM2 (fun _ hr => hHeld.call hr) (fun wr7 hHeld => ?_)
    refine pu_ 5 (some 57) ?_
    refine pu_ 6 (some 58) ?_
    refine pu_ 7 (some 59) ?_
    refine tk_ 8 (some 60) (.agg #[.int .i64 b4.q, .int .i64 b4.d0, .int .i64 b4.d1, .int .i64 b4.d2, .int .i64 b4.d3, .int .i64 b4.d4, .int .i64 b4.d5, .int .i64 b4.d6, .int .i64 b4.d7, .int .i64 b4.t, .int .i64 b4.r, .int .i64 b4.k, .int .i64 b4.a0, .int .i64 b4.a1, .int .i64 b4.i0, .int .i64 b4.i1, .int .i64 b4.t0, .int .i64 b4.t1, .string b4.nm, .string b4.nw, .int .i64 b4.off, .string b4.dt]) rfl (fun w' h => run_load_mid 41 _ rfl w.heap.size 0 #[.int .i64 b4.q, .int .i64 b4.d0, .int .i64 b4.d1, .int .i64 b4.d2, .int .i64 b4.d3, .int .i64 b4.d4, .int .i64 b4.d5, .int .i64 b4.d6, .int .i64 b4.d7, .int .i64 b4.t, .int .i64 b4.r, .int .i64 b4.k, .int .i64 b4.a0, .int .i64 b4.a1, .int .i64 b4.i0, .int .i64 b4.i1, .int .i64 b4.t0, .int .i64 b4.t1, .string b4.nm, .string b4.nw, .int .i64 b4.off, .string b4.dt].toList rfl _ _ _ (h.get 3 rfl) (fun j v hj => by simpa using hj) _ Tryz.underlying41 rfl refmsg_size) hHeld ?_
    refine tk_ 11 (some 63) (.agg #[.int .i64 b4.q, .int .i64 b4.d0, .int .i64 b4.d1, .int .i64 b4.d2, .int .i64 b4.d3, .int .i64 b4.d4, .int .i64 b4.d5, .int .i64 b4.d6, .int .i64 b4.d7, .int .i64 b4.t, .int .i64 b4.r, .int .i64 b4.k, .int .i64 b4.a0, .int .i64 b4.a1, .int .i64 b4.i0, .int .i64 b4.i1, .int .i64 b4.t0, .int .i64 b4.t1, .string b4.nm, .string b4.nw, .int .i64 b4.off, .string b4.dt]) rfl (fun w' h => run_load_mid 41 _ rfl w.heap.size 0 #[.int .i64 b4.q, .int .i64 b4.d0, .int .i64 b4.d1, .int .i64 b4.d2, .int .i64 b4.d3, .int .i64 b4.d4, .int .i64 b4.d5, .int .i64 b4.d6, .int .i64 b4.d7, .int .i64 b4.t, .int .i64 b4.r, .int .i64 b4.k, .int .i64 b4.a0, .int .i64 b4.a1, .int .i64 b4.i0, .int .i64 b4.i1, .int .i64 b4.t0, .int .i64 b4.t1, .string b4.nm, .string b4.nw, .int .i64 b4.off, .string b4.dt].toList rfl _ _ _ (h.get 3 rfl) (fun j v hj => by simpa using hj) _ Tryz.underlying41 rfl refmsg_size) hHeld ?_
    refine cb_ 9 (some 61) Tryz.func9 HMd (fun _ hr => hHeld.call hr) (fun wr8 hHeld => ?_)
    refine cb_ 10 (some 62) Tryz.func21 HP1 (fun _ hr => hHeld.call hr) (fun wr9 hHeld => ?_)
    refine cb_ 12 (some 64) Tryz.func23 HP2 (fun _ hr => hHeld.call hr) (fun wr10 hHeld => ?_)
    refine pu_ 13 (some 65) ?_
    refine pu_ 14 (some 66) ?_
    refine pu_ 15 (some 67) ?_
    refine tk_ 16 (some 68) (.agg #[.int .i64 x.q, .int .i64 x.d0, .int .i64 x.d1, .int .i64 x.d2, .int .i64 x.d3, .int .i64 x.d4, .int .i64 x.d5, .int .i64 x.d6, .int .i64 x.d7, .int .i64 x.t, .int .i64 x.r, .int .i64 x.k, .int .i64 x.a0, .int .i64 x.a1, .int .i64 x.i0, .int .i64 x.i1, .int .i64 x.t0, .int .i64 x.t1, .string x.nm, .string x.nw, .int .i64 x.off, .string x.dt]) rfl (fun w' h => run_load_mid 38 _ rfl bx 0 #[.int .i64 x.q, .int .i64 x.d0, .int .i64 x.d1, .int .i64 x.d2, .int .i64 x.d3, .int .i64 x.d4, .int .i64 x.d5, .int .i64 x.d6, .int .i64 x.d7, .int .i64 x.t, .int .i64 x.r, .int .i64 x.k, .int .i64 x.a0, .int .i64 x.a1, .int .i64 x.i0, .int .i64 x.i1, .int .i64 x.t0, .int .i64 x.t1, .string x.nm, .string x.nw, .int .i64 x.off, .string x.dt].toList rfl _ _ _ (h.get 2 rfl) (fun j v hj => by simpa using hj) _ Tryz.underlying38 rfl size_msg) hHeld ?_
    refine tk_ 17 (some 69) (.agg #[.int .i64 x.q, .int .i64 x.d0, .int .i64 x.d1, .int .i64 x.d2, .int .i64 x.d3, .int .i64 x.d4, .int .i64 x.d5, .int .i64 x.d6, .int .i64 x.d7, .int .i64 x.t, .int .i64 x.r, .int .i64 x.k, .int .i64 x.a0, .int .i64 x.a1, .int .i64 x.i0, .int .i64 x.i1, .int .i64 x.t0, .int .i64 x.t1, .string x.nm, .string x.nw, .int .i64 x.off, .string x.dt]) rfl (fun w' h => run_load_mid 41 _ rfl bY 0 #[.int .i64 x.q, .int .i64 x.d0, .int .i64 x.d1, .int .i64 x.d2, .int .i64 x.d3, .int .i64 x.d4, .int .i64 x.d5, .int .i64 x.d6, .int .i64 x.d7, .int .i64 x.t, .int .i64 x.r, .int .i64 x.k, .int .i64 x.a0, .int .i64 x.a1, .int .i64 x.i0, .int .i64 x.i1, .int .i64 x.t0, .int .i64 x.t1, .string x.nm, .string x.nw, .int .i64 x.off, .string x.dt].toList rfl _ _ _ (h.get 1 rfl) (fun j v hj => by simpa using hj) _ Tryz.underlying41 rfl refmsg_size) hHeld ?_
    refine cb_ 18 (some 70) Tryz.func13 HSX (fun _ hr => hHeld.call hr) (fun wr11 hHeld => ?_)
    refine pu_ 19 (some 71) ?_
    refine pu_ 20 (some 72) ?_
    refine pu_ 21 (some 73) ?_
    refine pu_ 22 (some 74) ?_
    refine pu_ 23 (some 75) ?_
    refine pu_ 24 (some 76) ?_
    refine pu_ 25 (some 77) ?_
    refine pu_ 26 (some 78) ?_
    refine pu_ 27 (some 79) ?_
    refine pu_ 28 (some 80) ?_
    refine pu_ 29 (some 81) ?_
    refine pu_ 30 (some 82) ?_
    refine pu_ 31 (some 83) ?_
    refine pu_ 32 (some 84) ?_
    refine pu_ 33 (some 85) ?_
    refine pu_ 34 (some 86) ?_
    refine pu_ 35 (some 87) ?_
    refine pu_ 36 (some 88) ?_
    refine tk_ 37 (some 89) (.agg #[.int .i64 b4.q, .int .i64 b4.d0, .int .i64 b4.d1, .int .i64 b4.d2, .int .i64 b4.d3, .int .i64 b4.d4, .int .i64 b4.d5, .int .i64 b4.d6, .int .i64 b4.d7, .int .i64 b4.t, .int .i64 b4.r, .int .i64 b4.k, .int .i64 b4.a0, .int .i64 b4.a1, .int .i64 b4.i0, .int .i64 b4.i1, .int .i64 b4.t0, .int .i64 b4.t1, .string b4.nm, .string b4.nw, .int .i64 b4.off, .string b4.dt]) rfl (fun w' h => run_load_mid 38 _ rfl bZ 0 #[.int .i64 b4.q, .int .i64 b4.d0, .int .i64 b4.d1, .int .i64 b4.d2, .int .i64 b4.d3, .int .i64 b4.d4, .int .i64 b4.d5, .int .i64 b4.d6, .int .i64 b4.d7, .int .i64 b4.t, .int .i64 b4.r, .int .i64 b4.k, .int .i64 b4.a0, .int .i64 b4.a1, .int .i64 b4.i0, .int .i64 b4.i1, .int .i64 b4.t0, .int .i64 b4.t1, .string b4.nm, .string b4.nw, .int .i64 b4.off, .string b4.dt].toList rfl _ _ _ (h.get 0 rfl) (fun j v hj => by simpa using hj) _ Tryz.underlying38 rfl size_msg) hHeld ?_
    refine tk_ 38 (some 90) (.agg #[.int .i64 b4.q, .int .i64 b4.d0, .int .i64 b4.d1, .int .i64 b4.d2, .int .i64 b4.d3, .int .i64 b4.d4, .int .i64 b4.d5, .int .i64 b4.d6, .int .i64 b4.d7, .int .i64 b4.t, .int .i64 b4.r, .int .i64 b4.k, .int .i64 b4.a0, .int .i64 b4.a1, .int .i64 b4.i0, .int .i64 b4.i1, .int .i64 b4.t0, .int .i64 b4.t1, .string b4.nm, .string b4.nw, .int .i64 b4.off, .string b4.dt]) rfl (fun w' h => run_load_mid 41 _ rfl w.heap.size 0 #[.int .i64 b4.q, .int .i64 b4.d0, .int .i64 b4.d1, .int .i64 b4.d2, .int .i64 b4.d3, .int .i64 b4.d4, .int .i64 b4.d5, .int .i64 b4.d6, .int .i64 b4.d7, .int .i64 b4.t, .int .i64 b4.r, .int .i64 b4.k, .int .i64 b4.a0, .int .i64 b4.a1, .int .i64 b4.i0, .int .i64 b4.i1, .int .i64 b4.t0, .int .i64 b4.t1, .string b4.nm, .string b4.nw, .int .i64 b4.off, .string b4.dt].toList rfl _ _ _ (h.get 3 rfl) (fun j v hj => by simpa using hj) _ Tryz.underlying41 rfl refmsg_size) hHeld ?_
    refine cb_ 39 (some 91) Tryz.func13 HSM (fun _ hr => hHeld.call hr) (fun wr12 hHeld => ?_)
    refine pu_ 40 (some 92) ?_
    refine pu_ 41 (some 93) ?_
    refine pu_ 42 (some 94) ?_
    refine pu_ 43 (some 95) ?_
    refine pu_ 44 (some 96) ?_
    refine pu_ 45 (some 97) ?_
    refine pu_ 46 (some 98) ?_
    refine pu_ 47 (some 99) ?_
    refine pu_ 48 (some 4) ?_
    refine done_ (by kernel_rfl) ?_
    go_wp2_with fail
    go_ret
    exact ⟨rfl, hHeld.2⟩
theorem law_CausalTells {v : Value} {m : MsgV} (hv : v = .agg (msgC m)) (hm : m.Ok) (s : ByteArray) (hs : s.size ≤ 140737488351232) (w : World) :
    Calls Tryz.prog 4 #[v, .string s] w fun e w' => e = .returned (.bool true) ∧ Below w.heap.size w w' := by
  subst hv
  by_cases h : 2000 < s.size ∨ fewO m.opv = false
  · exact tells_idle m s h w
  · have z0 : s.size ≤ 2000 := by omega
    have hf : fewO m.opv = true := by
      cases hh : fewO m.opv with
      | true => rfl
      | false => exact absurd (Or.inr hh) h
    have few := hf
    unfold fewO at few
    simp only [Bool.and_eq_true, decide_eq_true_eq] at few
    have hps : m.put.size ≤ 100000 := by
      refine Nat.le_trans (mput_size hm) ?_
      have := opput_small hm.op few.1.1 few.1.2 few.2
      omega
    have hsz : (m.put ++ s).size ≤ 140737488355328 := by rw [size_app]; omega
    have hTP := takeM_put hm s
    have first : ∃ (x : MsgV) (q : ByteArray) (c : Int), mV (takeM s) = .tuple #[.agg (msgC x), .string q, .int .i64 c] := by
      cases takeM s with
      | none => exact ⟨_, _, _, rfl⟩
      | some u => obtain ⟨y, q⟩ := u; exact ⟨y, q, 0, rfl⟩
    obtain ⟨x, q, c, hx⟩ := first
    have second : ∃ (b4 : MsgV) (q4 : ByteArray) (c4 : Int), mV (takeM (m.put ++ s)) = .tuple #[.agg (msgC b4), .string q4, .int .i64 c4] ∧ (m.fine = true → b4 = m ∧ q4 = s ∧ c4 = 0) := by
      rw [hTP]
      by_cases hfi : m.fine = true
      · rw [if_pos hfi]; exact ⟨m, s, 0, rfl, fun _ => ⟨rfl, rfl, rfl⟩⟩
      · rw [if_neg hfi]; exact ⟨_, _, _, rfl, fun h => absurd h hfi⟩
    obtain ⟨b4, q4, c4, hx4, hb⟩ := second
    have T1 := cau_Take s (by omega)
    have T2 := ref_Take17 s (by omega)
    have T4 := cau_Take (m.put ++ s) hsz
    rw [hx] at T1 T2
    rw [hx4] at T4
    exact tells_walk m x b4 s m.put q q4 c c4 m.fine hb z0 hf (by omega) w ⟨T1⟩ ⟨T2⟩ ⟨T4⟩ ⟨msg_May m hm.op.dt⟩ ⟨ref_May17 m hm.op.dt⟩ ⟨cau_Put m hm⟩ ⟨ref_Put17 m hm⟩
end Go.Proofs.YtcgkkjfbdappoaaGreat.causalTells
