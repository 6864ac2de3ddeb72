/- The document's May of a message: its contract. -/
import Derived.Test.YtcgkkjfbdappoaaGreatOpRefY
import Derived.Test.YtcgkkjfbdappoaaGreatVecRefA
import Derived.Test.YtcgkkjfbdappoaaGreatIndexAll
import Derived.Test.YtcgkkjfbdappoaaGreatMadeAll
namespace Go.Proofs.YtcgkkjfbdappoaaGreat
open Go.RowKit Go.Proofs.YtcgkkjfbdappoaaGreatW.PrintWords Go.Proofs.YtcgkkjfbdappoaaGreatW.PrintLast Go.Proofs.YtcgkkjfbdappoaaGreatW.PrintMore
set_option linter.unusedVariables false
set_option linter.unusedSimpArgs false

set_option maxHeartbeats 4000000 in
set_option maxRecDepth 100000 in
theorem rmay_op (m : MsgV) (b0 bv : Bool) (w : World)
    (HO : Hd (∀ w, Calls Tryz.prog 51 #[.agg #[.int .i64 m.t, .int .i64 m.r, .int .i64 m.k, .int .i64 m.a0, .int .i64 m.a1, .int .i64 m.i0, .int .i64 m.i1, .int .i64 m.t0, .int .i64 m.t1, .string m.nm, .string m.nw, .int .i64 m.off, .string m.dt]] w fun e w' => e = .returned (.bool b0) ∧ Below w.heap.size w w'))
    (HVM : Hd (∀ w, Calls Tryz.prog 52 #[.agg [.int .i64 m.d0, .int .i64 m.d1, .int .i64 m.d2, .int .i64 m.d3, .int .i64 m.d4, .int .i64 m.d5, .int .i64 m.d6, .int .i64 m.d7].toArray] w fun e w' => e = .returned (.bool bv) ∧ Below w.heap.size w w'))
    (V : Bool) (HV : Hd (V = false)) (h0 : b0 = false) :
    Calls Tryz.prog 22 #[.agg #[.int .i64 m.q, .int .i64 m.d0, .int .i64 m.d1, .int .i64 m.d2, .int .i64 m.d3, .int .i64 m.d4, .int .i64 m.d5, .int .i64 m.d6, .int .i64 m.d7, .int .i64 m.t, .int .i64 m.r, .int .i64 m.k, .int .i64 m.a0, .int .i64 m.a1, .int .i64 m.i0, .int .i64 m.i1, .int .i64 m.t0, .int .i64 m.t1, .string m.nm, .string m.nw, .int .i64 m.off, .string m.dt]] w fun e w' => e = .returned (.bool V) ∧ Below w.heap.size w w' := by
  have K0 := Hd.mk (Holds.start1 w (.cells #[.int .i64 m.q, .int .i64 m.d0, .int .i64 m.d1, .int .i64 m.d2, .int .i64 m.d3, .int .i64 m.d4, .int .i64 m.d5, .int .i64 m.d6, .int .i64 m.d7, .int .i64 m.t, .int .i64 m.r, .int .i64 m.k, .int .i64 m.a0, .int .i64 m.a1, .int .i64 m.i0, .int .i64 m.i1, .int .i64 m.t0, .int .i64 m.t1, .string m.nm, .string m.nw, .int .i64 m.off, .string m.dt] 41 (0, 0)))
  subst h0
  go_enter Tryz.func22, Tryz.ntmps22
  go_upto_region 1 with (fail)
  refine world_gen _ K0.out (fun W hK => ?_)
  have K1 := Hd.mk hK
  clear hK K0
  refine st_ 32 (S := fun W_ => Holds w [(w.heap.size, .cells #[.int .i64 m.q, .int .i64 m.d0, .int .i64 m.d1, .int .i64 m.d2, .int .i64 m.d3, .int .i64 m.d4, .int .i64 m.d5, .int .i64 m.d6, .int .i64 m.d7, .int .i64 m.t, .int .i64 m.r, .int .i64 m.k, .int .i64 m.a0, .int .i64 m.a1, .int .i64 m.i0, .int .i64 m.i1, .int .i64 m.t0, .int .i64 m.t1, .string m.nm, .string m.nw, .int .i64 m.off, .string m.dt] 41 (0, 0))] W_) (ds := []) (K1.out.drew) (fun hHeld => ?_)
  refine pu_ 0 (some 3) ?_
  refine tk_ 1 (some 4) (.agg #[.int .i64 m.t, .int .i64 m.r, .int .i64 m.k, .int .i64 m.a0, .int .i64 m.a1, .int .i64 m.i0, .int .i64 m.i1, .int .i64 m.t0, .int .i64 m.t1, .string m.nm, .string m.nw, .int .i64 m.off, .string m.dt]) rfl (fun w' h => run_load_mid 36 _ rfl w.heap.size 9 #[.int .i64 m.t, .int .i64 m.r, .int .i64 m.k, .int .i64 m.a0, .int .i64 m.a1, .int .i64 m.i0, .int .i64 m.i1, .int .i64 m.t0, .int .i64 m.t1, .string m.nm, .string m.nw, .int .i64 m.off, .string m.dt].toList rfl _ _ _ (h.get 0 rfl) (fun j v hj => by simpa [Nat.add_comm] using hj) _ Tryz.underlying36 rfl size_opM) hHeld ?_
  refine cb_ 2 (some 5) Tryz.func51 HO (fun _ hr => hHeld.call hr) (fun wr1 hHeld => ?_)
  refine pu_ 3 (some 6) ?_
  first | (refine pu_ 4 (some 7) ?_) | refine po_ 4 (some 7) ?_
  first | (refine tk_ 5 (some 8) (.int .i64 m.q) rfl (fun w' h => by have c := cell_of_row w' _ 0 _ _ _ (h.get 0 rfl); go_simp) hHeld ?_) | refine po_ 5 (some 8) ?_
  first | (refine pu_ 6 (some 9) ?_) | refine po_ 6 (some 9) ?_
  refine pu_ 7 (some 10) ?_
  refine pu_ 8 (some 11) ?_
  first | (refine pu_ 9 (some 12) ?_) | refine po_ 9 (some 12) ?_
  first | (refine tk_ 10 (some 13) (.int .i64 m.q) rfl (fun w' h => by have c := cell_of_row w' _ 0 _ _ _ (h.get 0 rfl); go_simp) hHeld ?_) | refine po_ 10 (some 13) ?_
  first | (refine pu_ 11 (some 14) ?_) | refine po_ 11 (some 14) ?_
  refine pu_ 12 (some 15) ?_
  refine pu_ 13 (some 16) ?_
  first | (refine pu_ 14 (some 17) ?_) | refine po_ 14 (some 17) ?_
  first | (refine tk_ 15 (some 18) (.agg [.int .i64 m.d0, .int .i64 m.d1, .int .i64 m.d2, .int .i64 m.d3, .int .i64 m.d4, .int .i64 m.d5, .int .i64 m.d6, .int .i64 m.d7].toArray) rfl (fun w' h => run_load_mid 22 _ rfl w.heap.size 1 [.int .i64 m.d0, .int .i64 m.d1, .int .i64 m.d2, .int .i64 m.d3, .int .i64 m.d4, .int .i64 m.d5, .int .i64 m.d6, .int .i64 m.d7] rfl _ _ _ (h.get 0 rfl) (eight_at rfl rfl rfl rfl rfl rfl rfl rfl) _ Tryz.underlying22 rfl size_e8) hHeld ?_) | refine po_ 15 (some 18) ?_
  refine po_ 16 (some 19) ?_
  refine pu_ 17 (some 20) ?_
  refine pu_ 18 (some 21) ?_
  first | (refine pu_ 19 (some 22) ?_) | refine po_ 19 (some 22) ?_
  first | (refine pu_ 20 (some 23) ?_) | refine po_ 20 (some 23) ?_
  first | (refine pu_ 21 (some 24) ?_) | refine po_ 21 (some 24) ?_
  first | (refine tk_ 22 (some 25) (.int .i64 (rr : Int)) rfl (fun w' h => by have c : w'.cell? ⟨w.heap.size, 10, none⟩ = some (.int .i64 (rr : Int)) := (cell_of_row w' _ 10 _ _ _ (h.get 0 rfl)).trans (by rw [← HRR.out]; rfl); go_simp) hHeld ?_) | refine po_ 22 (some 25) ?_
  first | (refine pu_ 23 (some 26) ?_) | refine po_ 23 (some 26) ?_
  first | (refine pu_ 24 (some 27) ?_) | refine po_ 24 (some 27) ?_
  first | (refine tk_ 25 (some 28) (.int .i64 dr) rfl (fun w' h => by have c : w'.cell? ⟨w.heap.size, 1 + rr, none⟩ = some (.int .i64 dr) := (cell_of_row w' _ _ _ _ _ (h.get 0 rfl)).trans HDR.out; go_simp) hHeld ?_) | refine po_ 25 (some 28) ?_
  first | (refine pu_ 26 (some 29) ?_) | refine po_ 26 (some 29) ?_
  first | (refine tk_ 27 (some 30) (.int .i64 m.q) rfl (fun w' h => by have c := cell_of_row w' _ 0 _ _ _ (h.get 0 rfl); go_simp) hHeld ?_) | refine po_ 27 (some 30) ?_
  first | (refine pu_ 28 (some 31) ?_) | refine po_ 28 (some 31) ?_
  first | (refine pu_ 29 (some 32) ?_) | refine po_ 29 (some 32) ?_
  refine pu_ 30 (some 33) ?_
  refine pu_ 31 (some 2) ?_
  refine done_ (by kernel_rfl) ?_
  go_wp2_with fail
  go_ret
  exact ⟨by rw [HV.out]; first | rfl | (simp [*]; done) | (simp; done), hHeld.2⟩
set_option maxHeartbeats 4000000 in
set_option maxRecDepth 100000 in
theorem rmay_low (m : MsgV) (b0 bv : Bool) (dr : Int) (rr : Nat) (w : World) (hdr : (#[.int .i64 m.q, .int .i64 m.d0, .int .i64 m.d1, .int .i64 m.d2, .int .i64 m.d3, .int .i64 m.d4, .int .i64 m.d5, .int .i64 m.d6, .int .i64 m.d7, .int .i64 m.t, .int .i64 m.r, .int .i64 m.k, .int .i64 m.a0, .int .i64 m.a1, .int .i64 m.i0, .int .i64 m.i1, .int .i64 m.t0, .int .i64 m.t1, .string m.nm, .string m.nw, .int .i64 m.off, .string m.dt] : Array Value)[1 + rr]? = some (.int .i64 dr)) (hr8 : rr < 8)
    (HO : Hd (∀ w, Calls Tryz.prog 51 #[.agg #[.int .i64 m.t, .int .i64 m.r, .int .i64 m.k, .int .i64 m.a0, .int .i64 m.a1, .int .i64 m.i0, .int .i64 m.i1, .int .i64 m.t0, .int .i64 m.t1, .string m.nm, .string m.nw, .int .i64 m.off, .string m.dt]] w fun e w' => e = .returned (.bool b0) ∧ Below w.heap.size w w'))
    (HVM : Hd (∀ w, Calls Tryz.prog 52 #[.agg [.int .i64 m.d0, .int .i64 m.d1, .int .i64 m.d2, .int .i64 m.d3, .int .i64 m.d4, .int .i64 m.d5, .int .i64 m.d6, .int .i64 m.d7].toArray] w fun e w' => e = .returned (.bool bv) ∧ Below w.heap.size w w'))
    (hrr : m.r = (rr : Int))
    (V : Bool) (HV : Hd (V = false)) (h0 : b0 = true) (h1 : ¬ 1 ≤ m.q) :
    Calls Tryz.prog 22 #[.agg #[.int .i64 m.q, .int .i64 m.d0, .int .i64 m.d1, .int .i64 m.d2, .int .i64 m.d3, .int .i64 m.d4, .int .i64 m.d5, .int .i64 m.d6, .int .i64 m.d7, .int .i64 m.t, .int .i64 m.r, .int .i64 m.k, .int .i64 m.a0, .int .i64 m.a1, .int .i64 m.i0, .int .i64 m.i1, .int .i64 m.t0, .int .i64 m.t1, .string m.nm, .string m.nw, .int .i64 m.off, .string m.dt]] w fun e w' => e = .returned (.bool V) ∧ Below w.heap.size w w' := by
  have K0 := Hd.mk (Holds.start1 w (.cells #[.int .i64 m.q, .int .i64 m.d0, .int .i64 m.d1, .int .i64 m.d2, .int .i64 m.d3, .int .i64 m.d4, .int .i64 m.d5, .int .i64 m.d6, .int .i64 m.d7, .int .i64 m.t, .int .i64 m.r, .int .i64 m.k, .int .i64 m.a0, .int .i64 m.a1, .int .i64 m.i0, .int .i64 m.i1, .int .i64 m.t0, .int .i64 m.t1, .string m.nm, .string m.nw, .int .i64 m.off, .string m.dt] 41 (0, 0)))
  have HDR := Hd.mk hdr
  have HRR := Hd.mk hrr
  have g0 : (0 : Int) ≤ (rr : Int) := by omega
  have g8 : (rr : Int) < 8 := by omega
  subst h0
  have e1 : decide (1 ≤ m.q) = false := decide_eq_false h1
  clear h1
  clear hdr hr8 hrr
  go_enter Tryz.func22, Tryz.ntmps22
  go_upto_region 1 with (fail)
  refine world_gen _ K0.out (fun W hK => ?_)
  have K1 := Hd.mk hK
  clear hK K0
  refine st_ 32 (S := fun W_ => Holds w [(w.heap.size, .cells #[.int .i64 m.q, .int .i64 m.d0, .int .i64 m.d1, .int .i64 m.d2, .int .i64 m.d3, .int .i64 m.d4, .int .i64 m.d5, .int .i64 m.d6, .int .i64 m.d7, .int .i64 m.t, .int .i64 m.r, .int .i64 m.k, .int .i64 m.a0, .int .i64 m.a1, .int .i64 m.i0, .int .i64 m.i1, .int .i64 m.t0, .int .i64 m.t1, .string m.nm, .string m.nw, .int .i64 m.off, .string m.dt] 41 (0, 0))] W_) (ds := []) (K1.out.drew) (fun hHeld => ?_)
  refine pu_ 0 (some 3) ?_
  refine tk_ 1 (some 4) (.agg #[.int .i64 m.t, .int .i64 m.r, .int .i64 m.k, .int .i64 m.a0, .int .i64 m.a1, .int .i64 m.i0, .int .i64 m.i1, .int .i64 m.t0, .int .i64 m.t1, .string m.nm, .string m.nw, .int .i64 m.off, .string m.dt]) rfl (fun w' h => run_load_mid 36 _ rfl w.heap.size 9 #[.int .i64 m.t, .int .i64 m.r, .int .i64 m.k, .int .i64 m.a0, .int .i64 m.a1, .int .i64 m.i0, .int .i64 m.i1, .int .i64 m.t0, .int .i64 m.t1, .string m.nm, .string m.nw, .int .i64 m.off, .string m.dt].toList rfl _ _ _ (h.get 0 rfl) (fun j v hj => by simpa [Nat.add_comm] using hj) _ Tryz.underlying36 rfl size_opM) hHeld ?_
  refine cb_ 2 (some 5) Tryz.func51 HO (fun _ hr => hHeld.call hr) (fun wr3 hHeld => ?_)
  refine pu_ 3 (some 6) ?_
  refine pu_ 4 (some 7) ?_
  refine tk_ 5 (some 8) (.int .i64 m.q) rfl (fun w' h => by have c := cell_of_row w' _ 0 _ _ _ (h.get 0 rfl); go_simp) hHeld ?_
  refine pu_ 6 (some 9) ?_
  refine pu_ 7 (some 10) ?_
  refine pu_ 8 (some 11) ?_
  first | (refine pu_ 9 (some 12) ?_) | refine po_ 9 (some 12) ?_
  first | (refine tk_ 10 (some 13) (.int .i64 m.q) rfl (fun w' h => by have c := cell_of_row w' _ 0 _ _ _ (h.get 0 rfl); go_simp) hHeld ?_) | refine po_ 10 (some 13) ?_
  first | (refine pu_ 11 (some 14) ?_) | refine po_ 11 (some 14) ?_
  refine pu_ 12 (some 15) ?_
  refine pu_ 13 (some 16) ?_
  first | (refine pu_ 14 (some 17) ?_) | refine po_ 14 (some 17) ?_
  first | (refine tk_ 15 (some 18) (.agg [.int .i64 m.d0, .int .i64 m.d1, .int .i64 m.d2, .int .i64 m.d3, .int .i64 m.d4, .int .i64 m.d5, .int .i64 m.d6, .int .i64 m.d7].toArray) rfl (fun w' h => run_load_mid 22 _ rfl w.heap.size 1 [.int .i64 m.d0, .int .i64 m.d1, .int .i64 m.d2, .int .i64 m.d3, .int .i64 m.d4, .int .i64 m.d5, .int .i64 m.d6, .int .i64 m.d7] rfl _ _ _ (h.get 0 rfl) (eight_at rfl rfl rfl rfl rfl rfl rfl rfl) _ Tryz.underlying22 rfl size_e8) hHeld ?_) | refine po_ 15 (some 18) ?_
  refine po_ 16 (some 19) ?_
  refine pu_ 17 (some 20) ?_
  refine pu_ 18 (some 21) ?_
  first | (refine pu_ 19 (some 22) ?_) | refine po_ 19 (some 22) ?_
  first | (refine pu_ 20 (some 23) ?_) | refine po_ 20 (some 23) ?_
  first | (refine pu_ 21 (some 24) ?_) | refine po_ 21 (some 24) ?_
  first | (refine tk_ 22 (some 25) (.int .i64 (rr : Int)) rfl (fun w' h => by have c : w'.cell? ⟨w.heap.size, 10, none⟩ = some (.int .i64 (rr : Int)) := (cell_of_row w' _ 10 _ _ _ (h.get 0 rfl)).trans (by rw [← HRR.out]; rfl); go_simp) hHeld ?_) | refine po_ 22 (some 25) ?_
  first | (refine pu_ 23 (some 26) ?_) | refine po_ 23 (some 26) ?_
  first | (refine pu_ 24 (some 27) ?_) | refine po_ 24 (some 27) ?_
  first | (refine tk_ 25 (some 28) (.int .i64 dr) rfl (fun w' h => by have c : w'.cell? ⟨w.heap.size, 1 + rr, none⟩ = some (.int .i64 dr) := (cell_of_row w' _ _ _ _ _ (h.get 0 rfl)).trans HDR.out; go_simp) hHeld ?_) | refine po_ 25 (some 28) ?_
  first | (refine pu_ 26 (some 29) ?_) | refine po_ 26 (some 29) ?_
  first | (refine tk_ 27 (some 30) (.int .i64 m.q) rfl (fun w' h => by have c := cell_of_row w' _ 0 _ _ _ (h.get 0 rfl); go_simp) hHeld ?_) | refine po_ 27 (some 30) ?_
  first | (refine pu_ 28 (some 31) ?_) | refine po_ 28 (some 31) ?_
  first | (refine pu_ 29 (some 32) ?_) | refine po_ 29 (some 32) ?_
  refine pu_ 30 (some 33) ?_
  refine pu_ 31 (some 2) ?_
  refine done_ (by kernel_rfl) ?_
  go_wp2_with fail
  go_ret
  exact ⟨by rw [HV.out]; first | rfl | (simp [*]; done) | (simp; done), hHeld.2⟩
set_option maxHeartbeats 4000000 in
set_option maxRecDepth 100000 in
theorem rmay_high (m : MsgV) (b0 bv : Bool) (dr : Int) (rr : Nat) (w : World) (hdr : (#[.int .i64 m.q, .int .i64 m.d0, .int .i64 m.d1, .int .i64 m.d2, .int .i64 m.d3, .int .i64 m.d4, .int .i64 m.d5, .int .i64 m.d6, .int .i64 m.d7, .int .i64 m.t, .int .i64 m.r, .int .i64 m.k, .int .i64 m.a0, .int .i64 m.a1, .int .i64 m.i0, .int .i64 m.i1, .int .i64 m.t0, .int .i64 m.t1, .string m.nm, .string m.nw, .int .i64 m.off, .string m.dt] : Array Value)[1 + rr]? = some (.int .i64 dr)) (hr8 : rr < 8)
    (HO : Hd (∀ w, Calls Tryz.prog 51 #[.agg #[.int .i64 m.t, .int .i64 m.r, .int .i64 m.k, .int .i64 m.a0, .int .i64 m.a1, .int .i64 m.i0, .int .i64 m.i1, .int .i64 m.t0, .int .i64 m.t1, .string m.nm, .string m.nw, .int .i64 m.off, .string m.dt]] w fun e w' => e = .returned (.bool b0) ∧ Below w.heap.size w w'))
    (HVM : Hd (∀ w, Calls Tryz.prog 52 #[.agg [.int .i64 m.d0, .int .i64 m.d1, .int .i64 m.d2, .int .i64 m.d3, .int .i64 m.d4, .int .i64 m.d5, .int .i64 m.d6, .int .i64 m.d7].toArray] w fun e w' => e = .returned (.bool bv) ∧ Below w.heap.size w w'))
    (hrr : m.r = (rr : Int))
    (V : Bool) (HV : Hd (V = false)) (h0 : b0 = true) (h1 : 1 ≤ m.q) (h2 : ¬ m.q ≤ 1073741824) :
    Calls Tryz.prog 22 #[.agg #[.int .i64 m.q, .int .i64 m.d0, .int .i64 m.d1, .int .i64 m.d2, .int .i64 m.d3, .int .i64 m.d4, .int .i64 m.d5, .int .i64 m.d6, .int .i64 m.d7, .int .i64 m.t, .int .i64 m.r, .int .i64 m.k, .int .i64 m.a0, .int .i64 m.a1, .int .i64 m.i0, .int .i64 m.i1, .int .i64 m.t0, .int .i64 m.t1, .string m.nm, .string m.nw, .int .i64 m.off, .string m.dt]] w fun e w' => e = .returned (.bool V) ∧ Below w.heap.size w w' := by
  have K0 := Hd.mk (Holds.start1 w (.cells #[.int .i64 m.q, .int .i64 m.d0, .int .i64 m.d1, .int .i64 m.d2, .int .i64 m.d3, .int .i64 m.d4, .int .i64 m.d5, .int .i64 m.d6, .int .i64 m.d7, .int .i64 m.t, .int .i64 m.r, .int .i64 m.k, .int .i64 m.a0, .int .i64 m.a1, .int .i64 m.i0, .int .i64 m.i1, .int .i64 m.t0, .int .i64 m.t1, .string m.nm, .string m.nw, .int .i64 m.off, .string m.dt] 41 (0, 0)))
  have HDR := Hd.mk hdr
  have HRR := Hd.mk hrr
  have g0 : (0 : Int) ≤ (rr : Int) := by omega
  have g8 : (rr : Int) < 8 := by omega
  subst h0
  have e1 : decide (1 ≤ m.q) = true := decide_eq_true h1
  have e2 : decide (m.q ≤ 1073741824) = false := decide_eq_false h2
  clear h1 h2
  clear hdr hr8 hrr
  go_enter Tryz.func22, Tryz.ntmps22
  go_upto_region 1 with (fail)
  refine world_gen _ K0.out (fun W hK => ?_)
  have K1 := Hd.mk hK
  clear hK K0
  refine st_ 32 (S := fun W_ => Holds w [(w.heap.size, .cells #[.int .i64 m.q, .int .i64 m.d0, .int .i64 m.d1, .int .i64 m.d2, .int .i64 m.d3, .int .i64 m.d4, .int .i64 m.d5, .int .i64 m.d6, .int .i64 m.d7, .int .i64 m.t, .int .i64 m.r, .int .i64 m.k, .int .i64 m.a0, .int .i64 m.a1, .int .i64 m.i0, .int .i64 m.i1, .int .i64 m.t0, .int .i64 m.t1, .string m.nm, .string m.nw, .int .i64 m.off, .string m.dt] 41 (0, 0))] W_) (ds := []) (K1.out.drew) (fun hHeld => ?_)
  refine pu_ 0 (some 3) ?_
  refine tk_ 1 (some 4) (.agg #[.int .i64 m.t, .int .i64 m.r, .int .i64 m.k, .int .i64 m.a0, .int .i64 m.a1, .int .i64 m.i0, .int .i64 m.i1, .int .i64 m.t0, .int .i64 m.t1, .string m.nm, .string m.nw, .int .i64 m.off, .string m.dt]) rfl (fun w' h => run_load_mid 36 _ rfl w.heap.size 9 #[.int .i64 m.t, .int .i64 m.r, .int .i64 m.k, .int .i64 m.a0, .int .i64 m.a1, .int .i64 m.i0, .int .i64 m.i1, .int .i64 m.t0, .int .i64 m.t1, .string m.nm, .string m.nw, .int .i64 m.off, .string m.dt].toList rfl _ _ _ (h.get 0 rfl) (fun j v hj => by simpa [Nat.add_comm] using hj) _ Tryz.underlying36 rfl size_opM) hHeld ?_
  refine cb_ 2 (some 5) Tryz.func51 HO (fun _ hr => hHeld.call hr) (fun wr5 hHeld => ?_)
  refine pu_ 3 (some 6) ?_
  refine pu_ 4 (some 7) ?_
  refine tk_ 5 (some 8) (.int .i64 m.q) rfl (fun w' h => by have c := cell_of_row w' _ 0 _ _ _ (h.get 0 rfl); go_simp) hHeld ?_
  refine pu_ 6 (some 9) ?_
  refine pu_ 7 (some 10) ?_
  refine pu_ 8 (some 11) ?_
  refine pu_ 9 (some 12) ?_
  refine tk_ 10 (some 13) (.int .i64 m.q) rfl (fun w' h => by have c := cell_of_row w' _ 0 _ _ _ (h.get 0 rfl); go_simp) hHeld ?_
  refine pu_ 11 (some 14) ?_
  refine pu_ 12 (some 15) ?_
  refine pu_ 13 (some 16) ?_
  first | (refine pu_ 14 (some 17) ?_) | refine po_ 14 (some 17) ?_
  first | (refine tk_ 15 (some 18) (.agg [.int .i64 m.d0, .int .i64 m.d1, .int .i64 m.d2, .int .i64 m.d3, .int .i64 m.d4, .int .i64 m.d5, .int .i64 m.d6, .int .i64 m.d7].toArray) rfl (fun w' h => run_load_mid 22 _ rfl w.heap.size 1 [.int .i64 m.d0, .int .i64 m.d1, .int .i64 m.d2, .int .i64 m.d3, .int .i64 m.d4, .int .i64 m.d5, .int .i64 m.d6, .int .i64 m.d7] rfl _ _ _ (h.get 0 rfl) (eight_at rfl rfl rfl rfl rfl rfl rfl rfl) _ Tryz.underlying22 rfl size_e8) hHeld ?_) | refine po_ 15 (some 18) ?_
  refine po_ 16 (some 19) ?_
  refine pu_ 17 (some 20) ?_
  refine pu_ 18 (some 21) ?_
  first | (refine pu_ 19 (some 22) ?_) | refine po_ 19 (some 22) ?_
  first | (refine pu_ 20 (some 23) ?_) | refine po_ 20 (some 23) ?_
  first | (refine pu_ 21 (some 24) ?_) | refine po_ 21 (some 24) ?_
  first | (refine tk_ 22 (some 25) (.int .i64 (rr : Int)) rfl (fun w' h => by have c : w'.cell? ⟨w.heap.size, 10, none⟩ = some (.int .i64 (rr : Int)) := (cell_of_row w' _ 10 _ _ _ (h.get 0 rfl)).trans (by rw [← HRR.out]; rfl); go_simp) hHeld ?_) | refine po_ 22 (some 25) ?_
  first | (refine pu_ 23 (some 26) ?_) | refine po_ 23 (some 26) ?_
  first | (refine pu_ 24 (some 27) ?_) | refine po_ 24 (some 27) ?_
  first | (refine tk_ 25 (some 28) (.int .i64 dr) rfl (fun w' h => by have c : w'.cell? ⟨w.heap.size, 1 + rr, none⟩ = some (.int .i64 dr) := (cell_of_row w' _ _ _ _ _ (h.get 0 rfl)).trans HDR.out; go_simp) hHeld ?_) | refine po_ 25 (some 28) ?_
  first | (refine pu_ 26 (some 29) ?_) | refine po_ 26 (some 29) ?_
  first | (refine tk_ 27 (some 30) (.int .i64 m.q) rfl (fun w' h => by have c := cell_of_row w' _ 0 _ _ _ (h.get 0 rfl); go_simp) hHeld ?_) | refine po_ 27 (some 30) ?_
  first | (refine pu_ 28 (some 31) ?_) | refine po_ 28 (some 31) ?_
  first | (refine pu_ 29 (some 32) ?_) | refine po_ 29 (some 32) ?_
  refine pu_ 30 (some 33) ?_
  refine pu_ 31 (some 2) ?_
  refine done_ (by kernel_rfl) ?_
  go_wp2_with fail
  go_ret
  exact ⟨by rw [HV.out]; first | rfl | (simp [*]; done) | (simp; done), hHeld.2⟩
set_option maxHeartbeats 4000000 in
set_option maxRecDepth 100000 in
theorem rmay_deps (m : MsgV) (b0 bv : Bool) (dr : Int) (rr : Nat) (w : World) (hdr : (#[.int .i64 m.q, .int .i64 m.d0, .int .i64 m.d1, .int .i64 m.d2, .int .i64 m.d3, .int .i64 m.d4, .int .i64 m.d5, .int .i64 m.d6, .int .i64 m.d7, .int .i64 m.t, .int .i64 m.r, .int .i64 m.k, .int .i64 m.a0, .int .i64 m.a1, .int .i64 m.i0, .int .i64 m.i1, .int .i64 m.t0, .int .i64 m.t1, .string m.nm, .string m.nw, .int .i64 m.off, .string m.dt] : Array Value)[1 + rr]? = some (.int .i64 dr)) (hr8 : rr < 8)
    (HO : Hd (∀ w, Calls Tryz.prog 51 #[.agg #[.int .i64 m.t, .int .i64 m.r, .int .i64 m.k, .int .i64 m.a0, .int .i64 m.a1, .int .i64 m.i0, .int .i64 m.i1, .int .i64 m.t0, .int .i64 m.t1, .string m.nm, .string m.nw, .int .i64 m.off, .string m.dt]] w fun e w' => e = .returned (.bool b0) ∧ Below w.heap.size w w'))
    (HVM : Hd (∀ w, Calls Tryz.prog 52 #[.agg [.int .i64 m.d0, .int .i64 m.d1, .int .i64 m.d2, .int .i64 m.d3, .int .i64 m.d4, .int .i64 m.d5, .int .i64 m.d6, .int .i64 m.d7].toArray] w fun e w' => e = .returned (.bool bv) ∧ Below w.heap.size w w'))
    (hrr : m.r = (rr : Int))
    (V : Bool) (HV : Hd (V = false)) (h0 : b0 = true) (h1 : 1 ≤ m.q) (h2 : m.q ≤ 1073741824) (h3 : bv = false) :
    Calls Tryz.prog 22 #[.agg #[.int .i64 m.q, .int .i64 m.d0, .int .i64 m.d1, .int .i64 m.d2, .int .i64 m.d3, .int .i64 m.d4, .int .i64 m.d5, .int .i64 m.d6, .int .i64 m.d7, .int .i64 m.t, .int .i64 m.r, .int .i64 m.k, .int .i64 m.a0, .int .i64 m.a1, .int .i64 m.i0, .int .i64 m.i1, .int .i64 m.t0, .int .i64 m.t1, .string m.nm, .string m.nw, .int .i64 m.off, .string m.dt]] w fun e w' => e = .returned (.bool V) ∧ Below w.heap.size w w' := by
  have K0 := Hd.mk (Holds.start1 w (.cells #[.int .i64 m.q, .int .i64 m.d0, .int .i64 m.d1, .int .i64 m.d2, .int .i64 m.d3, .int .i64 m.d4, .int .i64 m.d5, .int .i64 m.d6, .int .i64 m.d7, .int .i64 m.t, .int .i64 m.r, .int .i64 m.k, .int .i64 m.a0, .int .i64 m.a1, .int .i64 m.i0, .int .i64 m.i1, .int .i64 m.t0, .int .i64 m.t1, .string m.nm, .string m.nw, .int .i64 m.off, .string m.dt] 41 (0, 0)))
  have HDR := Hd.mk hdr
  have HRR := Hd.mk hrr
  have g0 : (0 : Int) ≤ (rr : Int) := by omega
  have g8 : (rr : Int) < 8 := by omega
  subst h0 h3
  have e1 : decide (1 ≤ m.q) = true := decide_eq_true h1
  have e2 : decide (m.q ≤ 1073741824) = true := decide_eq_true h2
  clear h1 h2
  clear hdr hr8 hrr
  go_enter Tryz.func22, Tryz.ntmps22
  go_upto_region 1 with (fail)
  refine world_gen _ K0.out (fun W hK => ?_)
  have K1 := Hd.mk hK
  clear hK K0
  refine st_ 32 (S := fun W_ => Holds w [(w.heap.size, .cells #[.int .i64 m.q, .int .i64 m.d0, .int .i64 m.d1, .int .i64 m.d2, .int .i64 m.d3, .int .i64 m.d4, .int .i64 m.d5, .int .i64 m.d6, .int .i64 m.d7, .int .i64 m.t, .int .i64 m.r, .int .i64 m.k, .int .i64 m.a0, .int .i64 m.a1, .int .i64 m.i0, .int .i64 m.i1, .int .i64 m.t0, .int .i64 m.t1, .string m.nm, .string m.nw, .int .i64 m.off, .string m.dt] 41 (0, 0))] W_) (ds := []) (K1.out.drew) (fun hHeld => ?_)
  refine pu_ 0 (some 3) ?_
  refine tk_ 1 (some 4) (.agg #[.int .i64 m.t, .int .i64 m.r, .int .i64 m.k, .int .i64 m.a0, .int .i64 m.a1, .int .i64 m.i0, .int .i64 m.i1, .int .i64 m.t0, .int .i64 m.t1, .string m.nm, .string m.nw, .int .i64 m.off, .string m.dt]) rfl (fun w' h => run_load_mid 36 _ rfl w.heap.size 9 #[.int .i64 m.t, .int .i64 m.r, .int .i64 m.k, .int .i64 m.a0, .int .i64 m.a1, .int .i64 m.i0, .int .i64 m.i1, .int .i64 m.t0, .int .i64 m.t1, .string m.nm, .string m.nw, .int .i64 m.off, .string m.dt].toList rfl _ _ _ (h.get 0 rfl) (fun j v hj => by simpa [Nat.add_comm] using hj) _ Tryz.underlying36 rfl size_opM) hHeld ?_
  refine cb_ 2 (some 5) Tryz.func51 HO (fun _ hr => hHeld.call hr) (fun wr7 hHeld => ?_)
  refine pu_ 3 (some 6) ?_
  refine pu_ 4 (some 7) ?_
  refine tk_ 5 (some 8) (.int .i64 m.q) rfl (fun w' h => by have c := cell_of_row w' _ 0 _ _ _ (h.get 0 rfl); go_simp) hHeld ?_
  refine pu_ 6 (some 9) ?_
  refine pu_ 7 (some 10) ?_
  refine pu_ 8 (some 11) ?_
  refine pu_ 9 (some 12) ?_
  refine tk_ 10 (some 13) (.int .i64 m.q) rfl (fun w' h => by have c := cell_of_row w' _ 0 _ _ _ (h.get 0 rfl); go_simp) hHeld ?_
  refine pu_ 11 (some 14) ?_
  refine pu_ 12 (some 15) ?_
  refine pu_ 13 (some 16) ?_
  refine pu_ 14 (some 17) ?_
  refine tk_ 15 (some 18) (.agg [.int .i64 m.d0, .int .i64 m.d1, .int .i64 m.d2, .int .i64 m.d3, .int .i64 m.d4, .int .i64 m.d5, .int .i64 m.d6, .int .i64 m.d7].toArray) rfl (fun w' h => run_load_mid 22 _ rfl w.heap.size 1 [.int .i64 m.d0, .int .i64 m.d1, .int .i64 m.d2, .int .i64 m.d3, .int .i64 m.d4, .int .i64 m.d5, .int .i64 m.d6, .int .i64 m.d7] rfl _ _ _ (h.get 0 rfl) (eight_at rfl rfl rfl rfl rfl rfl rfl rfl) _ Tryz.underlying22 rfl size_e8) hHeld ?_
  refine cb_ 16 (some 19) Tryz.func52 HVM (fun _ hr => hHeld.call hr) (fun wr8 hHeld => ?_)
  refine pu_ 17 (some 20) ?_
  refine pu_ 18 (some 21) ?_
  first | (refine pu_ 19 (some 22) ?_) | refine po_ 19 (some 22) ?_
  first | (refine pu_ 20 (some 23) ?_) | refine po_ 20 (some 23) ?_
  first | (refine pu_ 21 (some 24) ?_) | refine po_ 21 (some 24) ?_
  first | (refine tk_ 22 (some 25) (.int .i64 (rr : Int)) rfl (fun w' h => by have c : w'.cell? ⟨w.heap.size, 10, none⟩ = some (.int .i64 (rr : Int)) := (cell_of_row w' _ 10 _ _ _ (h.get 0 rfl)).trans (by rw [← HRR.out]; rfl); go_simp) hHeld ?_) | refine po_ 22 (some 25) ?_
  first | (refine pu_ 23 (some 26) ?_) | refine po_ 23 (some 26) ?_
  first | (refine pu_ 24 (some 27) ?_) | refine po_ 24 (some 27) ?_
  first | (refine tk_ 25 (some 28) (.int .i64 dr) rfl (fun w' h => by have c : w'.cell? ⟨w.heap.size, 1 + rr, none⟩ = some (.int .i64 dr) := (cell_of_row w' _ _ _ _ _ (h.get 0 rfl)).trans HDR.out; go_simp) hHeld ?_) | refine po_ 25 (some 28) ?_
  first | (refine pu_ 26 (some 29) ?_) | refine po_ 26 (some 29) ?_
  first | (refine tk_ 27 (some 30) (.int .i64 m.q) rfl (fun w' h => by have c := cell_of_row w' _ 0 _ _ _ (h.get 0 rfl); go_simp) hHeld ?_) | refine po_ 27 (some 30) ?_
  first | (refine pu_ 28 (some 31) ?_) | refine po_ 28 (some 31) ?_
  first | (refine pu_ 29 (some 32) ?_) | refine po_ 29 (some 32) ?_
  refine pu_ 30 (some 33) ?_
  refine pu_ 31 (some 2) ?_
  refine done_ (by kernel_rfl) ?_
  go_wp2_with fail
  go_ret
  exact ⟨by rw [HV.out]; first | rfl | (simp [*]; done) | (simp; done), hHeld.2⟩
set_option maxHeartbeats 4000000 in
set_option maxRecDepth 100000 in
theorem rmay_all (m : MsgV) (b0 bv : Bool) (dr : Int) (rr : Nat) (w : World) (hdr : (#[.int .i64 m.q, .int .i64 m.d0, .int .i64 m.d1, .int .i64 m.d2, .int .i64 m.d3, .int .i64 m.d4, .int .i64 m.d5, .int .i64 m.d6, .int .i64 m.d7, .int .i64 m.t, .int .i64 m.r, .int .i64 m.k, .int .i64 m.a0, .int .i64 m.a1, .int .i64 m.i0, .int .i64 m.i1, .int .i64 m.t0, .int .i64 m.t1, .string m.nm, .string m.nw, .int .i64 m.off, .string m.dt] : Array Value)[1 + rr]? = some (.int .i64 dr)) (hr8 : rr < 8)
    (HO : Hd (∀ w, Calls Tryz.prog 51 #[.agg #[.int .i64 m.t, .int .i64 m.r, .int .i64 m.k, .int .i64 m.a0, .int .i64 m.a1, .int .i64 m.i0, .int .i64 m.i1, .int .i64 m.t0, .int .i64 m.t1, .string m.nm, .string m.nw, .int .i64 m.off, .string m.dt]] w fun e w' => e = .returned (.bool b0) ∧ Below w.heap.size w w'))
    (HVM : Hd (∀ w, Calls Tryz.prog 52 #[.agg [.int .i64 m.d0, .int .i64 m.d1, .int .i64 m.d2, .int .i64 m.d3, .int .i64 m.d4, .int .i64 m.d5, .int .i64 m.d6, .int .i64 m.d7].toArray] w fun e w' => e = .returned (.bool bv) ∧ Below w.heap.size w w'))
    (hrr : m.r = (rr : Int))
    (V : Bool) (HV : Hd (V = (dr == m.q - 1))) (h0 : b0 = true) (h1 : 1 ≤ m.q) (h2 : m.q ≤ 1073741824) (h3 : bv = true) :
    Calls Tryz.prog 22 #[.agg #[.int .i64 m.q, .int .i64 m.d0, .int .i64 m.d1, .int .i64 m.d2, .int .i64 m.d3, .int .i64 m.d4, .int .i64 m.d5, .int .i64 m.d6, .int .i64 m.d7, .int .i64 m.t, .int .i64 m.r, .int .i64 m.k, .int .i64 m.a0, .int .i64 m.a1, .int .i64 m.i0, .int .i64 m.i1, .int .i64 m.t0, .int .i64 m.t1, .string m.nm, .string m.nw, .int .i64 m.off, .string m.dt]] w fun e w' => e = .returned (.bool V) ∧ Below w.heap.size w w' := by
  have K0 := Hd.mk (Holds.start1 w (.cells #[.int .i64 m.q, .int .i64 m.d0, .int .i64 m.d1, .int .i64 m.d2, .int .i64 m.d3, .int .i64 m.d4, .int .i64 m.d5, .int .i64 m.d6, .int .i64 m.d7, .int .i64 m.t, .int .i64 m.r, .int .i64 m.k, .int .i64 m.a0, .int .i64 m.a1, .int .i64 m.i0, .int .i64 m.i1, .int .i64 m.t0, .int .i64 m.t1, .string m.nm, .string m.nw, .int .i64 m.off, .string m.dt] 41 (0, 0)))
  have HDR := Hd.mk hdr
  have HRR := Hd.mk hrr
  have g0 : (0 : Int) ≤ (rr : Int) := by omega
  have g8 : (rr : Int) < 8 := by omega
  subst h0 h3
  have hq : wrap64 (m.q - 1) = m.q - 1 := by unfold wrap64; omega
  have hq2 : IntKind.i64.wrap (m.q - 1) = m.q - 1 := by rw [IntKind.wrap_i64]; omega
  have e1 : decide (1 ≤ m.q) = true := decide_eq_true h1
  have e2 : decide (m.q ≤ 1073741824) = true := decide_eq_true h2
  clear h1 h2
  clear hdr hr8 hrr
  go_enter Tryz.func22, Tryz.ntmps22
  go_upto_region 1 with (fail)
  refine world_gen _ K0.out (fun W hK => ?_)
  have K1 := Hd.mk hK
  clear hK K0
  refine st_ 32 (S := fun W_ => Holds w [(w.heap.size, .cells #[.int .i64 m.q, .int .i64 m.d0, .int .i64 m.d1, .int .i64 m.d2, .int .i64 m.d3, .int .i64 m.d4, .int .i64 m.d5, .int .i64 m.d6, .int .i64 m.d7, .int .i64 m.t, .int .i64 m.r, .int .i64 m.k, .int .i64 m.a0, .int .i64 m.a1, .int .i64 m.i0, .int .i64 m.i1, .int .i64 m.t0, .int .i64 m.t1, .string m.nm, .string m.nw, .int .i64 m.off, .string m.dt] 41 (0, 0))] W_) (ds := []) (K1.out.drew) (fun hHeld => ?_)
  refine pu_ 0 (some 3) ?_
  refine tk_ 1 (some 4) (.agg #[.int .i64 m.t, .int .i64 m.r, .int .i64 m.k, .int .i64 m.a0, .int .i64 m.a1, .int .i64 m.i0, .int .i64 m.i1, .int .i64 m.t0, .int .i64 m.t1, .string m.nm, .string m.nw, .int .i64 m.off, .string m.dt]) rfl (fun w' h => run_load_mid 36 _ rfl w.heap.size 9 #[.int .i64 m.t, .int .i64 m.r, .int .i64 m.k, .int .i64 m.a0, .int .i64 m.a1, .int .i64 m.i0, .int .i64 m.i1, .int .i64 m.t0, .int .i64 m.t1, .string m.nm, .string m.nw, .int .i64 m.off, .string m.dt].toList rfl _ _ _ (h.get 0 rfl) (fun j v hj => by simpa [Nat.add_comm] using hj) _ Tryz.underlying36 rfl size_opM) hHeld ?_
  refine cb_ 2 (some 5) Tryz.func51 HO (fun _ hr => hHeld.call hr) (fun wr9 hHeld => ?_)
  refine pu_ 3 (some 6) ?_
  refine pu_ 4 (some 7) ?_
  refine tk_ 5 (some 8) (.int .i64 m.q) rfl (fun w' h => by have c := cell_of_row w' _ 0 _ _ _ (h.get 0 rfl); go_simp) hHeld ?_
  refine pu_ 6 (some 9) ?_
  refine pu_ 7 (some 10) ?_
  refine pu_ 8 (some 11) ?_
  refine pu_ 9 (some 12) ?_
  refine tk_ 10 (some 13) (.int .i64 m.q) rfl (fun w' h => by have c := cell_of_row w' _ 0 _ _ _ (h.get 0 rfl); go_simp) hHeld ?_
  refine pu_ 11 (some 14) ?_
  refine pu_ 12 (some 15) ?_
  refine pu_ 13 (some 16) ?_
  refine pu_ 14 (some 17) ?_
  refine tk_ 15 (some 18) (.agg [.int .i64 m.d0, .int .i64 m.d1, .int .i64 m.d2, .int .i64 m.d3, .int .i64 m.d4, .int .i64 m.d5, .int .i64 m.d6, .int .i64 m.d7].toArray) rfl (fun w' h => run_load_mid 22 _ rfl w.heap.size 1 [.int .i64 m.d0, .int .i64 m.d1, .int .i64 m.d2, .int .i64 m.d3, .int .i64 m.d4, .int .i64 m.d5, .int .i64 m.d6, .int .i64 m.d7] rfl _ _ _ (h.get 0 rfl) (eight_at rfl rfl rfl rfl rfl rfl rfl rfl) _ Tryz.underlying22 rfl size_e8) hHeld ?_
  refine cb_ 16 (some 19) Tryz.func52 HVM (fun _ hr => hHeld.call hr) (fun wr10 hHeld => ?_)
  refine pu_ 17 (some 20) ?_
  refine pu_ 18 (some 21) ?_
  refine pu_ 19 (some 22) ?_
  refine pu_ 20 (some 23) ?_
  refine pu_ 21 (some 24) ?_
  refine tk_ 22 (some 25) (.int .i64 (rr : Int)) rfl (fun w' h => by have c : w'.cell? ⟨w.heap.size, 10, none⟩ = some (.int .i64 (rr : Int)) := (cell_of_row w' _ 10 _ _ _ (h.get 0 rfl)).trans (by rw [← HRR.out]; rfl); go_simp) hHeld ?_
  refine pu_ 23 (some 26) ?_
  refine pu_ 24 (some 27) ?_
  refine tk_ 25 (some 28) (.int .i64 dr) rfl (fun w' h => by have c : w'.cell? ⟨w.heap.size, 1 + rr, none⟩ = some (.int .i64 dr) := (cell_of_row w' _ _ _ _ _ (h.get 0 rfl)).trans HDR.out; go_simp) hHeld ?_
  refine pu_ 26 (some 29) ?_
  refine tk_ 27 (some 30) (.int .i64 m.q) rfl (fun w' h => by have c := cell_of_row w' _ 0 _ _ _ (h.get 0 rfl); go_simp) hHeld ?_
  refine pu_ 28 (some 31) ?_
  refine pu_ 29 (some 32) ?_
  refine pu_ 30 (some 33) ?_
  refine pu_ 31 (some 2) ?_
  refine done_ (by kernel_rfl) ?_
  go_wp2_with fail
  go_ret
  exact ⟨by rw [HV.out]; first | rfl | (simp [*]; done) | (simp; done), hHeld.2⟩
theorem ref_May17 (m : MsgV) (hd : m.dt.size ≤ 140737488355328) (w : World) : Calls Tryz.prog 22 #[.agg (msgC m)] w fun e w' => e = .returned (.bool m.fine) ∧ Below w.heap.size w w' := by
  show Calls Tryz.prog 22 #[.agg #[.int .i64 m.q, .int .i64 m.d0, .int .i64 m.d1, .int .i64 m.d2, .int .i64 m.d3, .int .i64 m.d4, .int .i64 m.d5, .int .i64 m.d6, .int .i64 m.d7, .int .i64 m.t, .int .i64 m.r, .int .i64 m.k, .int .i64 m.a0, .int .i64 m.a1, .int .i64 m.i0, .int .i64 m.i1, .int .i64 m.t0, .int .i64 m.t1, .string m.nm, .string m.nw, .int .i64 m.off, .string m.dt]] w _
  have HO : Hd (∀ w, Calls Tryz.prog 51 #[.agg #[.int .i64 m.t, .int .i64 m.r, .int .i64 m.k, .int .i64 m.a0, .int .i64 m.a1, .int .i64 m.i0, .int .i64 m.i1, .int .i64 m.t0, .int .i64 m.t1, .string m.nm, .string m.nw, .int .i64 m.off, .string m.dt]] w fun e w' => e = .returned (.bool m.may) ∧ Below w.heap.size w w') := ⟨fun w => by
    have h := ref_May ⟨m.t, m.r, m.k, m.a0, m.a1, m.i0, m.i1, m.t0, m.t1, m.nm, m.nw, m.off, m.dt⟩ hd w
    rw [refMayO_eq] at h
    exact h⟩
  have HV : Hd (∀ w, Calls Tryz.prog 52 #[.agg [.int .i64 m.d0, .int .i64 m.d1, .int .i64 m.d2, .int .i64 m.d3, .int .i64 m.d4, .int .i64 m.d5, .int .i64 m.d6, .int .i64 m.d7].toArray] w fun e w' => e = .returned (.bool (mayV m.deps)) ∧ Below w.heap.size w w') := ⟨fun w => ref_vecMay m.deps rfl w⟩
  by_cases h0 : m.may = true
  · obtain ⟨rr, hr8, hr⟩ := may_rep h0
    have hn : m.r.toNat = rr := by omega
    by_cases h1 : 1 ≤ m.q
    · by_cases h2 : m.q ≤ 1073741824
      · cases h3 : mayV m.deps with
        | false => exact rmay_deps m _ _ _ rr w (deps_at m hr8) hr8 HO HV hr _ ⟨by unfold MsgV.fine; rw [h0, h3]; simp⟩ h0 h1 h2 h3
        | true => exact rmay_all m _ _ _ rr w (deps_at m hr8) hr8 HO HV hr _ ⟨by unfold MsgV.fine; rw [h0, h3, hn, decide_eq_true h1, decide_eq_true h2]; simp⟩ h0 h1 h2 h3
      · exact rmay_high m _ _ _ rr w (deps_at m hr8) hr8 HO HV hr _ ⟨by unfold MsgV.fine; rw [decide_eq_false h2]; simp⟩ h0 h1 h2
    · exact rmay_low m _ _ _ rr w (deps_at m hr8) hr8 HO HV hr _ ⟨by unfold MsgV.fine; rw [decide_eq_false h1]; simp⟩ h0 h1
  · have h0 : m.may = false := by simpa using h0
    exact rmay_op m _ _ w HO HV _ ⟨by unfold MsgV.fine; rw [h0]; rfl⟩ h0
end Go.Proofs.YtcgkkjfbdappoaaGreat
