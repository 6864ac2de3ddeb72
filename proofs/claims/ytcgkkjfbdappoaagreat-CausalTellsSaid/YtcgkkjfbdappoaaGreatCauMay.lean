/- causal: whose a message is, and whether it may be: their contracts. -/
import Derived.Test.YtcgkkjfbdappoaaGreatOpMayAll
import Derived.Test.YtcgkkjfbdappoaaGreatVecBll
import Derived.Test.YtcgkkjfbdappoaaGreatCmpAll
namespace Go.Proofs.YtcgkkjfbdappoaaGreat
open Go.RowKit Go.Proofs.YtcgkkjfbdappoaaGreatW.PrintWords Go.Proofs.YtcgkkjfbdappoaaGreatW.PrintLast Go.Proofs.YtcgkkjfbdappoaaGreatW.PrintMore
set_option linter.unusedVariables false
set_option linter.unusedSimpArgs false

def MsgV.may (m : MsgV) : Bool := mayO m.t m.r m.k m.a0 m.a1 m.i0 m.i1 m.t0 m.t1 m.nm m.nw m.off m.dt
/-- Whether a message may be. -/
def MsgV.fine (m : MsgV) : Bool := m.may && decide (1 ≤ m.q) && decide (m.q ≤ 1073741824) && mayV m.deps && (m.deps.getD m.r.toNat 0 == m.q - 1)
theorem size_msg : (Tryz.prog.info? 38).map (·.size) = some 22 := by kernel_rfl
theorem size_opM : (Tryz.prog.info? 36).map (·.size) = some 13 := by kernel_rfl
theorem size_vecM : (Tryz.prog.info? 32).map (·.size) = some 8 := by kernel_rfl
set_option maxHeartbeats 1000000 in
set_option maxRecDepth 100000 in
theorem msg_rep (m : MsgV) (w : World) : Calls Tryz.prog 25 #[.agg #[.int .i64 m.q, .int .i64 m.d0, .int .i64 m.d1, .int .i64 m.d2, .int .i64 m.d3, .int .i64 m.d4, .int .i64 m.d5, .int .i64 m.d6, .int .i64 m.d7, .int .i64 m.t, .int .i64 m.r, .int .i64 m.k, .int .i64 m.a0, .int .i64 m.a1, .int .i64 m.i0, .int .i64 m.i1, .int .i64 m.t0, .int .i64 m.t1, .string m.nm, .string m.nw, .int .i64 m.off, .string m.dt]] w fun e w' => e = .returned (.int .i64 m.r) ∧ Below w.heap.size w w' := by
  go_enter Tryz.func25, Tryz.ntmps25
  go_wp2_with fail
  go_ret
  exact ⟨rfl, (Below.refl _ _).alloc (Nat.le_refl _) _⟩
theorem eight_at {cs : Array Value} {o : Nat} {v0 v1 v2 v3 v4 v5 v6 v7 : Value} (h0 : cs[o]? = some v0) (h1 : cs[o + 1]? = some v1) (h2 : cs[o + 2]? = some v2) (h3 : cs[o + 3]? = some v3) (h4 : cs[o + 4]? = some v4) (h5 : cs[o + 5]? = some v5) (h6 : cs[o + 6]? = some v6) (h7 : cs[o + 7]? = some v7) :
    ∀ (j : Nat) v, [v0, v1, v2, v3, v4, v5, v6, v7][j]? = some v → cs[o + j]? = some v := fun j v h => by
  match j, h with
  | 0, h => simp at h; subst h; exact h0
  | 1, h => simp at h; subst h; exact h1
  | 2, h => simp at h; subst h; exact h2
  | 3, h => simp at h; subst h; exact h3
  | 4, h => simp at h; subst h; exact h4
  | 5, h => simp at h; subst h; exact h5
  | 6, h => simp at h; subst h; exact h6
  | 7, h => simp at h; subst h; exact h7
  | j + 8, h => simp at h
theorem may_rep {m : MsgV} (h : m.may = true) : ∃ n : Nat, n < 8 ∧ m.r = (n : Int) := by
  have hs : mayS m.t m.r = true := by
    unfold MsgV.may mayO at h
    simp only [Bool.and_eq_true] at h
    exact h.1.1.2
  have := of_decide_eq_true hs
  exact ⟨m.r.toNat, by omega, by omega⟩
set_option maxHeartbeats 4000000 in
set_option maxRecDepth 100000 in
theorem cmay_op (m : MsgV) (b0 bv : Bool) (w : World)
    (HO : Hd (∀ w, Calls Tryz.prog 47 #[.agg #[.int .i64 m.t, .int .i64 m.r, .int .i64 m.k, .int .i64 m.a0, .int .i64 m.a1, .int .i64 m.i0, .int .i64 m.i1, .int .i64 m.t0, .int .i64 m.t1, .string m.nm, .string m.nw, .int .i64 m.off, .string m.dt]] w fun e w' => e = .returned (.bool b0) ∧ Below w.heap.size w w'))
    (HVM : Hd (∀ w, Calls Tryz.prog 7 #[.agg [.int .i64 m.d0, .int .i64 m.d1, .int .i64 m.d2, .int .i64 m.d3, .int .i64 m.d4, .int .i64 m.d5, .int .i64 m.d6, .int .i64 m.d7].toArray] w fun e w' => e = .returned (.bool bv) ∧ Below w.heap.size w w'))
    (V : Bool) (HV : Hd (V = false)) (h0 : b0 = false) :
    Calls Tryz.prog 20 #[.agg #[.int .i64 m.q, .int .i64 m.d0, .int .i64 m.d1, .int .i64 m.d2, .int .i64 m.d3, .int .i64 m.d4, .int .i64 m.d5, .int .i64 m.d6, .int .i64 m.d7, .int .i64 m.t, .int .i64 m.r, .int .i64 m.k, .int .i64 m.a0, .int .i64 m.a1, .int .i64 m.i0, .int .i64 m.i1, .int .i64 m.t0, .int .i64 m.t1, .string m.nm, .string m.nw, .int .i64 m.off, .string m.dt]] w fun e w' => e = .returned (.bool V) ∧ Below w.heap.size w w' := by
  have K0 := Hd.mk (Holds.start1 w (.cells #[.int .i64 m.q, .int .i64 m.d0, .int .i64 m.d1, .int .i64 m.d2, .int .i64 m.d3, .int .i64 m.d4, .int .i64 m.d5, .int .i64 m.d6, .int .i64 m.d7, .int .i64 m.t, .int .i64 m.r, .int .i64 m.k, .int .i64 m.a0, .int .i64 m.a1, .int .i64 m.i0, .int .i64 m.i1, .int .i64 m.t0, .int .i64 m.t1, .string m.nm, .string m.nw, .int .i64 m.off, .string m.dt] 38 (0, 0)))
  subst h0
  go_enter Tryz.func20, Tryz.ntmps20
  go_upto_region 1 with (fail)
  refine world_gen _ K0.out (fun W hK => ?_)
  have K1 := Hd.mk hK
  clear hK K0
  refine st_ 30 (S := fun W_ => Holds w [(w.heap.size, .cells #[.int .i64 m.q, .int .i64 m.d0, .int .i64 m.d1, .int .i64 m.d2, .int .i64 m.d3, .int .i64 m.d4, .int .i64 m.d5, .int .i64 m.d6, .int .i64 m.d7, .int .i64 m.t, .int .i64 m.r, .int .i64 m.k, .int .i64 m.a0, .int .i64 m.a1, .int .i64 m.i0, .int .i64 m.i1, .int .i64 m.t0, .int .i64 m.t1, .string m.nm, .string m.nw, .int .i64 m.off, .string m.dt] 38 (0, 0))] W_) (ds := []) (K1.out.drew) (fun hHeld => ?_)
  refine pu_ 0 (some 3) ?_
  refine tk_ 1 (some 4) (.agg #[.int .i64 m.t, .int .i64 m.r, .int .i64 m.k, .int .i64 m.a0, .int .i64 m.a1, .int .i64 m.i0, .int .i64 m.i1, .int .i64 m.t0, .int .i64 m.t1, .string m.nm, .string m.nw, .int .i64 m.off, .string m.dt]) rfl (fun w' h => run_load_mid 36 _ rfl w.heap.size 9 #[.int .i64 m.t, .int .i64 m.r, .int .i64 m.k, .int .i64 m.a0, .int .i64 m.a1, .int .i64 m.i0, .int .i64 m.i1, .int .i64 m.t0, .int .i64 m.t1, .string m.nm, .string m.nw, .int .i64 m.off, .string m.dt].toList rfl _ _ _ (h.get 0 rfl) (fun j v hj => by simpa [Nat.add_comm] using hj) _ Tryz.underlying36 rfl size_opM) hHeld ?_
  refine cb_ 2 (some 5) Tryz.func47 HO (fun _ hr => hHeld.call hr) (fun wr1 hHeld => ?_)
  refine pu_ 3 (some 6) ?_
  first | (refine pu_ 4 (some 7) ?_) | refine po_ 4 (some 7) ?_
  first | (refine tk_ 5 (some 8) (.int .i64 m.q) rfl (fun w' h => by have c := cell_of_row w' _ 0 _ _ _ (h.get 0 rfl); go_simp) hHeld ?_) | refine po_ 5 (some 8) ?_
  first | (refine pu_ 6 (some 9) ?_) | refine po_ 6 (some 9) ?_
  refine pu_ 7 (some 10) ?_
  refine pu_ 8 (some 11) ?_
  first | (refine pu_ 9 (some 12) ?_) | refine po_ 9 (some 12) ?_
  first | (refine tk_ 10 (some 13) (.int .i64 m.q) rfl (fun w' h => by have c := cell_of_row w' _ 0 _ _ _ (h.get 0 rfl); go_simp) hHeld ?_) | refine po_ 10 (some 13) ?_
  first | (refine pu_ 11 (some 14) ?_) | refine po_ 11 (some 14) ?_
  refine pu_ 12 (some 15) ?_
  refine pu_ 13 (some 16) ?_
  first | (refine pu_ 14 (some 17) ?_) | refine po_ 14 (some 17) ?_
  first | (refine tk_ 15 (some 18) (.agg [.int .i64 m.d0, .int .i64 m.d1, .int .i64 m.d2, .int .i64 m.d3, .int .i64 m.d4, .int .i64 m.d5, .int .i64 m.d6, .int .i64 m.d7].toArray) rfl (fun w' h => run_load_mid 32 _ rfl w.heap.size 1 [.int .i64 m.d0, .int .i64 m.d1, .int .i64 m.d2, .int .i64 m.d3, .int .i64 m.d4, .int .i64 m.d5, .int .i64 m.d6, .int .i64 m.d7] rfl _ _ _ (h.get 0 rfl) (eight_at rfl rfl rfl rfl rfl rfl rfl rfl) _ Tryz.underlying32 rfl size_vecM) hHeld ?_) | refine po_ 15 (some 18) ?_
  refine po_ 16 (some 19) ?_
  refine pu_ 17 (some 20) ?_
  refine pu_ 18 (some 21) ?_
  first | (refine tk_ 19 (some 22) (.agg #[.int .i64 m.q, .int .i64 m.d0, .int .i64 m.d1, .int .i64 m.d2, .int .i64 m.d3, .int .i64 m.d4, .int .i64 m.d5, .int .i64 m.d6, .int .i64 m.d7, .int .i64 m.t, .int .i64 m.r, .int .i64 m.k, .int .i64 m.a0, .int .i64 m.a1, .int .i64 m.i0, .int .i64 m.i1, .int .i64 m.t0, .int .i64 m.t1, .string m.nm, .string m.nw, .int .i64 m.off, .string m.dt]) rfl (fun w' h => run_load_mid 38 _ rfl w.heap.size 0 #[.int .i64 m.q, .int .i64 m.d0, .int .i64 m.d1, .int .i64 m.d2, .int .i64 m.d3, .int .i64 m.d4, .int .i64 m.d5, .int .i64 m.d6, .int .i64 m.d7, .int .i64 m.t, .int .i64 m.r, .int .i64 m.k, .int .i64 m.a0, .int .i64 m.a1, .int .i64 m.i0, .int .i64 m.i1, .int .i64 m.t0, .int .i64 m.t1, .string m.nm, .string m.nw, .int .i64 m.off, .string m.dt].toList rfl _ _ _ (h.get 0 rfl) (fun j v hj => by simpa using hj) _ Tryz.underlying38 rfl size_msg) hHeld ?_) | refine po_ 19 (some 22) ?_
  first | (refine pu_ 21 (some 24) ?_) | refine po_ 21 (some 24) ?_
  first | (refine pu_ 24 (some 27) ?_) | refine po_ 24 (some 27) ?_
  first | (refine tk_ 25 (some 28) (.int .i64 m.q) rfl (fun w' h => by have c := cell_of_row w' _ 0 _ _ _ (h.get 0 rfl); go_simp) hHeld ?_) | refine po_ 25 (some 28) ?_
  first | (refine pu_ 26 (some 29) ?_) | refine po_ 26 (some 29) ?_
  refine po_ 20 (some 23) ?_
  first | (refine pu_ 22 (some 25) ?_) | refine po_ 22 (some 25) ?_
  first | (refine tk_ 23 (some 26) (.int .i64 dr) rfl (fun w' h => by have c : w'.cell? ⟨w.heap.size, 1 + rr, none⟩ = some (.int .i64 dr) := (cell_of_row w' _ _ _ _ _ (h.get 0 rfl)).trans HDR.out; go_simp) hHeld ?_) | refine po_ 23 (some 26) ?_
  first | (refine pu_ 27 (some 30) ?_) | refine po_ 27 (some 30) ?_
  refine pu_ 28 (some 31) ?_
  refine pu_ 29 (some 2) ?_
  refine done_ (by kernel_rfl) ?_
  go_wp2_with fail
  go_ret
  exact ⟨by rw [HV.out]; first | rfl | (simp [*]; done) | (simp; done), hHeld.2⟩
set_option maxHeartbeats 4000000 in
set_option maxRecDepth 100000 in
theorem cmay_low (m : MsgV) (b0 bv : Bool) (dr : Int) (rr : Nat) (w : World) (hdr : (#[.int .i64 m.q, .int .i64 m.d0, .int .i64 m.d1, .int .i64 m.d2, .int .i64 m.d3, .int .i64 m.d4, .int .i64 m.d5, .int .i64 m.d6, .int .i64 m.d7, .int .i64 m.t, .int .i64 m.r, .int .i64 m.k, .int .i64 m.a0, .int .i64 m.a1, .int .i64 m.i0, .int .i64 m.i1, .int .i64 m.t0, .int .i64 m.t1, .string m.nm, .string m.nw, .int .i64 m.off, .string m.dt] : Array Value)[1 + rr]? = some (.int .i64 dr)) (hr8 : rr < 8)
    (HO : Hd (∀ w, Calls Tryz.prog 47 #[.agg #[.int .i64 m.t, .int .i64 m.r, .int .i64 m.k, .int .i64 m.a0, .int .i64 m.a1, .int .i64 m.i0, .int .i64 m.i1, .int .i64 m.t0, .int .i64 m.t1, .string m.nm, .string m.nw, .int .i64 m.off, .string m.dt]] w fun e w' => e = .returned (.bool b0) ∧ Below w.heap.size w w'))
    (HVM : Hd (∀ w, Calls Tryz.prog 7 #[.agg [.int .i64 m.d0, .int .i64 m.d1, .int .i64 m.d2, .int .i64 m.d3, .int .i64 m.d4, .int .i64 m.d5, .int .i64 m.d6, .int .i64 m.d7].toArray] w fun e w' => e = .returned (.bool bv) ∧ Below w.heap.size w w'))
    (HR : Hd (∀ w, Calls Tryz.prog 25 #[.agg #[.int .i64 m.q, .int .i64 m.d0, .int .i64 m.d1, .int .i64 m.d2, .int .i64 m.d3, .int .i64 m.d4, .int .i64 m.d5, .int .i64 m.d6, .int .i64 m.d7, .int .i64 m.t, .int .i64 m.r, .int .i64 m.k, .int .i64 m.a0, .int .i64 m.a1, .int .i64 m.i0, .int .i64 m.i1, .int .i64 m.t0, .int .i64 m.t1, .string m.nm, .string m.nw, .int .i64 m.off, .string m.dt]] w fun e w' => e = .returned (.int .i64 (rr : Int)) ∧ Below w.heap.size w w'))
    (V : Bool) (HV : Hd (V = false)) (h0 : b0 = true) (h1 : ¬ 1 ≤ m.q) :
    Calls Tryz.prog 20 #[.agg #[.int .i64 m.q, .int .i64 m.d0, .int .i64 m.d1, .int .i64 m.d2, .int .i64 m.d3, .int .i64 m.d4, .int .i64 m.d5, .int .i64 m.d6, .int .i64 m.d7, .int .i64 m.t, .int .i64 m.r, .int .i64 m.k, .int .i64 m.a0, .int .i64 m.a1, .int .i64 m.i0, .int .i64 m.i1, .int .i64 m.t0, .int .i64 m.t1, .string m.nm, .string m.nw, .int .i64 m.off, .string m.dt]] w fun e w' => e = .returned (.bool V) ∧ Below w.heap.size w w' := by
  have K0 := Hd.mk (Holds.start1 w (.cells #[.int .i64 m.q, .int .i64 m.d0, .int .i64 m.d1, .int .i64 m.d2, .int .i64 m.d3, .int .i64 m.d4, .int .i64 m.d5, .int .i64 m.d6, .int .i64 m.d7, .int .i64 m.t, .int .i64 m.r, .int .i64 m.k, .int .i64 m.a0, .int .i64 m.a1, .int .i64 m.i0, .int .i64 m.i1, .int .i64 m.t0, .int .i64 m.t1, .string m.nm, .string m.nw, .int .i64 m.off, .string m.dt] 38 (0, 0)))
  have HDR := Hd.mk hdr
  have g8 : (rr : Int) < 8 := by omega
  subst h0
  have e1 : decide (1 ≤ m.q) = false := decide_eq_false h1
  clear h1
  clear hdr hr8
  go_enter Tryz.func20, Tryz.ntmps20
  go_upto_region 1 with (fail)
  refine world_gen _ K0.out (fun W hK => ?_)
  have K1 := Hd.mk hK
  clear hK K0
  refine st_ 30 (S := fun W_ => Holds w [(w.heap.size, .cells #[.int .i64 m.q, .int .i64 m.d0, .int .i64 m.d1, .int .i64 m.d2, .int .i64 m.d3, .int .i64 m.d4, .int .i64 m.d5, .int .i64 m.d6, .int .i64 m.d7, .int .i64 m.t, .int .i64 m.r, .int .i64 m.k, .int .i64 m.a0, .int .i64 m.a1, .int .i64 m.i0, .int .i64 m.i1, .int .i64 m.t0, .int .i64 m.t1, .string m.nm, .string m.nw, .int .i64 m.off, .string m.dt] 38 (0, 0))] W_) (ds := []) (K1.out.drew) (fun hHeld => ?_)
  refine pu_ 0 (some 3) ?_
  refine tk_ 1 (some 4) (.agg #[.int .i64 m.t, .int .i64 m.r, .int .i64 m.k, .int .i64 m.a0, .int .i64 m.a1, .int .i64 m.i0, .int .i64 m.i1, .int .i64 m.t0, .int .i64 m.t1, .string m.nm, .string m.nw, .int .i64 m.off, .string m.dt]) rfl (fun w' h => run_load_mid 36 _ rfl w.heap.size 9 #[.int .i64 m.t, .int .i64 m.r, .int .i64 m.k, .int .i64 m.a0, .int .i64 m.a1, .int .i64 m.i0, .int .i64 m.i1, .int .i64 m.t0, .int .i64 m.t1, .string m.nm, .string m.nw, .int .i64 m.off, .string m.dt].toList rfl _ _ _ (h.get 0 rfl) (fun j v hj => by simpa [Nat.add_comm] using hj) _ Tryz.underlying36 rfl size_opM) hHeld ?_
  refine cb_ 2 (some 5) Tryz.func47 HO (fun _ hr => hHeld.call hr) (fun wr4 hHeld => ?_)
  refine pu_ 3 (some 6) ?_
  refine pu_ 4 (some 7) ?_
  refine tk_ 5 (some 8) (.int .i64 m.q) rfl (fun w' h => by have c := cell_of_row w' _ 0 _ _ _ (h.get 0 rfl); go_simp) hHeld ?_
  refine pu_ 6 (some 9) ?_
  refine pu_ 7 (some 10) ?_
  refine pu_ 8 (some 11) ?_
  first | (refine pu_ 9 (some 12) ?_) | refine po_ 9 (some 12) ?_
  first | (refine tk_ 10 (some 13) (.int .i64 m.q) rfl (fun w' h => by have c := cell_of_row w' _ 0 _ _ _ (h.get 0 rfl); go_simp) hHeld ?_) | refine po_ 10 (some 13) ?_
  first | (refine pu_ 11 (some 14) ?_) | refine po_ 11 (some 14) ?_
  refine pu_ 12 (some 15) ?_
  refine pu_ 13 (some 16) ?_
  first | (refine pu_ 14 (some 17) ?_) | refine po_ 14 (some 17) ?_
  first | (refine tk_ 15 (some 18) (.agg [.int .i64 m.d0, .int .i64 m.d1, .int .i64 m.d2, .int .i64 m.d3, .int .i64 m.d4, .int .i64 m.d5, .int .i64 m.d6, .int .i64 m.d7].toArray) rfl (fun w' h => run_load_mid 32 _ rfl w.heap.size 1 [.int .i64 m.d0, .int .i64 m.d1, .int .i64 m.d2, .int .i64 m.d3, .int .i64 m.d4, .int .i64 m.d5, .int .i64 m.d6, .int .i64 m.d7] rfl _ _ _ (h.get 0 rfl) (eight_at rfl rfl rfl rfl rfl rfl rfl rfl) _ Tryz.underlying32 rfl size_vecM) hHeld ?_) | refine po_ 15 (some 18) ?_
  refine po_ 16 (some 19) ?_
  refine pu_ 17 (some 20) ?_
  refine pu_ 18 (some 21) ?_
  first | (refine tk_ 19 (some 22) (.agg #[.int .i64 m.q, .int .i64 m.d0, .int .i64 m.d1, .int .i64 m.d2, .int .i64 m.d3, .int .i64 m.d4, .int .i64 m.d5, .int .i64 m.d6, .int .i64 m.d7, .int .i64 m.t, .int .i64 m.r, .int .i64 m.k, .int .i64 m.a0, .int .i64 m.a1, .int .i64 m.i0, .int .i64 m.i1, .int .i64 m.t0, .int .i64 m.t1, .string m.nm, .string m.nw, .int .i64 m.off, .string m.dt]) rfl (fun w' h => run_load_mid 38 _ rfl w.heap.size 0 #[.int .i64 m.q, .int .i64 m.d0, .int .i64 m.d1, .int .i64 m.d2, .int .i64 m.d3, .int .i64 m.d4, .int .i64 m.d5, .int .i64 m.d6, .int .i64 m.d7, .int .i64 m.t, .int .i64 m.r, .int .i64 m.k, .int .i64 m.a0, .int .i64 m.a1, .int .i64 m.i0, .int .i64 m.i1, .int .i64 m.t0, .int .i64 m.t1, .string m.nm, .string m.nw, .int .i64 m.off, .string m.dt].toList rfl _ _ _ (h.get 0 rfl) (fun j v hj => by simpa using hj) _ Tryz.underlying38 rfl size_msg) hHeld ?_) | refine po_ 19 (some 22) ?_
  first | (refine pu_ 21 (some 24) ?_) | refine po_ 21 (some 24) ?_
  first | (refine pu_ 24 (some 27) ?_) | refine po_ 24 (some 27) ?_
  first | (refine tk_ 25 (some 28) (.int .i64 m.q) rfl (fun w' h => by have c := cell_of_row w' _ 0 _ _ _ (h.get 0 rfl); go_simp) hHeld ?_) | refine po_ 25 (some 28) ?_
  first | (refine pu_ 26 (some 29) ?_) | refine po_ 26 (some 29) ?_
  refine po_ 20 (some 23) ?_
  first | (refine pu_ 22 (some 25) ?_) | refine po_ 22 (some 25) ?_
  first | (refine tk_ 23 (some 26) (.int .i64 dr) rfl (fun w' h => by have c : w'.cell? ⟨w.heap.size, 1 + rr, none⟩ = some (.int .i64 dr) := (cell_of_row w' _ _ _ _ _ (h.get 0 rfl)).trans HDR.out; go_simp) hHeld ?_) | refine po_ 23 (some 26) ?_
  first | (refine pu_ 27 (some 30) ?_) | refine po_ 27 (some 30) ?_
  refine pu_ 28 (some 31) ?_
  refine pu_ 29 (some 2) ?_
  refine done_ (by kernel_rfl) ?_
  go_wp2_with fail
  go_ret
  exact ⟨by rw [HV.out]; first | rfl | (simp [*]; done) | (simp; done), hHeld.2⟩
set_option maxHeartbeats 4000000 in
set_option maxRecDepth 100000 in
theorem cmay_high (m : MsgV) (b0 bv : Bool) (dr : Int) (rr : Nat) (w : World) (hdr : (#[.int .i64 m.q, .int .i64 m.d0, .int .i64 m.d1, .int .i64 m.d2, .int .i64 m.d3, .int .i64 m.d4, .int .i64 m.d5, .int .i64 m.d6, .int .i64 m.d7, .int .i64 m.t, .int .i64 m.r, .int .i64 m.k, .int .i64 m.a0, .int .i64 m.a1, .int .i64 m.i0, .int .i64 m.i1, .int .i64 m.t0, .int .i64 m.t1, .string m.nm, .string m.nw, .int .i64 m.off, .string m.dt] : Array Value)[1 + rr]? = some (.int .i64 dr)) (hr8 : rr < 8)
    (HO : Hd (∀ w, Calls Tryz.prog 47 #[.agg #[.int .i64 m.t, .int .i64 m.r, .int .i64 m.k, .int .i64 m.a0, .int .i64 m.a1, .int .i64 m.i0, .int .i64 m.i1, .int .i64 m.t0, .int .i64 m.t1, .string m.nm, .string m.nw, .int .i64 m.off, .string m.dt]] w fun e w' => e = .returned (.bool b0) ∧ Below w.heap.size w w'))
    (HVM : Hd (∀ w, Calls Tryz.prog 7 #[.agg [.int .i64 m.d0, .int .i64 m.d1, .int .i64 m.d2, .int .i64 m.d3, .int .i64 m.d4, .int .i64 m.d5, .int .i64 m.d6, .int .i64 m.d7].toArray] w fun e w' => e = .returned (.bool bv) ∧ Below w.heap.size w w'))
    (HR : Hd (∀ w, Calls Tryz.prog 25 #[.agg #[.int .i64 m.q, .int .i64 m.d0, .int .i64 m.d1, .int .i64 m.d2, .int .i64 m.d3, .int .i64 m.d4, .int .i64 m.d5, .int .i64 m.d6, .int .i64 m.d7, .int .i64 m.t, .int .i64 m.r, .int .i64 m.k, .int .i64 m.a0, .int .i64 m.a1, .int .i64 m.i0, .int .i64 m.i1, .int .i64 m.t0, .int .i64 m.t1, .string m.nm, .string m.nw, .int .i64 m.off, .string m.dt]] w fun e w' => e = .returned (.int .i64 (rr : Int)) ∧ Below w.heap.size w w'))
    (V : Bool) (HV : Hd (V = false)) (h0 : b0 = true) (h1 : 1 ≤ m.q) (h2 : ¬ m.q ≤ 1073741824) :
    Calls Tryz.prog 20 #[.agg #[.int .i64 m.q, .int .i64 m.d0, .int .i64 m.d1, .int .i64 m.d2, .int .i64 m.d3, .int .i64 m.d4, .int .i64 m.d5, .int .i64 m.d6, .int .i64 m.d7, .int .i64 m.t, .int .i64 m.r, .int .i64 m.k, .int .i64 m.a0, .int .i64 m.a1, .int .i64 m.i0, .int .i64 m.i1, .int .i64 m.t0, .int .i64 m.t1, .string m.nm, .string m.nw, .int .i64 m.off, .string m.dt]] w fun e w' => e = .returned (.bool V) ∧ Below w.heap.size w w' := by
  have K0 := Hd.mk (Holds.start1 w (.cells #[.int .i64 m.q, .int .i64 m.d0, .int .i64 m.d1, .int .i64 m.d2, .int .i64 m.d3, .int .i64 m.d4, .int .i64 m.d5, .int .i64 m.d6, .int .i64 m.d7, .int .i64 m.t, .int .i64 m.r, .int .i64 m.k, .int .i64 m.a0, .int .i64 m.a1, .int .i64 m.i0, .int .i64 m.i1, .int .i64 m.t0, .int .i64 m.t1, .string m.nm, .string m.nw, .int .i64 m.off, .string m.dt] 38 (0, 0)))
  have HDR := Hd.mk hdr
  have g8 : (rr : Int) < 8 := by omega
  subst h0
  have e1 : decide (1 ≤ m.q) = true := decide_eq_true h1
  have e2 : decide (m.q ≤ 1073741824) = false := decide_eq_false h2
  clear h1 h2
  clear hdr hr8
  go_enter Tryz.func20, Tryz.ntmps20
  go_upto_region 1 with (fail)
  refine world_gen _ K0.out (fun W hK => ?_)
  have K1 := Hd.mk hK
  clear hK K0
  refine st_ 30 (S := fun W_ => Holds w [(w.heap.size, .cells #[.int .i64 m.q, .int .i64 m.d0, .int .i64 m.d1, .int .i64 m.d2, .int .i64 m.d3, .int .i64 m.d4, .int .i64 m.d5, .int .i64 m.d6, .int .i64 m.d7, .int .i64 m.t, .int .i64 m.r, .int .i64 m.k, .int .i64 m.a0, .int .i64 m.a1, .int .i64 m.i0, .int .i64 m.i1, .int .i64 m.t0, .int .i64 m.t1, .string m.nm, .string m.nw, .int .i64 m.off, .string m.dt] 38 (0, 0))] W_) (ds := []) (K1.out.drew) (fun hHeld => ?_)
  refine pu_ 0 (some 3) ?_
  refine tk_ 1 (some 4) (.agg #[.int .i64 m.t, .int .i64 m.r, .int .i64 m.k, .int .i64 m.a0, .int .i64 m.a1, .int .i64 m.i0, .int .i64 m.i1, .int .i64 m.t0, .int .i64 m.t1, .string m.nm, .string m.nw, .int .i64 m.off, .string m.dt]) rfl (fun w' h => run_load_mid 36 _ rfl w.heap.size 9 #[.int .i64 m.t, .int .i64 m.r, .int .i64 m.k, .int .i64 m.a0, .int .i64 m.a1, .int .i64 m.i0, .int .i64 m.i1, .int .i64 m.t0, .int .i64 m.t1, .string m.nm, .string m.nw, .int .i64 m.off, .string m.dt].toList rfl _ _ _ (h.get 0 rfl) (fun j v hj => by simpa [Nat.add_comm] using hj) _ Tryz.underlying36 rfl size_opM) hHeld ?_
  refine cb_ 2 (some 5) Tryz.func47 HO (fun _ hr => hHeld.call hr) (fun wr7 hHeld => ?_)
  refine pu_ 3 (some 6) ?_
  refine pu_ 4 (some 7) ?_
  refine tk_ 5 (some 8) (.int .i64 m.q) rfl (fun w' h => by have c := cell_of_row w' _ 0 _ _ _ (h.get 0 rfl); go_simp) hHeld ?_
  refine pu_ 6 (some 9) ?_
  refine pu_ 7 (some 10) ?_
  refine pu_ 8 (some 11) ?_
  refine pu_ 9 (some 12) ?_
  refine tk_ 10 (some 13) (.int .i64 m.q) rfl (fun w' h => by have c := cell_of_row w' _ 0 _ _ _ (h.get 0 rfl); go_simp) hHeld ?_
  refine pu_ 11 (some 14) ?_
  refine pu_ 12 (some 15) ?_
  refine pu_ 13 (some 16) ?_
  first | (refine pu_ 14 (some 17) ?_) | refine po_ 14 (some 17) ?_
  first | (refine tk_ 15 (some 18) (.agg [.int .i64 m.d0, .int .i64 m.d1, .int .i64 m.d2, .int .i64 m.d3, .int .i64 m.d4, .int .i64 m.d5, .int .i64 m.d6, .int .i64 m.d7].toArray) rfl (fun w' h => run_load_mid 32 _ rfl w.heap.size 1 [.int .i64 m.d0, .int .i64 m.d1, .int .i64 m.d2, .int .i64 m.d3, .int .i64 m.d4, .int .i64 m.d5, .int .i64 m.d6, .int .i64 m.d7] rfl _ _ _ (h.get 0 rfl) (eight_at rfl rfl rfl rfl rfl rfl rfl rfl) _ Tryz.underlying32 rfl size_vecM) hHeld ?_) | refine po_ 15 (some 18) ?_
  refine po_ 16 (some 19) ?_
  refine pu_ 17 (some 20) ?_
  refine pu_ 18 (some 21) ?_
  first | (refine tk_ 19 (some 22) (.agg #[.int .i64 m.q, .int .i64 m.d0, .int .i64 m.d1, .int .i64 m.d2, .int .i64 m.d3, .int .i64 m.d4, .int .i64 m.d5, .int .i64 m.d6, .int .i64 m.d7, .int .i64 m.t, .int .i64 m.r, .int .i64 m.k, .int .i64 m.a0, .int .i64 m.a1, .int .i64 m.i0, .int .i64 m.i1, .int .i64 m.t0, .int .i64 m.t1, .string m.nm, .string m.nw, .int .i64 m.off, .string m.dt]) rfl (fun w' h => run_load_mid 38 _ rfl w.heap.size 0 #[.int .i64 m.q, .int .i64 m.d0, .int .i64 m.d1, .int .i64 m.d2, .int .i64 m.d3, .int .i64 m.d4, .int .i64 m.d5, .int .i64 m.d6, .int .i64 m.d7, .int .i64 m.t, .int .i64 m.r, .int .i64 m.k, .int .i64 m.a0, .int .i64 m.a1, .int .i64 m.i0, .int .i64 m.i1, .int .i64 m.t0, .int .i64 m.t1, .string m.nm, .string m.nw, .int .i64 m.off, .string m.dt].toList rfl _ _ _ (h.get 0 rfl) (fun j v hj => by simpa using hj) _ Tryz.underlying38 rfl size_msg) hHeld ?_) | refine po_ 19 (some 22) ?_
  first | (refine pu_ 21 (some 24) ?_) | refine po_ 21 (some 24) ?_
  first | (refine pu_ 24 (some 27) ?_) | refine po_ 24 (some 27) ?_
  first | (refine tk_ 25 (some 28) (.int .i64 m.q) rfl (fun w' h => by have c := cell_of_row w' _ 0 _ _ _ (h.get 0 rfl); go_simp) hHeld ?_) | refine po_ 25 (some 28) ?_
  first | (refine pu_ 26 (some 29) ?_) | refine po_ 26 (some 29) ?_
  refine po_ 20 (some 23) ?_
  first | (refine pu_ 22 (some 25) ?_) | refine po_ 22 (some 25) ?_
  first | (refine tk_ 23 (some 26) (.int .i64 dr) rfl (fun w' h => by have c : w'.cell? ⟨w.heap.size, 1 + rr, none⟩ = some (.int .i64 dr) := (cell_of_row w' _ _ _ _ _ (h.get 0 rfl)).trans HDR.out; go_simp) hHeld ?_) | refine po_ 23 (some 26) ?_
  first | (refine pu_ 27 (some 30) ?_) | refine po_ 27 (some 30) ?_
  refine pu_ 28 (some 31) ?_
  refine pu_ 29 (some 2) ?_
  refine done_ (by kernel_rfl) ?_
  go_wp2_with fail
  go_ret
  exact ⟨by rw [HV.out]; first | rfl | (simp [*]; done) | (simp; done), hHeld.2⟩
set_option maxHeartbeats 4000000 in
set_option maxRecDepth 100000 in
theorem cmay_deps (m : MsgV) (b0 bv : Bool) (dr : Int) (rr : Nat) (w : World) (hdr : (#[.int .i64 m.q, .int .i64 m.d0, .int .i64 m.d1, .int .i64 m.d2, .int .i64 m.d3, .int .i64 m.d4, .int .i64 m.d5, .int .i64 m.d6, .int .i64 m.d7, .int .i64 m.t, .int .i64 m.r, .int .i64 m.k, .int .i64 m.a0, .int .i64 m.a1, .int .i64 m.i0, .int .i64 m.i1, .int .i64 m.t0, .int .i64 m.t1, .string m.nm, .string m.nw, .int .i64 m.off, .string m.dt] : Array Value)[1 + rr]? = some (.int .i64 dr)) (hr8 : rr < 8)
    (HO : Hd (∀ w, Calls Tryz.prog 47 #[.agg #[.int .i64 m.t, .int .i64 m.r, .int .i64 m.k, .int .i64 m.a0, .int .i64 m.a1, .int .i64 m.i0, .int .i64 m.i1, .int .i64 m.t0, .int .i64 m.t1, .string m.nm, .string m.nw, .int .i64 m.off, .string m.dt]] w fun e w' => e = .returned (.bool b0) ∧ Below w.heap.size w w'))
    (HVM : Hd (∀ w, Calls Tryz.prog 7 #[.agg [.int .i64 m.d0, .int .i64 m.d1, .int .i64 m.d2, .int .i64 m.d3, .int .i64 m.d4, .int .i64 m.d5, .int .i64 m.d6, .int .i64 m.d7].toArray] w fun e w' => e = .returned (.bool bv) ∧ Below w.heap.size w w'))
    (HR : Hd (∀ w, Calls Tryz.prog 25 #[.agg #[.int .i64 m.q, .int .i64 m.d0, .int .i64 m.d1, .int .i64 m.d2, .int .i64 m.d3, .int .i64 m.d4, .int .i64 m.d5, .int .i64 m.d6, .int .i64 m.d7, .int .i64 m.t, .int .i64 m.r, .int .i64 m.k, .int .i64 m.a0, .int .i64 m.a1, .int .i64 m.i0, .int .i64 m.i1, .int .i64 m.t0, .int .i64 m.t1, .string m.nm, .string m.nw, .int .i64 m.off, .string m.dt]] w fun e w' => e = .returned (.int .i64 (rr : Int)) ∧ Below w.heap.size w w'))
    (V : Bool) (HV : Hd (V = false)) (h0 : b0 = true) (h1 : 1 ≤ m.q) (h2 : m.q ≤ 1073741824) (h3 : bv = false) :
    Calls Tryz.prog 20 #[.agg #[.int .i64 m.q, .int .i64 m.d0, .int .i64 m.d1, .int .i64 m.d2, .int .i64 m.d3, .int .i64 m.d4, .int .i64 m.d5, .int .i64 m.d6, .int .i64 m.d7, .int .i64 m.t, .int .i64 m.r, .int .i64 m.k, .int .i64 m.a0, .int .i64 m.a1, .int .i64 m.i0, .int .i64 m.i1, .int .i64 m.t0, .int .i64 m.t1, .string m.nm, .string m.nw, .int .i64 m.off, .string m.dt]] w fun e w' => e = .returned (.bool V) ∧ Below w.heap.size w w' := by
  have K0 := Hd.mk (Holds.start1 w (.cells #[.int .i64 m.q, .int .i64 m.d0, .int .i64 m.d1, .int .i64 m.d2, .int .i64 m.d3, .int .i64 m.d4, .int .i64 m.d5, .int .i64 m.d6, .int .i64 m.d7, .int .i64 m.t, .int .i64 m.r, .int .i64 m.k, .int .i64 m.a0, .int .i64 m.a1, .int .i64 m.i0, .int .i64 m.i1, .int .i64 m.t0, .int .i64 m.t1, .string m.nm, .string m.nw, .int .i64 m.off, .string m.dt] 38 (0, 0)))
  have HDR := Hd.mk hdr
  have g8 : (rr : Int) < 8 := by omega
  subst h0 h3
  have e1 : decide (1 ≤ m.q) = true := decide_eq_true h1
  have e2 : decide (m.q ≤ 1073741824) = true := decide_eq_true h2
  clear h1 h2
  clear hdr hr8
  go_enter Tryz.func20, Tryz.ntmps20
  go_upto_region 1 with (fail)
  refine world_gen _ K0.out (fun W hK => ?_)
  have K1 := Hd.mk hK
  clear hK K0
  refine st_ 30 (S := fun W_ => Holds w [(w.heap.size, .cells #[.int .i64 m.q, .int .i64 m.d0, .int .i64 m.d1, .int .i64 m.d2, .int .i64 m.d3, .int .i64 m.d4, .int .i64 m.d5, .int .i64 m.d6, .int .i64 m.d7, .int .i64 m.t, .int .i64 m.r, .int .i64 m.k, .int .i64 m.a0, .int .i64 m.a1, .int .i64 m.i0, .int .i64 m.i1, .int .i64 m.t0, .int .i64 m.t1, .string m.nm, .string m.nw, .int .i64 m.off, .string m.dt] 38 (0, 0))] W_) (ds := []) (K1.out.drew) (fun hHeld => ?_)
  refine pu_ 0 (some 3) ?_
  refine tk_ 1 (some 4) (.agg #[.int .i64 m.t, .int .i64 m.r, .int .i64 m.k, .int .i64 m.a0, .int .i64 m.a1, .int .i64 m.i0, .int .i64 m.i1, .int .i64 m.t0, .int .i64 m.t1, .string m.nm, .string m.nw, .int .i64 m.off, .string m.dt]) rfl (fun w' h => run_load_mid 36 _ rfl w.heap.size 9 #[.int .i64 m.t, .int .i64 m.r, .int .i64 m.k, .int .i64 m.a0, .int .i64 m.a1, .int .i64 m.i0, .int .i64 m.i1, .int .i64 m.t0, .int .i64 m.t1, .string m.nm, .string m.nw, .int .i64 m.off, .string m.dt].toList rfl _ _ _ (h.get 0 rfl) (fun j v hj => by simpa [Nat.add_comm] using hj) _ Tryz.underlying36 rfl size_opM) hHeld ?_
  refine cb_ 2 (some 5) Tryz.func47 HO (fun _ hr => hHeld.call hr) (fun wr10 hHeld => ?_)
  refine pu_ 3 (some 6) ?_
  refine pu_ 4 (some 7) ?_
  refine tk_ 5 (some 8) (.int .i64 m.q) rfl (fun w' h => by have c := cell_of_row w' _ 0 _ _ _ (h.get 0 rfl); go_simp) hHeld ?_
  refine pu_ 6 (some 9) ?_
  refine pu_ 7 (some 10) ?_
  refine pu_ 8 (some 11) ?_
  refine pu_ 9 (some 12) ?_
  refine tk_ 10 (some 13) (.int .i64 m.q) rfl (fun w' h => by have c := cell_of_row w' _ 0 _ _ _ (h.get 0 rfl); go_simp) hHeld ?_
  refine pu_ 11 (some 14) ?_
  refine pu_ 12 (some 15) ?_
  refine pu_ 13 (some 16) ?_
  refine pu_ 14 (some 17) ?_
  refine tk_ 15 (some 18) (.agg [.int .i64 m.d0, .int .i64 m.d1, .int .i64 m.d2, .int .i64 m.d3, .int .i64 m.d4, .int .i64 m.d5, .int .i64 m.d6, .int .i64 m.d7].toArray) rfl (fun w' h => run_load_mid 32 _ rfl w.heap.size 1 [.int .i64 m.d0, .int .i64 m.d1, .int .i64 m.d2, .int .i64 m.d3, .int .i64 m.d4, .int .i64 m.d5, .int .i64 m.d6, .int .i64 m.d7] rfl _ _ _ (h.get 0 rfl) (eight_at rfl rfl rfl rfl rfl rfl rfl rfl) _ Tryz.underlying32 rfl size_vecM) hHeld ?_
  refine cb_ 16 (some 19) Tryz.func7 HVM (fun _ hr => hHeld.call hr) (fun wr11 hHeld => ?_)
  refine pu_ 17 (some 20) ?_
  refine pu_ 18 (some 21) ?_
  first | (refine tk_ 19 (some 22) (.agg #[.int .i64 m.q, .int .i64 m.d0, .int .i64 m.d1, .int .i64 m.d2, .int .i64 m.d3, .int .i64 m.d4, .int .i64 m.d5, .int .i64 m.d6, .int .i64 m.d7, .int .i64 m.t, .int .i64 m.r, .int .i64 m.k, .int .i64 m.a0, .int .i64 m.a1, .int .i64 m.i0, .int .i64 m.i1, .int .i64 m.t0, .int .i64 m.t1, .string m.nm, .string m.nw, .int .i64 m.off, .string m.dt]) rfl (fun w' h => run_load_mid 38 _ rfl w.heap.size 0 #[.int .i64 m.q, .int .i64 m.d0, .int .i64 m.d1, .int .i64 m.d2, .int .i64 m.d3, .int .i64 m.d4, .int .i64 m.d5, .int .i64 m.d6, .int .i64 m.d7, .int .i64 m.t, .int .i64 m.r, .int .i64 m.k, .int .i64 m.a0, .int .i64 m.a1, .int .i64 m.i0, .int .i64 m.i1, .int .i64 m.t0, .int .i64 m.t1, .string m.nm, .string m.nw, .int .i64 m.off, .string m.dt].toList rfl _ _ _ (h.get 0 rfl) (fun j v hj => by simpa using hj) _ Tryz.underlying38 rfl size_msg) hHeld ?_) | refine po_ 19 (some 22) ?_
  first | (refine pu_ 21 (some 24) ?_) | refine po_ 21 (some 24) ?_
  first | (refine pu_ 24 (some 27) ?_) | refine po_ 24 (some 27) ?_
  first | (refine tk_ 25 (some 28) (.int .i64 m.q) rfl (fun w' h => by have c := cell_of_row w' _ 0 _ _ _ (h.get 0 rfl); go_simp) hHeld ?_) | refine po_ 25 (some 28) ?_
  first | (refine pu_ 26 (some 29) ?_) | refine po_ 26 (some 29) ?_
  refine po_ 20 (some 23) ?_
  first | (refine pu_ 22 (some 25) ?_) | refine po_ 22 (some 25) ?_
  first | (refine tk_ 23 (some 26) (.int .i64 dr) rfl (fun w' h => by have c : w'.cell? ⟨w.heap.size, 1 + rr, none⟩ = some (.int .i64 dr) := (cell_of_row w' _ _ _ _ _ (h.get 0 rfl)).trans HDR.out; go_simp) hHeld ?_) | refine po_ 23 (some 26) ?_
  first | (refine pu_ 27 (some 30) ?_) | refine po_ 27 (some 30) ?_
  refine pu_ 28 (some 31) ?_
  refine pu_ 29 (some 2) ?_
  refine done_ (by kernel_rfl) ?_
  go_wp2_with fail
  go_ret
  exact ⟨by rw [HV.out]; first | rfl | (simp [*]; done) | (simp; done), hHeld.2⟩
set_option maxHeartbeats 4000000 in
set_option maxRecDepth 100000 in
theorem cmay_all (m : MsgV) (b0 bv : Bool) (dr : Int) (rr : Nat) (w : World) (hdr : (#[.int .i64 m.q, .int .i64 m.d0, .int .i64 m.d1, .int .i64 m.d2, .int .i64 m.d3, .int .i64 m.d4, .int .i64 m.d5, .int .i64 m.d6, .int .i64 m.d7, .int .i64 m.t, .int .i64 m.r, .int .i64 m.k, .int .i64 m.a0, .int .i64 m.a1, .int .i64 m.i0, .int .i64 m.i1, .int .i64 m.t0, .int .i64 m.t1, .string m.nm, .string m.nw, .int .i64 m.off, .string m.dt] : Array Value)[1 + rr]? = some (.int .i64 dr)) (hr8 : rr < 8)
    (HO : Hd (∀ w, Calls Tryz.prog 47 #[.agg #[.int .i64 m.t, .int .i64 m.r, .int .i64 m.k, .int .i64 m.a0, .int .i64 m.a1, .int .i64 m.i0, .int .i64 m.i1, .int .i64 m.t0, .int .i64 m.t1, .string m.nm, .string m.nw, .int .i64 m.off, .string m.dt]] w fun e w' => e = .returned (.bool b0) ∧ Below w.heap.size w w'))
    (HVM : Hd (∀ w, Calls Tryz.prog 7 #[.agg [.int .i64 m.d0, .int .i64 m.d1, .int .i64 m.d2, .int .i64 m.d3, .int .i64 m.d4, .int .i64 m.d5, .int .i64 m.d6, .int .i64 m.d7].toArray] w fun e w' => e = .returned (.bool bv) ∧ Below w.heap.size w w'))
    (HR : Hd (∀ w, Calls Tryz.prog 25 #[.agg #[.int .i64 m.q, .int .i64 m.d0, .int .i64 m.d1, .int .i64 m.d2, .int .i64 m.d3, .int .i64 m.d4, .int .i64 m.d5, .int .i64 m.d6, .int .i64 m.d7, .int .i64 m.t, .int .i64 m.r, .int .i64 m.k, .int .i64 m.a0, .int .i64 m.a1, .int .i64 m.i0, .int .i64 m.i1, .int .i64 m.t0, .int .i64 m.t1, .string m.nm, .string m.nw, .int .i64 m.off, .string m.dt]] w fun e w' => e = .returned (.int .i64 (rr : Int)) ∧ Below w.heap.size w w'))
    (V : Bool) (HV : Hd (V = (dr == m.q - 1))) (h0 : b0 = true) (h1 : 1 ≤ m.q) (h2 : m.q ≤ 1073741824) (h3 : bv = true) :
    Calls Tryz.prog 20 #[.agg #[.int .i64 m.q, .int .i64 m.d0, .int .i64 m.d1, .int .i64 m.d2, .int .i64 m.d3, .int .i64 m.d4, .int .i64 m.d5, .int .i64 m.d6, .int .i64 m.d7, .int .i64 m.t, .int .i64 m.r, .int .i64 m.k, .int .i64 m.a0, .int .i64 m.a1, .int .i64 m.i0, .int .i64 m.i1, .int .i64 m.t0, .int .i64 m.t1, .string m.nm, .string m.nw, .int .i64 m.off, .string m.dt]] w fun e w' => e = .returned (.bool V) ∧ Below w.heap.size w w' := by
  have K0 := Hd.mk (Holds.start1 w (.cells #[.int .i64 m.q, .int .i64 m.d0, .int .i64 m.d1, .int .i64 m.d2, .int .i64 m.d3, .int .i64 m.d4, .int .i64 m.d5, .int .i64 m.d6, .int .i64 m.d7, .int .i64 m.t, .int .i64 m.r, .int .i64 m.k, .int .i64 m.a0, .int .i64 m.a1, .int .i64 m.i0, .int .i64 m.i1, .int .i64 m.t0, .int .i64 m.t1, .string m.nm, .string m.nw, .int .i64 m.off, .string m.dt] 38 (0, 0)))
  have HDR := Hd.mk hdr
  have g8 : (rr : Int) < 8 := by omega
  subst h0 h3
  have hq : wrap64 (m.q - 1) = m.q - 1 := by unfold wrap64; omega
  have hq2 : IntKind.i64.wrap (m.q - 1) = m.q - 1 := by rw [IntKind.wrap_i64]; omega
  have e1 : decide (1 ≤ m.q) = true := decide_eq_true h1
  have e2 : decide (m.q ≤ 1073741824) = true := decide_eq_true h2
  clear h1 h2
  clear hdr hr8
  go_enter Tryz.func20, Tryz.ntmps20
  go_upto_region 1 with (fail)
  refine world_gen _ K0.out (fun W hK => ?_)
  have K1 := Hd.mk hK
  clear hK K0
  refine st_ 30 (S := fun W_ => Holds w [(w.heap.size, .cells #[.int .i64 m.q, .int .i64 m.d0, .int .i64 m.d1, .int .i64 m.d2, .int .i64 m.d3, .int .i64 m.d4, .int .i64 m.d5, .int .i64 m.d6, .int .i64 m.d7, .int .i64 m.t, .int .i64 m.r, .int .i64 m.k, .int .i64 m.a0, .int .i64 m.a1, .int .i64 m.i0, .int .i64 m.i1, .int .i64 m.t0, .int .i64 m.t1, .string m.nm, .string m.nw, .int .i64 m.off, .string m.dt] 38 (0, 0))] W_) (ds := []) (K1.out.drew) (fun hHeld => ?_)
  refine pu_ 0 (some 3) ?_
  refine tk_ 1 (some 4) (.agg #[.int .i64 m.t, .int .i64 m.r, .int .i64 m.k, .int .i64 m.a0, .int .i64 m.a1, .int .i64 m.i0, .int .i64 m.i1, .int .i64 m.t0, .int .i64 m.t1, .string m.nm, .string m.nw, .int .i64 m.off, .string m.dt]) rfl (fun w' h => run_load_mid 36 _ rfl w.heap.size 9 #[.int .i64 m.t, .int .i64 m.r, .int .i64 m.k, .int .i64 m.a0, .int .i64 m.a1, .int .i64 m.i0, .int .i64 m.i1, .int .i64 m.t0, .int .i64 m.t1, .string m.nm, .string m.nw, .int .i64 m.off, .string m.dt].toList rfl _ _ _ (h.get 0 rfl) (fun j v hj => by simpa [Nat.add_comm] using hj) _ Tryz.underlying36 rfl size_opM) hHeld ?_
  refine cb_ 2 (some 5) Tryz.func47 HO (fun _ hr => hHeld.call hr) (fun wr13 hHeld => ?_)
  refine pu_ 3 (some 6) ?_
  refine pu_ 4 (some 7) ?_
  refine tk_ 5 (some 8) (.int .i64 m.q) rfl (fun w' h => by have c := cell_of_row w' _ 0 _ _ _ (h.get 0 rfl); go_simp) hHeld ?_
  refine pu_ 6 (some 9) ?_
  refine pu_ 7 (some 10) ?_
  refine pu_ 8 (some 11) ?_
  refine pu_ 9 (some 12) ?_
  refine tk_ 10 (some 13) (.int .i64 m.q) rfl (fun w' h => by have c := cell_of_row w' _ 0 _ _ _ (h.get 0 rfl); go_simp) hHeld ?_
  refine pu_ 11 (some 14) ?_
  refine pu_ 12 (some 15) ?_
  refine pu_ 13 (some 16) ?_
  refine pu_ 14 (some 17) ?_
  refine tk_ 15 (some 18) (.agg [.int .i64 m.d0, .int .i64 m.d1, .int .i64 m.d2, .int .i64 m.d3, .int .i64 m.d4, .int .i64 m.d5, .int .i64 m.d6, .int .i64 m.d7].toArray) rfl (fun w' h => run_load_mid 32 _ rfl w.heap.size 1 [.int .i64 m.d0, .int .i64 m.d1, .int .i64 m.d2, .int .i64 m.d3, .int .i64 m.d4, .int .i64 m.d5, .int .i64 m.d6, .int .i64 m.d7] rfl _ _ _ (h.get 0 rfl) (eight_at rfl rfl rfl rfl rfl rfl rfl rfl) _ Tryz.underlying32 rfl size_vecM) hHeld ?_
  refine cb_ 16 (some 19) Tryz.func7 HVM (fun _ hr => hHeld.call hr) (fun wr14 hHeld => ?_)
  refine pu_ 17 (some 20) ?_
  refine pu_ 18 (some 21) ?_
  refine tk_ 19 (some 22) (.agg #[.int .i64 m.q, .int .i64 m.d0, .int .i64 m.d1, .int .i64 m.d2, .int .i64 m.d3, .int .i64 m.d4, .int .i64 m.d5, .int .i64 m.d6, .int .i64 m.d7, .int .i64 m.t, .int .i64 m.r, .int .i64 m.k, .int .i64 m.a0, .int .i64 m.a1, .int .i64 m.i0, .int .i64 m.i1, .int .i64 m.t0, .int .i64 m.t1, .string m.nm, .string m.nw, .int .i64 m.off, .string m.dt]) rfl (fun w' h => run_load_mid 38 _ rfl w.heap.size 0 #[.int .i64 m.q, .int .i64 m.d0, .int .i64 m.d1, .int .i64 m.d2, .int .i64 m.d3, .int .i64 m.d4, .int .i64 m.d5, .int .i64 m.d6, .int .i64 m.d7, .int .i64 m.t, .int .i64 m.r, .int .i64 m.k, .int .i64 m.a0, .int .i64 m.a1, .int .i64 m.i0, .int .i64 m.i1, .int .i64 m.t0, .int .i64 m.t1, .string m.nm, .string m.nw, .int .i64 m.off, .string m.dt].toList rfl _ _ _ (h.get 0 rfl) (fun j v hj => by simpa using hj) _ Tryz.underlying38 rfl size_msg) hHeld ?_
  refine pu_ 21 (some 24) ?_
  refine pu_ 24 (some 27) ?_
  refine tk_ 25 (some 28) (.int .i64 m.q) rfl (fun w' h => by have c := cell_of_row w' _ 0 _ _ _ (h.get 0 rfl); go_simp) hHeld ?_
  refine pu_ 26 (some 29) ?_
  refine cb_ 20 (some 23) Tryz.func25 HR (fun _ hr => hHeld.call hr) (fun wr15 hHeld => ?_)
  refine pu_ 22 (some 25) ?_
  refine tk_ 23 (some 26) (.int .i64 dr) rfl (fun w' h => by have c : w'.cell? ⟨w.heap.size, 1 + rr, none⟩ = some (.int .i64 dr) := (cell_of_row w' _ _ _ _ _ (h.get 0 rfl)).trans HDR.out; go_simp) hHeld ?_
  refine pu_ 27 (some 30) ?_
  refine pu_ 28 (some 31) ?_
  refine pu_ 29 (some 2) ?_
  refine done_ (by kernel_rfl) ?_
  go_wp2_with fail
  go_ret
  exact ⟨by rw [HV.out]; first | rfl | (simp [*]; done) | (simp; done), hHeld.2⟩
theorem deps_at (m : MsgV) {rr : Nat} (h : rr < 8) : (#[.int .i64 m.q, .int .i64 m.d0, .int .i64 m.d1, .int .i64 m.d2, .int .i64 m.d3, .int .i64 m.d4, .int .i64 m.d5, .int .i64 m.d6, .int .i64 m.d7, .int .i64 m.t, .int .i64 m.r, .int .i64 m.k, .int .i64 m.a0, .int .i64 m.a1, .int .i64 m.i0, .int .i64 m.i1, .int .i64 m.t0, .int .i64 m.t1, .string m.nm, .string m.nw, .int .i64 m.off, .string m.dt] : Array Value)[1 + rr]? = some (.int .i64 (m.deps.getD rr 0)) := by
  match rr, h with
  | 0, _ => rfl
  | 1, _ => rfl
  | 2, _ => rfl
  | 3, _ => rfl
  | 4, _ => rfl
  | 5, _ => rfl
  | 6, _ => rfl
  | 7, _ => rfl
theorem msg_May (m : MsgV) (hd : m.dt.size ≤ 140737488355328) (w : World) : Calls Tryz.prog 20 #[.agg #[.int .i64 m.q, .int .i64 m.d0, .int .i64 m.d1, .int .i64 m.d2, .int .i64 m.d3, .int .i64 m.d4, .int .i64 m.d5, .int .i64 m.d6, .int .i64 m.d7, .int .i64 m.t, .int .i64 m.r, .int .i64 m.k, .int .i64 m.a0, .int .i64 m.a1, .int .i64 m.i0, .int .i64 m.i1, .int .i64 m.t0, .int .i64 m.t1, .string m.nm, .string m.nw, .int .i64 m.off, .string m.dt]] w fun e w' => e = .returned (.bool m.fine) ∧ Below w.heap.size w w' := by
  have HO : Hd (∀ w, Calls Tryz.prog 47 #[.agg #[.int .i64 m.t, .int .i64 m.r, .int .i64 m.k, .int .i64 m.a0, .int .i64 m.a1, .int .i64 m.i0, .int .i64 m.i1, .int .i64 m.t0, .int .i64 m.t1, .string m.nm, .string m.nw, .int .i64 m.off, .string m.dt]] w fun e w' => e = .returned (.bool m.may) ∧ Below w.heap.size w w') := ⟨op_May m.t m.r m.k m.a0 m.a1 m.i0 m.i1 m.t0 m.t1 m.nm m.nw m.off m.dt hd⟩
  have HV : Hd (∀ w, Calls Tryz.prog 7 #[.agg [.int .i64 m.d0, .int .i64 m.d1, .int .i64 m.d2, .int .i64 m.d3, .int .i64 m.d4, .int .i64 m.d5, .int .i64 m.d6, .int .i64 m.d7].toArray] w fun e w' => e = .returned (.bool (mayV m.deps)) ∧ Below w.heap.size w w') := ⟨fun w => vec_May m.deps rfl w⟩
  by_cases h0 : m.may = true
  · obtain ⟨rr, hr8, hr⟩ := may_rep h0
    have HR : Hd (∀ w, Calls Tryz.prog 25 #[.agg #[.int .i64 m.q, .int .i64 m.d0, .int .i64 m.d1, .int .i64 m.d2, .int .i64 m.d3, .int .i64 m.d4, .int .i64 m.d5, .int .i64 m.d6, .int .i64 m.d7, .int .i64 m.t, .int .i64 m.r, .int .i64 m.k, .int .i64 m.a0, .int .i64 m.a1, .int .i64 m.i0, .int .i64 m.i1, .int .i64 m.t0, .int .i64 m.t1, .string m.nm, .string m.nw, .int .i64 m.off, .string m.dt]] w fun e w' => e = .returned (.int .i64 (rr : Int)) ∧ Below w.heap.size w w') := ⟨fun w => by rw [← hr]; exact msg_rep m w⟩
    have hn : m.r.toNat = rr := by omega
    by_cases h1 : 1 ≤ m.q
    · by_cases h2 : m.q ≤ 1073741824
      · cases h3 : mayV m.deps with
        | false => exact cmay_deps m _ _ _ rr w (deps_at m hr8) hr8 HO HV HR _ ⟨by unfold MsgV.fine; rw [h0, h3]; simp⟩ h0 h1 h2 h3
        | true => exact cmay_all m _ _ _ rr w (deps_at m hr8) hr8 HO HV HR _ ⟨by unfold MsgV.fine; rw [h0, h3, hn, decide_eq_true h1, decide_eq_true h2]; simp⟩ h0 h1 h2 h3
      · exact cmay_high m _ _ _ rr w (deps_at m hr8) hr8 HO HV HR _ ⟨by unfold MsgV.fine; rw [decide_eq_false h2]; simp⟩ h0 h1 h2
    · exact cmay_low m _ _ _ rr w (deps_at m hr8) hr8 HO HV HR _ ⟨by unfold MsgV.fine; rw [decide_eq_false h1]; simp⟩ h0 h1
  · have h0 : m.may = false := by simpa using h0
    exact cmay_op m _ _ w HO HV _ ⟨by unfold MsgV.fine; rw [h0]; rfl⟩ h0
end Go.Proofs.YtcgkkjfbdappoaaGreat
