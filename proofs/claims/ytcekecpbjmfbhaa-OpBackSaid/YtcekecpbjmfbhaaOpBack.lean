/- The law OpBack: what may be is taken as it was put, whatever stands behind; what may not isn't; what is taken may be, and has the very bytes: it returns true, whatever comes in. -/
import Derived.Test.YtcekecpbjmfbhaaOpTakeP
namespace Go.Proofs.Ytcekecpbjmfbhaa.opBack
open Go.RowKit Go.Proofs.YtcekecpbjmfbhaaW.PrintWords Go.Proofs.YtcekecpbjmfbhaaW.PrintLast Go.Proofs.YtcekecpbjmfbhaaW.PrintMore Pk
set_option linter.unusedVariables false
set_option linter.unusedSimpArgs false

set_option maxRecDepth 100000 in
/-- An operation is held against itself. -/
theorem eqOp (d : Nat) (w : World) (o : OpV) : (Op.equalIn (d + 3) 50 (.agg #[.int .i64 o.t, .int .i64 o.r, .int .i64 o.k, .int .i64 o.a0, .int .i64 o.a1, .int .i64 o.i0, .int .i64 o.i1, .int .i64 o.t0, .int .i64 o.t1, .string o.nm, .string o.nw, .int .i64 o.off, .string o.dt]) (.agg #[.int .i64 o.t, .int .i64 o.r, .int .i64 o.k, .int .i64 o.a0, .int .i64 o.a1, .int .i64 o.i0, .int .i64 o.i1, .int .i64 o.t0, .int .i64 o.t1, .string o.nm, .string o.nw, .int .i64 o.off, .string o.dt])).run Try.prog w = .ok true w := by
  have h : (Op.equalIn (d + 3) 50 (.agg #[.int .i64 o.t, .int .i64 o.r, .int .i64 o.k, .int .i64 o.a0, .int .i64 o.a1, .int .i64 o.i0, .int .i64 o.i1, .int .i64 o.t0, .int .i64 o.t1, .string o.nm, .string o.nw, .int .i64 o.off, .string o.dt]) (.agg #[.int .i64 o.t, .int .i64 o.r, .int .i64 o.k, .int .i64 o.a0, .int .i64 o.a1, .int .i64 o.i0, .int .i64 o.i1, .int .i64 o.t0, .int .i64 o.t1, .string o.nm, .string o.nw, .int .i64 o.off, .string o.dt])).run Try.prog w = .ok ((o.t == o.t && (o.r == o.r)) && ((o.k == o.k) && ((o.a0 == o.a0 && (o.a1 == o.a1)) && ((o.i0 == o.i0 && (o.i1 == o.i1)) && ((o.t0 == o.t0 && (o.t1 == o.t1)) && (true && (true && ((o.off == o.off) && true)))))))) w := by
    refine eqA_of Try.underlying50 (by kernel_rfl) ?_
    refine eqf_cons (by rfl) (by go_simp) (by go_simp) (eqStamp _ w _ _ _ _) ?_
    refine eqf_cons (by rfl) (by go_simp; rfl) (by go_simp; rfl) (by go_simp) ?_
    refine eqf_cons (by rfl) (by go_simp) (by go_simp) (eqStamp _ w _ _ _ _) ?_
    refine eqf_cons (by rfl) (by go_simp) (by go_simp) (eqStamp _ w _ _ _ _) ?_
    refine eqf_cons (by rfl) (by go_simp) (by go_simp) (eqStamp _ w _ _ _ _) ?_
    refine eqf_cons (by rfl) (by go_simp; rfl) (by go_simp; rfl) (by go_simp) ?_
    refine eqf_cons (by rfl) (by go_simp; rfl) (by go_simp; rfl) (by go_simp) ?_
    refine eqf_cons (by rfl) (by go_simp; rfl) (by go_simp; rfl) (by go_simp) ?_
    exact eqf_last (by rfl) (by go_simp; rfl) (by go_simp; rfl) (by go_simp)
  rw [h]
  simp
attribute [local go_sem high] eqOp
theorem size_opB : (Try.prog.info? 50).map (·.size) = some 13 := by kernel_rfl
set_option maxHeartbeats 4000000 in
set_option maxRecDepth 100000 in
/-- What is long is let go. -/
theorem back_idle (o : OpV) (s : ByteArray) (h : 2000 < s.size ∨ 2000 < o.nm.size ∨ 2000 < o.nw.size ∨ 2000 < o.dt.size) (w : World) :
    Calls Try.prog 12 #[.agg #[.int .i64 o.t, .int .i64 o.r, .int .i64 o.k, .int .i64 o.a0, .int .i64 o.a1, .int .i64 o.i0, .int .i64 o.i1, .int .i64 o.t0, .int .i64 o.t1, .string o.nm, .string o.nw, .int .i64 o.off, .string o.dt], .string s] w fun e w' => e = .returned (.bool true) ∧ Below w.heap.size w w' := by
  have HS := Hd.mk op_shown
  have K0 := Hd.mk (Holds.start1 w (.cells #[.int .i64 o.t, .int .i64 o.r, .int .i64 o.k, .int .i64 o.a0, .int .i64 o.a1, .int .i64 o.i0, .int .i64 o.i1, .int .i64 o.t0, .int .i64 o.t1, .string o.nm, .string o.nw, .int .i64 o.off, .string o.dt] 50 (0, 0)))
  obtain ⟨ns, hns⟩ : ∃ n : Int, n = (s.size : Int) := ⟨_, rfl⟩
  by_cases h0 : 2000 < s.size
  · have d0 : (2000 : Int) < (s.size : Int) := by omega
    have e0 : decide ((2000 : Int) < (s.size : Int)) = true := decide_eq_true d0
    clear h h0 hns ns
    go_enter Try.func12, Try.ntmps12
    go_wp2_with fail
    refine world_gen_calls _ K0.out (fun W hK => ?_)
    have K0 := Hd.mk hK
    clear hK
    refine (HS.out _).mono ?_; rintro e w1 ⟨rfl, hb1⟩
    have K1 := Hd.mk (K0.out.call hb1)
    clear hb1 K0
    have g0 := cell_of_row w1 _ 0 _ _ _ (K1.out.get 0 rfl)
    have g1 := cell_of_row w1 _ 1 _ _ _ (K1.out.get 0 rfl)
    have g2 := cell_of_row w1 _ 2 _ _ _ (K1.out.get 0 rfl)
    have g3 := cell_of_row w1 _ 3 _ _ _ (K1.out.get 0 rfl)
    have g4 := cell_of_row w1 _ 4 _ _ _ (K1.out.get 0 rfl)
    have g5 := cell_of_row w1 _ 5 _ _ _ (K1.out.get 0 rfl)
    have g6 := cell_of_row w1 _ 6 _ _ _ (K1.out.get 0 rfl)
    have g7 := cell_of_row w1 _ 7 _ _ _ (K1.out.get 0 rfl)
    have g8 := cell_of_row w1 _ 8 _ _ _ (K1.out.get 0 rfl)
    have g9 := cell_of_row w1 _ 9 _ _ _ (K1.out.get 0 rfl)
    have g10 := cell_of_row w1 _ 10 _ _ _ (K1.out.get 0 rfl)
    have g11 := cell_of_row w1 _ 11 _ _ _ (K1.out.get 0 rfl)
    have g12 := cell_of_row w1 _ 12 _ _ _ (K1.out.get 0 rfl)
    go_wp2_with fail
    go_ret
    exact ⟨rfl, K1.out.2⟩
  · have d0 : ¬ (2000 : Int) < (s.size : Int) := by omega
    have e0 : decide ((2000 : Int) < (s.size : Int)) = false := decide_eq_false d0
    by_cases h1 : 2000 < o.nm.size
    · have d1 : (2000 : Int) < (o.nm.size : Int) := by omega
      have e1 : decide ((2000 : Int) < (o.nm.size : Int)) = true := decide_eq_true d1
      clear h h0 h1 hns ns
      go_enter Try.func12, Try.ntmps12
      go_wp2_with fail
      refine world_gen_calls _ K0.out (fun W hK => ?_)
      have K0 := Hd.mk hK
      clear hK
      refine (HS.out _).mono ?_; rintro e w1 ⟨rfl, hb1⟩
      have K1 := Hd.mk (K0.out.call hb1)
      clear hb1 K0
      have g0 := cell_of_row w1 _ 0 _ _ _ (K1.out.get 0 rfl)
      have g1 := cell_of_row w1 _ 1 _ _ _ (K1.out.get 0 rfl)
      have g2 := cell_of_row w1 _ 2 _ _ _ (K1.out.get 0 rfl)
      have g3 := cell_of_row w1 _ 3 _ _ _ (K1.out.get 0 rfl)
      have g4 := cell_of_row w1 _ 4 _ _ _ (K1.out.get 0 rfl)
      have g5 := cell_of_row w1 _ 5 _ _ _ (K1.out.get 0 rfl)
      have g6 := cell_of_row w1 _ 6 _ _ _ (K1.out.get 0 rfl)
      have g7 := cell_of_row w1 _ 7 _ _ _ (K1.out.get 0 rfl)
      have g8 := cell_of_row w1 _ 8 _ _ _ (K1.out.get 0 rfl)
      have g9 := cell_of_row w1 _ 9 _ _ _ (K1.out.get 0 rfl)
      have g10 := cell_of_row w1 _ 10 _ _ _ (K1.out.get 0 rfl)
      have g11 := cell_of_row w1 _ 11 _ _ _ (K1.out.get 0 rfl)
      have g12 := cell_of_row w1 _ 12 _ _ _ (K1.out.get 0 rfl)
      go_wp2_with fail
      go_ret
      exact ⟨rfl, K1.out.2⟩
    · have d1 : ¬ (2000 : Int) < (o.nm.size : Int) := by omega
      have e1 : decide ((2000 : Int) < (o.nm.size : Int)) = false := decide_eq_false d1
      by_cases h2 : 2000 < o.nw.size
      · have d2 : (2000 : Int) < (o.nw.size : Int) := by omega
        have e2 : decide ((2000 : Int) < (o.nw.size : Int)) = true := decide_eq_true d2
        clear h h0 h1 h2 hns ns
        go_enter Try.func12, Try.ntmps12
        go_wp2_with fail
        refine world_gen_calls _ K0.out (fun W hK => ?_)
        have K0 := Hd.mk hK
        clear hK
        refine (HS.out _).mono ?_; rintro e w1 ⟨rfl, hb1⟩
        have K1 := Hd.mk (K0.out.call hb1)
        clear hb1 K0
        have g0 := cell_of_row w1 _ 0 _ _ _ (K1.out.get 0 rfl)
        have g1 := cell_of_row w1 _ 1 _ _ _ (K1.out.get 0 rfl)
        have g2 := cell_of_row w1 _ 2 _ _ _ (K1.out.get 0 rfl)
        have g3 := cell_of_row w1 _ 3 _ _ _ (K1.out.get 0 rfl)
        have g4 := cell_of_row w1 _ 4 _ _ _ (K1.out.get 0 rfl)
        have g5 := cell_of_row w1 _ 5 _ _ _ (K1.out.get 0 rfl)
        have g6 := cell_of_row w1 _ 6 _ _ _ (K1.out.get 0 rfl)
        have g7 := cell_of_row w1 _ 7 _ _ _ (K1.out.get 0 rfl)
        have g8 := cell_of_row w1 _ 8 _ _ _ (K1.out.get 0 rfl)
        have g9 := cell_of_row w1 _ 9 _ _ _ (K1.out.get 0 rfl)
        have g10 := cell_of_row w1 _ 10 _ _ _ (K1.out.get 0 rfl)
        have g11 := cell_of_row w1 _ 11 _ _ _ (K1.out.get 0 rfl)
        have g12 := cell_of_row w1 _ 12 _ _ _ (K1.out.get 0 rfl)
        go_wp2_with fail
        go_ret
        exact ⟨rfl, K1.out.2⟩
      · have d2 : ¬ (2000 : Int) < (o.nw.size : Int) := by omega
        have e2 : decide ((2000 : Int) < (o.nw.size : Int)) = false := decide_eq_false d2
        have d3 : (2000 : Int) < (o.dt.size : Int) := by omega
        have e3 : decide ((2000 : Int) < (o.dt.size : Int)) = true := decide_eq_true d3
        clear h h0 h1 h2 hns ns
        go_enter Try.func12, Try.ntmps12
        go_wp2_with fail
        refine world_gen_calls _ K0.out (fun W hK => ?_)
        have K0 := Hd.mk hK
        clear hK
        refine (HS.out _).mono ?_; rintro e w1 ⟨rfl, hb1⟩
        have K1 := Hd.mk (K0.out.call hb1)
        clear hb1 K0
        have g0 := cell_of_row w1 _ 0 _ _ _ (K1.out.get 0 rfl)
        have g1 := cell_of_row w1 _ 1 _ _ _ (K1.out.get 0 rfl)
        have g2 := cell_of_row w1 _ 2 _ _ _ (K1.out.get 0 rfl)
        have g3 := cell_of_row w1 _ 3 _ _ _ (K1.out.get 0 rfl)
        have g4 := cell_of_row w1 _ 4 _ _ _ (K1.out.get 0 rfl)
        have g5 := cell_of_row w1 _ 5 _ _ _ (K1.out.get 0 rfl)
        have g6 := cell_of_row w1 _ 6 _ _ _ (K1.out.get 0 rfl)
        have g7 := cell_of_row w1 _ 7 _ _ _ (K1.out.get 0 rfl)
        have g8 := cell_of_row w1 _ 8 _ _ _ (K1.out.get 0 rfl)
        have g9 := cell_of_row w1 _ 9 _ _ _ (K1.out.get 0 rfl)
        have g10 := cell_of_row w1 _ 10 _ _ _ (K1.out.get 0 rfl)
        have g11 := cell_of_row w1 _ 11 _ _ _ (K1.out.get 0 rfl)
        have g12 := cell_of_row w1 _ 12 _ _ _ (K1.out.get 0 rfl)
        go_wp2_with fail
        go_ret
        exact ⟨rfl, K1.out.2⟩
set_option maxHeartbeats 8000000 in
set_option maxRecDepth 100000 in
theorem back_walk (o x y : OpV) (s p q1 q2 p2 : ByteArray) (c1 c2 : Int) (b : Bool) (hs : s.size ≤ 2000) (h1 : o.nm.size ≤ 2000) (h2 : o.nw.size ≤ 2000) (h3 : o.dt.size ≤ 2000) (hps : p.size ≤ 140737488355000) (w : World)
    (HP : Hd (∀ w, Calls Try.prog 29 #[.agg #[.int .i64 o.t, .int .i64 o.r, .int .i64 o.k, .int .i64 o.a0, .int .i64 o.a1, .int .i64 o.i0, .int .i64 o.i1, .int .i64 o.t0, .int .i64 o.t1, .string o.nm, .string o.nw, .int .i64 o.off, .string o.dt]] w fun e w' => e = .returned (.string p) ∧ Below w.heap.size w w'))
    (HT1 : Hd (∀ w, Calls Try.prog 31 #[.string (p ++ s)] w fun e w' => e = .returned (.tuple #[.agg #[.int .i64 x.t, .int .i64 x.r, .int .i64 x.k, .int .i64 x.a0, .int .i64 x.a1, .int .i64 x.i0, .int .i64 x.i1, .int .i64 x.t0, .int .i64 x.t1, .string x.nm, .string x.nw, .int .i64 x.off, .string x.dt], .string q1, .int .i64 c1]) ∧ Below w.heap.size w w'))
    (HT2 : Hd (∀ w, Calls Try.prog 31 #[.string s] w fun e w' => e = .returned (.tuple #[.agg #[.int .i64 y.t, .int .i64 y.r, .int .i64 y.k, .int .i64 y.a0, .int .i64 y.a1, .int .i64 y.i0, .int .i64 y.i1, .int .i64 y.t0, .int .i64 y.t1, .string y.nm, .string y.nw, .int .i64 y.off, .string y.dt], .string q2, .int .i64 c2]) ∧ Below w.heap.size w w'))
    (HM : Hd (∀ w, Calls Try.prog 25 #[.agg #[.int .i64 o.t, .int .i64 o.r, .int .i64 o.k, .int .i64 o.a0, .int .i64 o.a1, .int .i64 o.i0, .int .i64 o.i1, .int .i64 o.t0, .int .i64 o.t1, .string o.nm, .string o.nw, .int .i64 o.off, .string o.dt]] w fun e w' => e = .returned (.bool b) ∧ Below w.heap.size w w'))
    (HMY : Hd (c2 = 0 → ∀ w, Calls Try.prog 25 #[.agg #[.int .i64 y.t, .int .i64 y.r, .int .i64 y.k, .int .i64 y.a0, .int .i64 y.a1, .int .i64 y.i0, .int .i64 y.i1, .int .i64 y.t0, .int .i64 y.t1, .string y.nm, .string y.nw, .int .i64 y.off, .string y.dt]] w fun e w' => e = .returned (.bool true) ∧ Below w.heap.size w w'))
    (HPY : Hd (c2 = 0 → ∀ w, Calls Try.prog 29 #[.agg #[.int .i64 y.t, .int .i64 y.r, .int .i64 y.k, .int .i64 y.a0, .int .i64 y.a1, .int .i64 y.i0, .int .i64 y.i1, .int .i64 y.t0, .int .i64 y.t1, .string y.nm, .string y.nw, .int .i64 y.off, .string y.dt]] w fun e w' => e = .returned (.string p2) ∧ Below w.heap.size w w'))
    (hA : Hd ((b = true ∧ x = o ∧ q1 = s ∧ c1 = 0) ∨ (b = false ∧ q1 = ⟨#[]⟩ ∧ c1 = 2))) (hC : Hd ((c2 = 0 ∧ p2 ++ q2 = s ∧ p2.size + q2.size ≤ 2000) ∨ c2 = 2)) :
    Calls Try.prog 12 #[.agg #[.int .i64 o.t, .int .i64 o.r, .int .i64 o.k, .int .i64 o.a0, .int .i64 o.a1, .int .i64 o.i0, .int .i64 o.i1, .int .i64 o.t0, .int .i64 o.t1, .string o.nm, .string o.nw, .int .i64 o.off, .string o.dt], .string s] w fun e w' => e = .returned (.bool true) ∧ Below w.heap.size w w' := by
  have HS := Hd.mk op_shown
  have K0 := Hd.mk (Holds.start1 w (.cells #[.int .i64 o.t, .int .i64 o.r, .int .i64 o.k, .int .i64 o.a0, .int .i64 o.a1, .int .i64 o.i0, .int .i64 o.i1, .int .i64 o.t0, .int .i64 o.t1, .string o.nm, .string o.nw, .int .i64 o.off, .string o.dt] 50 (0, 0)))
  have d0 : ¬ (2000 : Int) < (s.size : Int) := by omega
  have e0 : decide ((2000 : Int) < (s.size : Int)) = false := decide_eq_false d0
  have d1 : ¬ (2000 : Int) < (o.nm.size : Int) := by omega
  have e1 : decide ((2000 : Int) < (o.nm.size : Int)) = false := decide_eq_false d1
  have d2 : ¬ (2000 : Int) < (o.nw.size : Int) := by omega
  have e2 : decide ((2000 : Int) < (o.nw.size : Int)) = false := decide_eq_false d2
  have d3 : ¬ (2000 : Int) < (o.dt.size : Int) := by omega
  have e3 : decide ((2000 : Int) < (o.dt.size : Int)) = false := decide_eq_false d3
  have hcat : (9223372036854775807 < p.size + s.size) = False := by simp; omega
  clear h1 h2 h3 hps hs
  go_enter Try.func12, Try.ntmps12
  go_wp2_with fail
  refine world_gen_calls _ K0.out (fun W hK => ?_)
  have K0 := Hd.mk hK
  clear hK
  refine (HS.out _).mono ?_; rintro e w1 ⟨rfl, hb1⟩
  have K1 := Hd.mk (K0.out.call hb1)
  clear hb1 K0
  have g0 := cell_of_row w1 _ 0 _ _ _ (K1.out.get 0 rfl)
  have g1 := cell_of_row w1 _ 1 _ _ _ (K1.out.get 0 rfl)
  have g2 := cell_of_row w1 _ 2 _ _ _ (K1.out.get 0 rfl)
  have g3 := cell_of_row w1 _ 3 _ _ _ (K1.out.get 0 rfl)
  have g4 := cell_of_row w1 _ 4 _ _ _ (K1.out.get 0 rfl)
  have g5 := cell_of_row w1 _ 5 _ _ _ (K1.out.get 0 rfl)
  have g6 := cell_of_row w1 _ 6 _ _ _ (K1.out.get 0 rfl)
  have g7 := cell_of_row w1 _ 7 _ _ _ (K1.out.get 0 rfl)
  have g8 := cell_of_row w1 _ 8 _ _ _ (K1.out.get 0 rfl)
  have g9 := cell_of_row w1 _ 9 _ _ _ (K1.out.get 0 rfl)
  have g10 := cell_of_row w1 _ 10 _ _ _ (K1.out.get 0 rfl)
  have g11 := cell_of_row w1 _ 11 _ _ _ (K1.out.get 0 rfl)
  have g12 := cell_of_row w1 _ 12 _ _ _ (K1.out.get 0 rfl)
  go_wp2_with fail
  clear d0 d1 d2 d3 e0 e1 e2 e3
  refine (HP.out _).mono ?_; rintro e w2 ⟨rfl, hb2⟩
  have K2 := Hd.mk (K1.out.call hb2)
  clear hb2 K1
  clear g0 g1 g2 g3 g4 g5 g6 g7 g8 g9 g10 g11 g12
  go_wp2_with fail
  refine (HT1.out _).mono ?_; rintro e w3 ⟨rfl, hb3⟩
  have K3 := Hd.mk (K2.out.call hb3)
  clear hb3 K2
  go_upto_region 5 with (fail)
  refine world_gen (fun W_ => Holds w [(w3.heap.size, .cells #[.int .i64 x.t, .int .i64 x.r, .int .i64 x.k, .int .i64 x.a0, .int .i64 x.a1, .int .i64 x.i0, .int .i64 x.i1, .int .i64 x.t0, .int .i64 x.t1, .string x.nm, .string x.nw, .int .i64 x.off, .string x.dt] 50 (0, 0)), (w.heap.size, .cells #[.int .i64 o.t, .int .i64 o.r, .int .i64 o.k, .int .i64 o.a0, .int .i64 o.a1, .int .i64 o.i0, .int .i64 o.i1, .int .i64 o.t0, .int .i64 o.t1, .string o.nm, .string o.nw, .int .i64 o.off, .string o.dt] 50 (0, 0))] W_) (K3.out.alloc _) (fun W3 hK => ?_)
  have K4 := Hd.mk hK
  clear hK K3
  generalize w3.heap.size = bx at *
  go_wp2_with fail
  refine (HT2.out _).mono ?_; rintro e w4 ⟨rfl, hb4⟩
  have K5 := Hd.mk (K4.out.call hb4)
  clear hb4 K4
  go_upto_region 6 with (fail)
  refine world_gen (fun W_ => Holds w [(w4.heap.size, .cells #[.int .i64 y.t, .int .i64 y.r, .int .i64 y.k, .int .i64 y.a0, .int .i64 y.a1, .int .i64 y.i0, .int .i64 y.i1, .int .i64 y.t0, .int .i64 y.t1, .string y.nm, .string y.nw, .int .i64 y.off, .string y.dt] 50 (0, 0)), (bx, .cells #[.int .i64 x.t, .int .i64 x.r, .int .i64 x.k, .int .i64 x.a0, .int .i64 x.a1, .int .i64 x.i0, .int .i64 x.i1, .int .i64 x.t0, .int .i64 x.t1, .string x.nm, .string x.nw, .int .i64 x.off, .string x.dt] 50 (0, 0)), (w.heap.size, .cells #[.int .i64 o.t, .int .i64 o.r, .int .i64 o.k, .int .i64 o.a0, .int .i64 o.a1, .int .i64 o.i0, .int .i64 o.i1, .int .i64 o.t0, .int .i64 o.t1, .string o.nm, .string o.nw, .int .i64 o.off, .string o.dt] 50 (0, 0))] W_) (K5.out.alloc _) (fun W5 hK => ?_)
  have K6 := Hd.mk hK
  clear hK K5
  generalize w4.heap.size = bY at *
  have g0 := cell_of_row W5 _ 0 _ _ _ (K6.out.get 2 rfl)
  have g1 := cell_of_row W5 _ 1 _ _ _ (K6.out.get 2 rfl)
  have g2 := cell_of_row W5 _ 2 _ _ _ (K6.out.get 2 rfl)
  have g3 := cell_of_row W5 _ 3 _ _ _ (K6.out.get 2 rfl)
  have g4 := cell_of_row W5 _ 4 _ _ _ (K6.out.get 2 rfl)
  have g5 := cell_of_row W5 _ 5 _ _ _ (K6.out.get 2 rfl)
  have g6 := cell_of_row W5 _ 6 _ _ _ (K6.out.get 2 rfl)
  have g7 := cell_of_row W5 _ 7 _ _ _ (K6.out.get 2 rfl)
  have g8 := cell_of_row W5 _ 8 _ _ _ (K6.out.get 2 rfl)
  have g9 := cell_of_row W5 _ 9 _ _ _ (K6.out.get 2 rfl)
  have g10 := cell_of_row W5 _ 10 _ _ _ (K6.out.get 2 rfl)
  have g11 := cell_of_row W5 _ 11 _ _ _ (K6.out.get 2 rfl)
  have g12 := cell_of_row W5 _ 12 _ _ _ (K6.out.get 2 rfl)
  go_wp2_with fail
  refine (HM.out _).mono ?_; rintro e w6 ⟨rfl, hb6⟩
  have K7 := Hd.mk (K6.out.call hb6)
  clear hb6 K6
  clear g0 g1 g2 g3 g4 g5 g6 g7 g8 g9 g10 g11 g12
  go_upto_region 7 with (fail)
  clear HP HT1 HT2 HM HS
  rcases hA.out with ⟨rfl, rfl, rfl, rfl⟩ | ⟨rfl, rfl, rfl⟩
  · rcases hC.out with ⟨rfl, hcc, hsz⟩ | rfl
    · skip
      have HM2 := Hd.mk (HMY.out rfl)
      have HP2 := Hd.mk (HPY.out rfl)
      have hcat2 : (9223372036854775807 < p2.size + q2.size) = False := by simp; omega
      have HCC := Hd.mk hcc
      clear hA hC HMY HPY hcc hsz
      have g0 := cell_of_row w6 _ 0 _ _ _ (K7.out.get 2 rfl)
      have g1 := cell_of_row w6 _ 1 _ _ _ (K7.out.get 2 rfl)
      have g2 := cell_of_row w6 _ 2 _ _ _ (K7.out.get 2 rfl)
      have g3 := cell_of_row w6 _ 3 _ _ _ (K7.out.get 2 rfl)
      have g4 := cell_of_row w6 _ 4 _ _ _ (K7.out.get 2 rfl)
      have g5 := cell_of_row w6 _ 5 _ _ _ (K7.out.get 2 rfl)
      have g6 := cell_of_row w6 _ 6 _ _ _ (K7.out.get 2 rfl)
      have g7 := cell_of_row w6 _ 7 _ _ _ (K7.out.get 2 rfl)
      have g8 := cell_of_row w6 _ 8 _ _ _ (K7.out.get 2 rfl)
      have g9 := cell_of_row w6 _ 9 _ _ _ (K7.out.get 2 rfl)
      have g10 := cell_of_row w6 _ 10 _ _ _ (K7.out.get 2 rfl)
      have g11 := cell_of_row w6 _ 11 _ _ _ (K7.out.get 2 rfl)
      have g12 := cell_of_row w6 _ 12 _ _ _ (K7.out.get 2 rfl)
      have f0 := cell_of_row w6 _ 0 _ _ _ (K7.out.get 1 rfl)
      have f1 := cell_of_row w6 _ 1 _ _ _ (K7.out.get 1 rfl)
      have f2 := cell_of_row w6 _ 2 _ _ _ (K7.out.get 1 rfl)
      have f3 := cell_of_row w6 _ 3 _ _ _ (K7.out.get 1 rfl)
      have f4 := cell_of_row w6 _ 4 _ _ _ (K7.out.get 1 rfl)
      have f5 := cell_of_row w6 _ 5 _ _ _ (K7.out.get 1 rfl)
      have f6 := cell_of_row w6 _ 6 _ _ _ (K7.out.get 1 rfl)
      have f7 := cell_of_row w6 _ 7 _ _ _ (K7.out.get 1 rfl)
      have f8 := cell_of_row w6 _ 8 _ _ _ (K7.out.get 1 rfl)
      have f9 := cell_of_row w6 _ 9 _ _ _ (K7.out.get 1 rfl)
      have f10 := cell_of_row w6 _ 10 _ _ _ (K7.out.get 1 rfl)
      have f11 := cell_of_row w6 _ 11 _ _ _ (K7.out.get 1 rfl)
      have f12 := cell_of_row w6 _ 12 _ _ _ (K7.out.get 1 rfl)
      have m0 := cell_of_row w6 _ 0 _ _ _ (K7.out.get 0 rfl)
      have m1 := cell_of_row w6 _ 1 _ _ _ (K7.out.get 0 rfl)
      have m2 := cell_of_row w6 _ 2 _ _ _ (K7.out.get 0 rfl)
      have m3 := cell_of_row w6 _ 3 _ _ _ (K7.out.get 0 rfl)
      have m4 := cell_of_row w6 _ 4 _ _ _ (K7.out.get 0 rfl)
      have m5 := cell_of_row w6 _ 5 _ _ _ (K7.out.get 0 rfl)
      have m6 := cell_of_row w6 _ 6 _ _ _ (K7.out.get 0 rfl)
      have m7 := cell_of_row w6 _ 7 _ _ _ (K7.out.get 0 rfl)
      have m8 := cell_of_row w6 _ 8 _ _ _ (K7.out.get 0 rfl)
      have m9 := cell_of_row w6 _ 9 _ _ _ (K7.out.get 0 rfl)
      have m10 := cell_of_row w6 _ 10 _ _ _ (K7.out.get 0 rfl)
      have m11 := cell_of_row w6 _ 11 _ _ _ (K7.out.get 0 rfl)
      have m12 := cell_of_row w6 _ 12 _ _ _ (K7.out.get 0 rfl)
      go_wp2_with fail
      refine (HM2.out _).mono ?_; rintro e w7 ⟨rfl, hb7⟩
      have K8 := Hd.mk (K7.out.call hb7)
      clear hb7 K7
      clear g0 g1 g2 g3 g4 g5 g6 g7 g8 g9 g10 g11 g12
      clear f0 f1 f2 f3 f4 f5 f6 f7 f8 f9 f10 f11 f12
      clear m0 m1 m2 m3 m4 m5 m6 m7 m8 m9 m10 m11 m12
      have m0 := cell_of_row w7 _ 0 _ _ _ (K8.out.get 0 rfl)
      have m1 := cell_of_row w7 _ 1 _ _ _ (K8.out.get 0 rfl)
      have m2 := cell_of_row w7 _ 2 _ _ _ (K8.out.get 0 rfl)
      have m3 := cell_of_row w7 _ 3 _ _ _ (K8.out.get 0 rfl)
      have m4 := cell_of_row w7 _ 4 _ _ _ (K8.out.get 0 rfl)
      have m5 := cell_of_row w7 _ 5 _ _ _ (K8.out.get 0 rfl)
      have m6 := cell_of_row w7 _ 6 _ _ _ (K8.out.get 0 rfl)
      have m7 := cell_of_row w7 _ 7 _ _ _ (K8.out.get 0 rfl)
      have m8 := cell_of_row w7 _ 8 _ _ _ (K8.out.get 0 rfl)
      have m9 := cell_of_row w7 _ 9 _ _ _ (K8.out.get 0 rfl)
      have m10 := cell_of_row w7 _ 10 _ _ _ (K8.out.get 0 rfl)
      have m11 := cell_of_row w7 _ 11 _ _ _ (K8.out.get 0 rfl)
      have m12 := cell_of_row w7 _ 12 _ _ _ (K8.out.get 0 rfl)
      go_wp2_with fail
      refine (HP2.out _).mono ?_; rintro e w8 ⟨rfl, hb8⟩
      have K9 := Hd.mk (K8.out.call hb8)
      clear hb8 K8
      clear m0 m1 m2 m3 m4 m5 m6 m7 m8 m9 m10 m11 m12
      have hcc := HCC.out
      go_wp2_with fail
      go_ret
      exact ⟨rfl, K9.out.2⟩
    · skip
      clear hA hC HMY HPY
      have g0 := cell_of_row w6 _ 0 _ _ _ (K7.out.get 2 rfl)
      have g1 := cell_of_row w6 _ 1 _ _ _ (K7.out.get 2 rfl)
      have g2 := cell_of_row w6 _ 2 _ _ _ (K7.out.get 2 rfl)
      have g3 := cell_of_row w6 _ 3 _ _ _ (K7.out.get 2 rfl)
      have g4 := cell_of_row w6 _ 4 _ _ _ (K7.out.get 2 rfl)
      have g5 := cell_of_row w6 _ 5 _ _ _ (K7.out.get 2 rfl)
      have g6 := cell_of_row w6 _ 6 _ _ _ (K7.out.get 2 rfl)
      have g7 := cell_of_row w6 _ 7 _ _ _ (K7.out.get 2 rfl)
      have g8 := cell_of_row w6 _ 8 _ _ _ (K7.out.get 2 rfl)
      have g9 := cell_of_row w6 _ 9 _ _ _ (K7.out.get 2 rfl)
      have g10 := cell_of_row w6 _ 10 _ _ _ (K7.out.get 2 rfl)
      have g11 := cell_of_row w6 _ 11 _ _ _ (K7.out.get 2 rfl)
      have g12 := cell_of_row w6 _ 12 _ _ _ (K7.out.get 2 rfl)
      have f0 := cell_of_row w6 _ 0 _ _ _ (K7.out.get 1 rfl)
      have f1 := cell_of_row w6 _ 1 _ _ _ (K7.out.get 1 rfl)
      have f2 := cell_of_row w6 _ 2 _ _ _ (K7.out.get 1 rfl)
      have f3 := cell_of_row w6 _ 3 _ _ _ (K7.out.get 1 rfl)
      have f4 := cell_of_row w6 _ 4 _ _ _ (K7.out.get 1 rfl)
      have f5 := cell_of_row w6 _ 5 _ _ _ (K7.out.get 1 rfl)
      have f6 := cell_of_row w6 _ 6 _ _ _ (K7.out.get 1 rfl)
      have f7 := cell_of_row w6 _ 7 _ _ _ (K7.out.get 1 rfl)
      have f8 := cell_of_row w6 _ 8 _ _ _ (K7.out.get 1 rfl)
      have f9 := cell_of_row w6 _ 9 _ _ _ (K7.out.get 1 rfl)
      have f10 := cell_of_row w6 _ 10 _ _ _ (K7.out.get 1 rfl)
      have f11 := cell_of_row w6 _ 11 _ _ _ (K7.out.get 1 rfl)
      have f12 := cell_of_row w6 _ 12 _ _ _ (K7.out.get 1 rfl)
      go_wp2_with fail
      go_ret
      exact ⟨rfl, K7.out.2⟩
  · rcases hC.out with ⟨rfl, hcc, hsz⟩ | rfl
    · skip
      have HM2 := Hd.mk (HMY.out rfl)
      have HP2 := Hd.mk (HPY.out rfl)
      have hcat2 : (9223372036854775807 < p2.size + q2.size) = False := by simp; omega
      have HCC := Hd.mk hcc
      clear hA hC HMY HPY hcc hsz
      have m0 := cell_of_row w6 _ 0 _ _ _ (K7.out.get 0 rfl)
      have m1 := cell_of_row w6 _ 1 _ _ _ (K7.out.get 0 rfl)
      have m2 := cell_of_row w6 _ 2 _ _ _ (K7.out.get 0 rfl)
      have m3 := cell_of_row w6 _ 3 _ _ _ (K7.out.get 0 rfl)
      have m4 := cell_of_row w6 _ 4 _ _ _ (K7.out.get 0 rfl)
      have m5 := cell_of_row w6 _ 5 _ _ _ (K7.out.get 0 rfl)
      have m6 := cell_of_row w6 _ 6 _ _ _ (K7.out.get 0 rfl)
      have m7 := cell_of_row w6 _ 7 _ _ _ (K7.out.get 0 rfl)
      have m8 := cell_of_row w6 _ 8 _ _ _ (K7.out.get 0 rfl)
      have m9 := cell_of_row w6 _ 9 _ _ _ (K7.out.get 0 rfl)
      have m10 := cell_of_row w6 _ 10 _ _ _ (K7.out.get 0 rfl)
      have m11 := cell_of_row w6 _ 11 _ _ _ (K7.out.get 0 rfl)
      have m12 := cell_of_row w6 _ 12 _ _ _ (K7.out.get 0 rfl)
      go_wp2_with fail
      refine (HM2.out _).mono ?_; rintro e w7 ⟨rfl, hb7⟩
      have K8 := Hd.mk (K7.out.call hb7)
      clear hb7 K7
      clear m0 m1 m2 m3 m4 m5 m6 m7 m8 m9 m10 m11 m12
      have m0 := cell_of_row w7 _ 0 _ _ _ (K8.out.get 0 rfl)
      have m1 := cell_of_row w7 _ 1 _ _ _ (K8.out.get 0 rfl)
      have m2 := cell_of_row w7 _ 2 _ _ _ (K8.out.get 0 rfl)
      have m3 := cell_of_row w7 _ 3 _ _ _ (K8.out.get 0 rfl)
      have m4 := cell_of_row w7 _ 4 _ _ _ (K8.out.get 0 rfl)
      have m5 := cell_of_row w7 _ 5 _ _ _ (K8.out.get 0 rfl)
      have m6 := cell_of_row w7 _ 6 _ _ _ (K8.out.get 0 rfl)
      have m7 := cell_of_row w7 _ 7 _ _ _ (K8.out.get 0 rfl)
      have m8 := cell_of_row w7 _ 8 _ _ _ (K8.out.get 0 rfl)
      have m9 := cell_of_row w7 _ 9 _ _ _ (K8.out.get 0 rfl)
      have m10 := cell_of_row w7 _ 10 _ _ _ (K8.out.get 0 rfl)
      have m11 := cell_of_row w7 _ 11 _ _ _ (K8.out.get 0 rfl)
      have m12 := cell_of_row w7 _ 12 _ _ _ (K8.out.get 0 rfl)
      go_wp2_with fail
      refine (HP2.out _).mono ?_; rintro e w8 ⟨rfl, hb8⟩
      have K9 := Hd.mk (K8.out.call hb8)
      clear hb8 K8
      clear m0 m1 m2 m3 m4 m5 m6 m7 m8 m9 m10 m11 m12
      have hcc := HCC.out
      go_wp2_with fail
      go_ret
      exact ⟨rfl, K9.out.2⟩
    · skip
      clear hA hC HMY HPY
      go_wp2_with fail
      go_ret
      exact ⟨rfl, K7.out.2⟩
theorem law_OpBack {v : Value} {t r k a0 a1 i0 i1 t0 t1 : Int} {nm nw : ByteArray} {off : Int} {dt : ByteArray} (hv : IsOp v t r k a0 a1 i0 i1 t0 t1 nm nw off dt) (s : ByteArray) (hs : s.size ≤ 140737488351232) (w : World) :
    Calls Try.prog 12 #[v, .string s] w fun e w' => e = .returned (.bool true) ∧ Below w.heap.size w w' := by
  obtain ⟨rfl, ⟨hr, hn1, hn2⟩, -, hn3⟩ := hv
  let o : OpV := ⟨t, r, k, a0, a1, i0, i1, t0, t1, nm, nw, off, dt⟩
  have ho : o.Fine := ⟨hr, hn1, hn2, hn3⟩
  by_cases h : 2000 < s.size ∨ 2000 < nm.size ∨ 2000 < nw.size ∨ 2000 < dt.size
  · exact back_idle o s h w
  · have z0 : s.size ≤ 2000 := by omega
    have z1 : nm.size ≤ 2000 := by omega
    have z2 : nw.size ≤ 2000 := by omega
    have z3 : dt.size ≤ 2000 := by omega
    have hp : o.put.size ≤ 7000 := by
      have q1 := putS_size hr.1 hr.2.1
      have q2 := putS_size hr.2.2.2.1 hr.2.2.2.2.1
      have q3 := putS_size hr.2.2.2.2.2.1 hr.2.2.2.2.2.2.1
      have q4 := putS_size hr.2.2.2.2.2.2.2.1 hr.2.2.2.2.2.2.2.2.1
      have q5 := num_size (zig_lt hr.2.2.1.1 hr.2.2.1.2)
      have q6 := num_size (zig_lt hr.2.2.2.2.2.2.2.2.2.1 hr.2.2.2.2.2.2.2.2.2.2)
      have q7 := num_size (n := nm.size) (by omega)
      have q8 := num_size (n := nw.size) (by omega)
      have q9 := num_size (n := dt.size) (by omega)
      show (putO t r k a0 a1 i0 i1 t0 t1 nm nw off dt).size ≤ 7000
      unfold putO
      simp only [size_app]
      omega
    have E1 := op_Take (o.put ++ s) (by rw [size_app]; omega)
    rw [takeO_put ho] at E1
    have E2 := op_Take s (by omega)
    have HP : ∀ w, Calls Try.prog 29 #[.agg #[.int .i64 o.t, .int .i64 o.r, .int .i64 o.k, .int .i64 o.a0, .int .i64 o.a1, .int .i64 o.i0, .int .i64 o.i1, .int .i64 o.t0, .int .i64 o.t1, .string o.nm, .string o.nw, .int .i64 o.off, .string o.dt]] w fun e w' => e = .returned (.string o.put) ∧ Below w.heap.size w w' := op_Put hr hn1 hn2 hn3
    have HM : ∀ w, Calls Try.prog 25 #[.agg #[.int .i64 o.t, .int .i64 o.r, .int .i64 o.k, .int .i64 o.a0, .int .i64 o.a1, .int .i64 o.i0, .int .i64 o.i1, .int .i64 o.t0, .int .i64 o.t1, .string o.nm, .string o.nw, .int .i64 o.off, .string o.dt]] w fun e w' => e = .returned (.bool o.may) ∧ Below w.heap.size w w' := op_May _ _ _ _ _ _ _ _ _ _ _ _ _ hn3
    have first : ∃ (x : OpV) (c1 : Int) (q1 : ByteArray), (∀ w, Calls Try.prog 31 #[.string (o.put ++ s)] w fun e w' => e = .returned (.tuple #[.agg #[.int .i64 x.t, .int .i64 x.r, .int .i64 x.k, .int .i64 x.a0, .int .i64 x.a1, .int .i64 x.i0, .int .i64 x.i1, .int .i64 x.t0, .int .i64 x.t1, .string x.nm, .string x.nw, .int .i64 x.off, .string x.dt], .string q1, .int .i64 c1]) ∧ Below w.heap.size w w') ∧
        ((o.may = true ∧ x = o ∧ q1 = s ∧ c1 = 0) ∨ (o.may = false ∧ q1 = ⟨#[]⟩ ∧ c1 = 2)) := by
      cases hm : o.may with
      | true => rw [hm] at E1; exact ⟨o, 0, s, E1, .inl ⟨rfl, rfl, rfl, rfl⟩⟩
      | false => rw [hm] at E1; exact ⟨OpV.zero, 2, ⟨#[]⟩, E1, .inr ⟨rfl, rfl, rfl⟩⟩
    obtain ⟨x, c1, q1, H1, hA⟩ := first
    cases hT : takeO s with
    | none =>
      rw [hT] at E2
      exact back_walk o x OpV.zero s o.put q1 ⟨#[]⟩ ⟨#[]⟩ c1 2 o.may z0 z1 z2 z3 (by omega) w ⟨HP⟩ ⟨H1⟩ ⟨E2⟩ ⟨HM⟩ ⟨fun h => absurd h (by decide)⟩ ⟨fun h => absurd h (by decide)⟩ ⟨hA⟩ ⟨.inr rfl⟩
    | some u =>
      obtain ⟨y, q2⟩ := u
      rw [hT] at E2
      obtain ⟨g1, g2, g3, g4⟩ := takeO_very hT
      have hsz : y.put.size + q2.size = s.size := by rw [← size_app, g1]
      have MY : ∀ w, Calls Try.prog 25 #[.agg #[.int .i64 y.t, .int .i64 y.r, .int .i64 y.k, .int .i64 y.a0, .int .i64 y.a1, .int .i64 y.i0, .int .i64 y.i1, .int .i64 y.t0, .int .i64 y.t1, .string y.nm, .string y.nw, .int .i64 y.off, .string y.dt]] w fun e w' => e = .returned (.bool true) ∧ Below w.heap.size w w' := by
        rw [← g2]; exact op_May _ _ _ _ _ _ _ _ _ _ _ _ _ g3.dt
      have PY : ∀ w, Calls Try.prog 29 #[.agg #[.int .i64 y.t, .int .i64 y.r, .int .i64 y.k, .int .i64 y.a0, .int .i64 y.a1, .int .i64 y.i0, .int .i64 y.i1, .int .i64 y.t0, .int .i64 y.t1, .string y.nm, .string y.nw, .int .i64 y.off, .string y.dt]] w fun e w' => e = .returned (.string y.put) ∧ Below w.heap.size w w' := op_Put g3.rng g3.nm g3.nw g3.dt
      exact back_walk o x y s o.put q1 q2 y.put c1 0 o.may z0 z1 z2 z3 (by omega) w ⟨HP⟩ ⟨H1⟩ ⟨E2⟩ ⟨HM⟩ ⟨fun _ => MY⟩ ⟨fun _ => PY⟩ ⟨hA⟩ ⟨.inl ⟨rfl, g1, by omega⟩⟩
end Go.Proofs.Ytcekecpbjmfbhaa.opBack
