/- Texts that belong together, in one. -/
import Derived.Test.YtcgkkjfbdappoaaGreatOpRefBare
/- The document's May of an operation. -/
namespace Go.Proofs.YtcgkkjfbdappoaaGreat
open Go.RowKit Go.Proofs.YtcgkkjfbdappoaaGreatW.PrintWords Go.Proofs.YtcgkkjfbdappoaaGreatW.PrintLast Go.Proofs.YtcgkkjfbdappoaaGreatW.PrintMore Pk
set_option linter.unusedVariables false
set_option linter.unusedSimpArgs false

/-- Are two operations the same? -/
def eqO (x y : OpV) : Bool :=
  (x.t == y.t && (x.r == y.r)) && ((x.k == y.k) && ((x.a0 == y.a0 && (x.a1 == y.a1)) && ((x.i0 == y.i0 && (x.i1 == y.i1)) && ((x.t0 == y.t0 && (x.t1 == y.t1)) && ((x.nm.toList == y.nm.toList) && ((x.nw.toList == y.nw.toList) && ((x.off == y.off) && (x.dt.toList == y.dt.toList))))))))
theorem toList_inj {a b : ByteArray} (h : a.toList = b.toList) : a = b := by rw [str_of h, Lib.toList_data]
theorem eqO_iff (x y : OpV) : eqO x y = true ↔ x = y := by
  constructor
  · intro h
    unfold eqO at h
    simp only [Bool.and_eq_true, beq_iff_eq] at h
    obtain ⟨⟨h1, h2⟩, h3, ⟨h4, h5⟩, ⟨h6, h7⟩, ⟨h8, h9⟩, h10, h11, h12, h13⟩ := h
    cases x; cases y
    have := toList_inj h10; have := toList_inj h11; have := toList_inj h13
    simp_all
  · rintro rfl
    simp [eqO]
set_option maxRecDepth 100000 in
/-- Two operations are held against each other, field by field. -/
theorem eqOpG (d : Nat) (w : World) (x y : OpV) : (Op.equalIn (d + 3) 36 (.agg #[.int .i64 x.t, .int .i64 x.r, .int .i64 x.k, .int .i64 x.a0, .int .i64 x.a1, .int .i64 x.i0, .int .i64 x.i1, .int .i64 x.t0, .int .i64 x.t1, .string x.nm, .string x.nw, .int .i64 x.off, .string x.dt]) (.agg #[.int .i64 y.t, .int .i64 y.r, .int .i64 y.k, .int .i64 y.a0, .int .i64 y.a1, .int .i64 y.i0, .int .i64 y.i1, .int .i64 y.t0, .int .i64 y.t1, .string y.nm, .string y.nw, .int .i64 y.off, .string y.dt])).run Tryz.prog w = .ok (eqO x y) w := by
  unfold eqO
  refine eqA_of Tryz.underlying36 (by kernel_rfl) ?_
  refine eqf_cons (by rfl) (by go_simp) (by go_simp) (eqStamp _ w _ _ _ _) ?_
  refine eqf_cons (by rfl) (by go_simp; rfl) (by go_simp; rfl) (by go_simp) ?_
  refine eqf_cons (by rfl) (by go_simp) (by go_simp) (eqStamp _ w _ _ _ _) ?_
  refine eqf_cons (by rfl) (by go_simp) (by go_simp) (eqStamp _ w _ _ _ _) ?_
  refine eqf_cons (by rfl) (by go_simp) (by go_simp) (eqStamp _ w _ _ _ _) ?_
  refine eqf_cons (by rfl) (by go_simp; rfl) (by go_simp; rfl) (by go_simp) ?_
  refine eqf_cons (by rfl) (by go_simp; rfl) (by go_simp; rfl) (by go_simp) ?_
  refine eqf_cons (by rfl) (by go_simp; rfl) (by go_simp; rfl) (by go_simp) ?_
  exact eqf_last (by rfl) (by go_simp; rfl) (by go_simp; rfl) (by go_simp)
def impB (a b : Bool) : Bool := !a || b
/-- What the document says of whether an operation may be. -/
def refMayO (o : OpV) : Bool :=
  decide (1 ≤ o.k ∧ o.k ≤ 10) && eqO (bareV o) o && (o.t != 0) && mayS o.t o.r && mayS o.a0 o.a1 && mayS o.i0 o.i1 && mayS o.t0 o.t1 && impB (decide (o.k ≤ 7)) (nameB o.nm) && impB (o.k == 7) (nameB o.nw) && dataB o.k o.off o.dt
theorem dataB3 {k off : Int} {dt : ByteArray} (h : k = 3) : dataB k off dt = (decide ((1 : Int) ≤ (dt.size : Int)) && decide ((dt.size : Int) ≤ 32) && !hasB dt 0) := by
  subst h; unfold dataB; rw [if_pos rfl, ← Bool.decide_and]; congr 1; exact decide_eq_decide.2 (by omega)
theorem dataB8 {k off : Int} {dt : ByteArray} (h : k = 8) : dataB k off dt = (decide ((0 : Int) ≤ off) && decide ((1 : Int) ≤ (dt.size : Int)) && decide ((dt.size : Int) ≤ 64) && decide (off ≤ 64 - (dt.size : Int))) := by
  subst h; unfold dataB; rw [if_neg (by decide), if_pos rfl, ← Bool.decide_and, ← Bool.decide_and, ← Bool.decide_and]; exact decide_eq_decide.2 (by omega)
theorem dataB9 {k off : Int} {dt : ByteArray} (h : k = 9) : dataB k off dt = (decide ((0 : Int) ≤ off) && decide (off ≤ 64)) := by
  subst h; unfold dataB; rw [if_neg (by decide), if_neg (by decide), if_pos rfl, ← Bool.decide_and]
theorem dataB10 {k off : Int} {dt : ByteArray} (h : k = 10) : dataB k off dt = (decide ((0 : Int) ≤ off) && decide (off ≤ 4095)) := by
  subst h; unfold dataB; rw [if_neg (by decide), if_neg (by decide), if_neg (by decide), if_pos rfl, ← Bool.decide_and]
theorem dataBo {k off : Int} {dt : ByteArray} (h3 : k ≠ 3) (h8 : k ≠ 8) (h9 : k ≠ 9) (h10 : k ≠ 10) : dataB k off dt = true := by
  unfold dataB; rw [if_neg h3, if_neg h8, if_neg h9, if_neg h10]
section
attribute [local go_sem high] eqOpG
set_option maxHeartbeats 4000000 in
set_option maxRecDepth 100000 in
theorem may_low (o : OpV) (h : o.k < 1) (w : World) : Calls Tryz.prog 51 #[.agg #[.int .i64 o.t, .int .i64 o.r, .int .i64 o.k, .int .i64 o.a0, .int .i64 o.a1, .int .i64 o.i0, .int .i64 o.i1, .int .i64 o.t0, .int .i64 o.t1, .string o.nm, .string o.nw, .int .i64 o.off, .string o.dt]] w fun e w' => e = .returned (.bool (refMayO o)) ∧ Below w.heap.size w w' := by
  have K0 := Hd.mk (Holds.start1 w (.cells #[.int .i64 o.t, .int .i64 o.r, .int .i64 o.k, .int .i64 o.a0, .int .i64 o.a1, .int .i64 o.i0, .int .i64 o.i1, .int .i64 o.t0, .int .i64 o.t1, .string o.nm, .string o.nw, .int .i64 o.off, .string o.dt] 36 (0, 0)))
  have HV : Hd (refMayO o = false) := ⟨by unfold refMayO; rw [decide_eq_false (by omega)]; rfl⟩
  have e1 : decide (o.k < 1) = true := decide_eq_true h
  clear h
  go_enter Tryz.func51, Tryz.ntmps51
  go_upto_region 1 with (fail)
  refine world_gen _ K0.out (fun W hK => ?_)
  have K1 := Hd.mk hK
  clear hK K0
  refine st_ 26 (S := fun W_ => Holds w [(w.heap.size, .cells #[.int .i64 o.t, .int .i64 o.r, .int .i64 o.k, .int .i64 o.a0, .int .i64 o.a1, .int .i64 o.i0, .int .i64 o.i1, .int .i64 o.t0, .int .i64 o.t1, .string o.nm, .string o.nw, .int .i64 o.off, .string o.dt] 36 (0, 0))] W_) (ds := []) (K1.out.drew) (fun hHeld => ?_)
  refine pu_ 0 (some 4) ?_
  refine tk_ 1 (some 5) (.int .i64 o.k) rfl (fun w' h => by have c := cell_of_row w' _ 2 _ _ _ (h.get 0 rfl); go_simp) hHeld ?_
  refine pu_ 2 (some 6) ?_
  refine pu_ 3 (some 7) ?_
  first | (refine pu_ 4 (some 8) ?_) | refine po_ 4 (some 8) ?_
  first | (refine tk_ 5 (some 9) (.int .i64 o.k) rfl (fun w' h => by have c := cell_of_row w' _ 2 _ _ _ (h.get 0 rfl); go_simp) hHeld ?_) | refine po_ 5 (some 9) ?_
  first | (refine pu_ 6 (some 10) ?_) | refine po_ 6 (some 10) ?_
  refine pu_ 7 (some 11) ?_
  refine pu_ 8 (some 12) ?_
  first | (refine tk_ 9 (some 13) (.agg #[.int .i64 o.t, .int .i64 o.r, .int .i64 o.k, .int .i64 o.a0, .int .i64 o.a1, .int .i64 o.i0, .int .i64 o.i1, .int .i64 o.t0, .int .i64 o.t1, .string o.nm, .string o.nw, .int .i64 o.off, .string o.dt]) rfl (fun w' h => run_load_mid 36 _ rfl w.heap.size 0 #[.int .i64 o.t, .int .i64 o.r, .int .i64 o.k, .int .i64 o.a0, .int .i64 o.a1, .int .i64 o.i0, .int .i64 o.i1, .int .i64 o.t0, .int .i64 o.t1, .string o.nm, .string o.nw, .int .i64 o.off, .string o.dt].toList rfl _ _ _ (h.get 0 rfl) (fun j v hj => by simpa using hj) _ Tryz.underlying36 rfl size_op13) hHeld ?_) | refine po_ 9 (some 13) ?_
  first | (refine tk_ 11 (some 15) (.agg #[.int .i64 o.t, .int .i64 o.r, .int .i64 o.k, .int .i64 o.a0, .int .i64 o.a1, .int .i64 o.i0, .int .i64 o.i1, .int .i64 o.t0, .int .i64 o.t1, .string o.nm, .string o.nw, .int .i64 o.off, .string o.dt]) rfl (fun w' h => run_load_mid 36 _ rfl w.heap.size 0 #[.int .i64 o.t, .int .i64 o.r, .int .i64 o.k, .int .i64 o.a0, .int .i64 o.a1, .int .i64 o.i0, .int .i64 o.i1, .int .i64 o.t0, .int .i64 o.t1, .string o.nm, .string o.nw, .int .i64 o.off, .string o.dt].toList rfl _ _ _ (h.get 0 rfl) (fun j v hj => by simpa using hj) _ Tryz.underlying36 rfl size_op13) hHeld ?_) | refine po_ 11 (some 15) ?_
  refine po_ 10 (some 14) ?_
  first | (refine pu_ 12 (some 16) ?_) | refine po_ 12 (some 16) ?_
  refine pu_ 13 (some 17) ?_
  refine pu_ 14 (some 18) ?_
  first | (refine pu_ 15 (some 19) ?_) | refine po_ 15 (some 19) ?_
  first | (refine pu_ 16 (some 20) ?_) | refine po_ 16 (some 20) ?_
  first | (refine tk_ 17 (some 21) (.int .i64 o.t) rfl (fun w' h => by have c := cell_of_row w' _ 0 _ _ _ (h.get 0 rfl); go_simp) hHeld ?_) | refine po_ 17 (some 21) ?_
  first | (refine pu_ 18 (some 22) ?_) | refine po_ 18 (some 22) ?_
  refine pu_ 19 (some 23) ?_
  refine pu_ 20 (some 24) ?_
  first | (refine pu_ 21 (some 25) ?_) | refine po_ 21 (some 25) ?_
  first | (refine tk_ 22 (some 26) (.agg #[.int .i64 o.t, .int .i64 o.r]) rfl (fun w' h => run_load_mid 34 _ rfl w.heap.size 0 [.int .i64 o.t, .int .i64 o.r] rfl _ _ _ (h.get 0 rfl) (two_at rfl rfl) _ Tryz.underlying34 rfl size_stamp) hHeld ?_) | refine po_ 22 (some 26) ?_
  refine po_ 23 (some 27) ?_
  first | (refine pu_ 24 (some 28) ?_) | refine po_ 24 (some 28) ?_
  refine pu_ 25 (some 29) ?_
  refine done_ (by kernel_rfl) ?_
  go_wp2_with fail
  go_ret
  exact ⟨by rw [HV.out]; rfl, hHeld.2⟩
set_option maxHeartbeats 4000000 in
set_option maxRecDepth 100000 in
theorem may_high (o : OpV) (h : 10 < o.k) (w : World) : Calls Tryz.prog 51 #[.agg #[.int .i64 o.t, .int .i64 o.r, .int .i64 o.k, .int .i64 o.a0, .int .i64 o.a1, .int .i64 o.i0, .int .i64 o.i1, .int .i64 o.t0, .int .i64 o.t1, .string o.nm, .string o.nw, .int .i64 o.off, .string o.dt]] w fun e w' => e = .returned (.bool (refMayO o)) ∧ Below w.heap.size w w' := by
  have K0 := Hd.mk (Holds.start1 w (.cells #[.int .i64 o.t, .int .i64 o.r, .int .i64 o.k, .int .i64 o.a0, .int .i64 o.a1, .int .i64 o.i0, .int .i64 o.i1, .int .i64 o.t0, .int .i64 o.t1, .string o.nm, .string o.nw, .int .i64 o.off, .string o.dt] 36 (0, 0)))
  have HV : Hd (refMayO o = false) := ⟨by unfold refMayO; rw [decide_eq_false (by omega)]; rfl⟩
  have e1 : decide (o.k < 1) = false := decide_eq_false (by omega)
  have e2 : decide (10 < o.k) = true := decide_eq_true h
  clear h
  go_enter Tryz.func51, Tryz.ntmps51
  go_upto_region 1 with (fail)
  refine world_gen _ K0.out (fun W hK => ?_)
  have K1 := Hd.mk hK
  clear hK K0
  refine st_ 26 (S := fun W_ => Holds w [(w.heap.size, .cells #[.int .i64 o.t, .int .i64 o.r, .int .i64 o.k, .int .i64 o.a0, .int .i64 o.a1, .int .i64 o.i0, .int .i64 o.i1, .int .i64 o.t0, .int .i64 o.t1, .string o.nm, .string o.nw, .int .i64 o.off, .string o.dt] 36 (0, 0))] W_) (ds := []) (K1.out.drew) (fun hHeld => ?_)
  refine pu_ 0 (some 4) ?_
  refine tk_ 1 (some 5) (.int .i64 o.k) rfl (fun w' h => by have c := cell_of_row w' _ 2 _ _ _ (h.get 0 rfl); go_simp) hHeld ?_
  refine pu_ 2 (some 6) ?_
  refine pu_ 3 (some 7) ?_
  refine pu_ 4 (some 8) ?_
  refine tk_ 5 (some 9) (.int .i64 o.k) rfl (fun w' h => by have c := cell_of_row w' _ 2 _ _ _ (h.get 0 rfl); go_simp) hHeld ?_
  refine pu_ 6 (some 10) ?_
  refine pu_ 7 (some 11) ?_
  refine pu_ 8 (some 12) ?_
  first | (refine tk_ 9 (some 13) (.agg #[.int .i64 o.t, .int .i64 o.r, .int .i64 o.k, .int .i64 o.a0, .int .i64 o.a1, .int .i64 o.i0, .int .i64 o.i1, .int .i64 o.t0, .int .i64 o.t1, .string o.nm, .string o.nw, .int .i64 o.off, .string o.dt]) rfl (fun w' h => run_load_mid 36 _ rfl w.heap.size 0 #[.int .i64 o.t, .int .i64 o.r, .int .i64 o.k, .int .i64 o.a0, .int .i64 o.a1, .int .i64 o.i0, .int .i64 o.i1, .int .i64 o.t0, .int .i64 o.t1, .string o.nm, .string o.nw, .int .i64 o.off, .string o.dt].toList rfl _ _ _ (h.get 0 rfl) (fun j v hj => by simpa using hj) _ Tryz.underlying36 rfl size_op13) hHeld ?_) | refine po_ 9 (some 13) ?_
  first | (refine tk_ 11 (some 15) (.agg #[.int .i64 o.t, .int .i64 o.r, .int .i64 o.k, .int .i64 o.a0, .int .i64 o.a1, .int .i64 o.i0, .int .i64 o.i1, .int .i64 o.t0, .int .i64 o.t1, .string o.nm, .string o.nw, .int .i64 o.off, .string o.dt]) rfl (fun w' h => run_load_mid 36 _ rfl w.heap.size 0 #[.int .i64 o.t, .int .i64 o.r, .int .i64 o.k, .int .i64 o.a0, .int .i64 o.a1, .int .i64 o.i0, .int .i64 o.i1, .int .i64 o.t0, .int .i64 o.t1, .string o.nm, .string o.nw, .int .i64 o.off, .string o.dt].toList rfl _ _ _ (h.get 0 rfl) (fun j v hj => by simpa using hj) _ Tryz.underlying36 rfl size_op13) hHeld ?_) | refine po_ 11 (some 15) ?_
  refine po_ 10 (some 14) ?_
  first | (refine pu_ 12 (some 16) ?_) | refine po_ 12 (some 16) ?_
  refine pu_ 13 (some 17) ?_
  refine pu_ 14 (some 18) ?_
  first | (refine pu_ 15 (some 19) ?_) | refine po_ 15 (some 19) ?_
  first | (refine pu_ 16 (some 20) ?_) | refine po_ 16 (some 20) ?_
  first | (refine tk_ 17 (some 21) (.int .i64 o.t) rfl (fun w' h => by have c := cell_of_row w' _ 0 _ _ _ (h.get 0 rfl); go_simp) hHeld ?_) | refine po_ 17 (some 21) ?_
  first | (refine pu_ 18 (some 22) ?_) | refine po_ 18 (some 22) ?_
  refine pu_ 19 (some 23) ?_
  refine pu_ 20 (some 24) ?_
  first | (refine pu_ 21 (some 25) ?_) | refine po_ 21 (some 25) ?_
  first | (refine tk_ 22 (some 26) (.agg #[.int .i64 o.t, .int .i64 o.r]) rfl (fun w' h => run_load_mid 34 _ rfl w.heap.size 0 [.int .i64 o.t, .int .i64 o.r] rfl _ _ _ (h.get 0 rfl) (two_at rfl rfl) _ Tryz.underlying34 rfl size_stamp) hHeld ?_) | refine po_ 22 (some 26) ?_
  refine po_ 23 (some 27) ?_
  first | (refine pu_ 24 (some 28) ?_) | refine po_ 24 (some 28) ?_
  refine pu_ 25 (some 29) ?_
  refine done_ (by kernel_rfl) ?_
  go_wp2_with fail
  go_ret
  exact ⟨by rw [HV.out]; rfl, hHeld.2⟩
set_option maxHeartbeats 4000000 in
set_option maxRecDepth 100000 in
theorem may_unlike (o : OpV) (h : 1 ≤ o.k ∧ o.k ≤ 10) (hq : eqO (bareV o) o = false) (w : World) : Calls Tryz.prog 51 #[.agg #[.int .i64 o.t, .int .i64 o.r, .int .i64 o.k, .int .i64 o.a0, .int .i64 o.a1, .int .i64 o.i0, .int .i64 o.i1, .int .i64 o.t0, .int .i64 o.t1, .string o.nm, .string o.nw, .int .i64 o.off, .string o.dt]] w fun e w' => e = .returned (.bool (refMayO o)) ∧ Below w.heap.size w w' := by
  have K0 := Hd.mk (Holds.start1 w (.cells #[.int .i64 o.t, .int .i64 o.r, .int .i64 o.k, .int .i64 o.a0, .int .i64 o.a1, .int .i64 o.i0, .int .i64 o.i1, .int .i64 o.t0, .int .i64 o.t1, .string o.nm, .string o.nw, .int .i64 o.off, .string o.dt] 36 (0, 0)))
  have HV : Hd (refMayO o = false) := ⟨by unfold refMayO; rw [hq]; simp⟩
  obtain ⟨b, hb⟩ : ∃ b, b = bareV o := ⟨_, rfl⟩
  rw [← hb] at hq
  have HQ := Hd.mk hb
  have HE := Hd.mk hq
  have e1 : decide (o.k < 1) = false := decide_eq_false (by omega)
  have e2 : decide (10 < o.k) = false := decide_eq_false (by omega)
  have HBA : Hd (∀ w, Calls Tryz.prog 84 #[.agg #[.int .i64 o.t, .int .i64 o.r, .int .i64 o.k, .int .i64 o.a0, .int .i64 o.a1, .int .i64 o.i0, .int .i64 o.i1, .int .i64 o.t0, .int .i64 o.t1, .string o.nm, .string o.nw, .int .i64 o.off, .string o.dt]] w fun e w' => e = .returned (.agg #[.int .i64 b.t, .int .i64 b.r, .int .i64 b.k, .int .i64 b.a0, .int .i64 b.a1, .int .i64 b.i0, .int .i64 b.i1, .int .i64 b.t0, .int .i64 b.t1, .string b.nm, .string b.nw, .int .i64 b.off, .string b.dt]) ∧ Below w.heap.size w w') := ⟨by rw [HQ.out]; exact ref_Bare o h.1 h.2⟩
  clear h hq hb
  go_enter Tryz.func51, Tryz.ntmps51
  go_upto_region 1 with (fail)
  refine world_gen _ K0.out (fun W hK => ?_)
  have K1 := Hd.mk hK
  clear hK K0
  refine st_ 26 (S := fun W_ => Holds w [(w.heap.size, .cells #[.int .i64 o.t, .int .i64 o.r, .int .i64 o.k, .int .i64 o.a0, .int .i64 o.a1, .int .i64 o.i0, .int .i64 o.i1, .int .i64 o.t0, .int .i64 o.t1, .string o.nm, .string o.nw, .int .i64 o.off, .string o.dt] 36 (0, 0))] W_) (ds := []) (K1.out.drew) (fun hHeld => ?_)
  refine pu_ 0 (some 4) ?_
  refine tk_ 1 (some 5) (.int .i64 o.k) rfl (fun w' h => by have c := cell_of_row w' _ 2 _ _ _ (h.get 0 rfl); go_simp) hHeld ?_
  refine pu_ 2 (some 6) ?_
  refine pu_ 3 (some 7) ?_
  refine pu_ 4 (some 8) ?_
  refine tk_ 5 (some 9) (.int .i64 o.k) rfl (fun w' h => by have c := cell_of_row w' _ 2 _ _ _ (h.get 0 rfl); go_simp) hHeld ?_
  refine pu_ 6 (some 10) ?_
  refine pu_ 7 (some 11) ?_
  refine pu_ 8 (some 12) ?_
  refine tk_ 9 (some 13) (.agg #[.int .i64 o.t, .int .i64 o.r, .int .i64 o.k, .int .i64 o.a0, .int .i64 o.a1, .int .i64 o.i0, .int .i64 o.i1, .int .i64 o.t0, .int .i64 o.t1, .string o.nm, .string o.nw, .int .i64 o.off, .string o.dt]) rfl (fun w' h => run_load_mid 36 _ rfl w.heap.size 0 #[.int .i64 o.t, .int .i64 o.r, .int .i64 o.k, .int .i64 o.a0, .int .i64 o.a1, .int .i64 o.i0, .int .i64 o.i1, .int .i64 o.t0, .int .i64 o.t1, .string o.nm, .string o.nw, .int .i64 o.off, .string o.dt].toList rfl _ _ _ (h.get 0 rfl) (fun j v hj => by simpa using hj) _ Tryz.underlying36 rfl size_op13) hHeld ?_
  refine tk_ 11 (some 15) (.agg #[.int .i64 o.t, .int .i64 o.r, .int .i64 o.k, .int .i64 o.a0, .int .i64 o.a1, .int .i64 o.i0, .int .i64 o.i1, .int .i64 o.t0, .int .i64 o.t1, .string o.nm, .string o.nw, .int .i64 o.off, .string o.dt]) rfl (fun w' h => run_load_mid 36 _ rfl w.heap.size 0 #[.int .i64 o.t, .int .i64 o.r, .int .i64 o.k, .int .i64 o.a0, .int .i64 o.a1, .int .i64 o.i0, .int .i64 o.i1, .int .i64 o.t0, .int .i64 o.t1, .string o.nm, .string o.nw, .int .i64 o.off, .string o.dt].toList rfl _ _ _ (h.get 0 rfl) (fun j v hj => by simpa using hj) _ Tryz.underlying36 rfl size_op13) hHeld ?_
  refine cb_ 10 (some 14) Tryz.func84 HBA (fun _ hr => hHeld.call hr) (fun wr5 hHeld => ?_)
  refine tk_ 12 (some 16) (.bool true) rfl (fun w' h => by have e := HE.out; go_simp; first | done | (rw [e]; done) | (rw [e]; rfl) | simp [e]) hHeld ?_
  refine pu_ 13 (some 17) ?_
  refine pu_ 14 (some 18) ?_
  first | (refine pu_ 15 (some 19) ?_) | refine po_ 15 (some 19) ?_
  first | (refine pu_ 16 (some 20) ?_) | refine po_ 16 (some 20) ?_
  first | (refine tk_ 17 (some 21) (.int .i64 o.t) rfl (fun w' h => by have c := cell_of_row w' _ 0 _ _ _ (h.get 0 rfl); go_simp) hHeld ?_) | refine po_ 17 (some 21) ?_
  first | (refine pu_ 18 (some 22) ?_) | refine po_ 18 (some 22) ?_
  refine pu_ 19 (some 23) ?_
  refine pu_ 20 (some 24) ?_
  first | (refine pu_ 21 (some 25) ?_) | refine po_ 21 (some 25) ?_
  first | (refine tk_ 22 (some 26) (.agg #[.int .i64 o.t, .int .i64 o.r]) rfl (fun w' h => run_load_mid 34 _ rfl w.heap.size 0 [.int .i64 o.t, .int .i64 o.r] rfl _ _ _ (h.get 0 rfl) (two_at rfl rfl) _ Tryz.underlying34 rfl size_stamp) hHeld ?_) | refine po_ 22 (some 26) ?_
  refine po_ 23 (some 27) ?_
  first | (refine pu_ 24 (some 28) ?_) | refine po_ 24 (some 28) ?_
  refine pu_ 25 (some 29) ?_
  refine done_ (by kernel_rfl) ?_
  go_wp2_with fail
  go_ret
  exact ⟨by rw [HV.out]; rfl, hHeld.2⟩
set_option maxHeartbeats 4000000 in
set_option maxRecDepth 100000 in
theorem may_zero (o : OpV) (h : 1 ≤ o.k ∧ o.k ≤ 10) (hq : eqO (bareV o) o = true) (hz : o.t = 0) (w : World) : Calls Tryz.prog 51 #[.agg #[.int .i64 o.t, .int .i64 o.r, .int .i64 o.k, .int .i64 o.a0, .int .i64 o.a1, .int .i64 o.i0, .int .i64 o.i1, .int .i64 o.t0, .int .i64 o.t1, .string o.nm, .string o.nw, .int .i64 o.off, .string o.dt]] w fun e w' => e = .returned (.bool (refMayO o)) ∧ Below w.heap.size w w' := by
  have K0 := Hd.mk (Holds.start1 w (.cells #[.int .i64 o.t, .int .i64 o.r, .int .i64 o.k, .int .i64 o.a0, .int .i64 o.a1, .int .i64 o.i0, .int .i64 o.i1, .int .i64 o.t0, .int .i64 o.t1, .string o.nm, .string o.nw, .int .i64 o.off, .string o.dt] 36 (0, 0)))
  have HV : Hd (refMayO o = false) := ⟨by unfold refMayO; rw [hz]; simp⟩
  have ez : (o.t == 0) = true := by rw [hz]; rfl
  obtain ⟨b, hb⟩ : ∃ b, b = bareV o := ⟨_, rfl⟩
  rw [← hb] at hq
  have HQ := Hd.mk hb
  have HE := Hd.mk hq
  have e1 : decide (o.k < 1) = false := decide_eq_false (by omega)
  have e2 : decide (10 < o.k) = false := decide_eq_false (by omega)
  have HBA : Hd (∀ w, Calls Tryz.prog 84 #[.agg #[.int .i64 o.t, .int .i64 o.r, .int .i64 o.k, .int .i64 o.a0, .int .i64 o.a1, .int .i64 o.i0, .int .i64 o.i1, .int .i64 o.t0, .int .i64 o.t1, .string o.nm, .string o.nw, .int .i64 o.off, .string o.dt]] w fun e w' => e = .returned (.agg #[.int .i64 b.t, .int .i64 b.r, .int .i64 b.k, .int .i64 b.a0, .int .i64 b.a1, .int .i64 b.i0, .int .i64 b.i1, .int .i64 b.t0, .int .i64 b.t1, .string b.nm, .string b.nw, .int .i64 b.off, .string b.dt]) ∧ Below w.heap.size w w') := ⟨by rw [HQ.out]; exact ref_Bare o h.1 h.2⟩
  clear h hq hb hz
  go_enter Tryz.func51, Tryz.ntmps51
  go_upto_region 1 with (fail)
  refine world_gen _ K0.out (fun W hK => ?_)
  have K1 := Hd.mk hK
  clear hK K0
  refine st_ 26 (S := fun W_ => Holds w [(w.heap.size, .cells #[.int .i64 o.t, .int .i64 o.r, .int .i64 o.k, .int .i64 o.a0, .int .i64 o.a1, .int .i64 o.i0, .int .i64 o.i1, .int .i64 o.t0, .int .i64 o.t1, .string o.nm, .string o.nw, .int .i64 o.off, .string o.dt] 36 (0, 0))] W_) (ds := []) (K1.out.drew) (fun hHeld => ?_)
  refine pu_ 0 (some 4) ?_
  refine tk_ 1 (some 5) (.int .i64 o.k) rfl (fun w' h => by have c := cell_of_row w' _ 2 _ _ _ (h.get 0 rfl); go_simp) hHeld ?_
  refine pu_ 2 (some 6) ?_
  refine pu_ 3 (some 7) ?_
  refine pu_ 4 (some 8) ?_
  refine tk_ 5 (some 9) (.int .i64 o.k) rfl (fun w' h => by have c := cell_of_row w' _ 2 _ _ _ (h.get 0 rfl); go_simp) hHeld ?_
  refine pu_ 6 (some 10) ?_
  refine pu_ 7 (some 11) ?_
  refine pu_ 8 (some 12) ?_
  refine tk_ 9 (some 13) (.agg #[.int .i64 o.t, .int .i64 o.r, .int .i64 o.k, .int .i64 o.a0, .int .i64 o.a1, .int .i64 o.i0, .int .i64 o.i1, .int .i64 o.t0, .int .i64 o.t1, .string o.nm, .string o.nw, .int .i64 o.off, .string o.dt]) rfl (fun w' h => run_load_mid 36 _ rfl w.heap.size 0 #[.int .i64 o.t, .int .i64 o.r, .int .i64 o.k, .int .i64 o.a0, .int .i64 o.a1, .int .i64 o.i0, .int .i64 o.i1, .int .i64 o.t0, .int .i64 o.t1, .string o.nm, .string o.nw, .int .i64 o.off, .string o.dt].toList rfl _ _ _ (h.get 0 rfl) (fun j v hj => by simpa using hj) _ Tryz.underlying36 rfl size_op13) hHeld ?_
  refine tk_ 11 (some 15) (.agg #[.int .i64 o.t, .int .i64 o.r, .int .i64 o.k, .int .i64 o.a0, .int .i64 o.a1, .int .i64 o.i0, .int .i64 o.i1, .int .i64 o.t0, .int .i64 o.t1, .string o.nm, .string o.nw, .int .i64 o.off, .string o.dt]) rfl (fun w' h => run_load_mid 36 _ rfl w.heap.size 0 #[.int .i64 o.t, .int .i64 o.r, .int .i64 o.k, .int .i64 o.a0, .int .i64 o.a1, .int .i64 o.i0, .int .i64 o.i1, .int .i64 o.t0, .int .i64 o.t1, .string o.nm, .string o.nw, .int .i64 o.off, .string o.dt].toList rfl _ _ _ (h.get 0 rfl) (fun j v hj => by simpa using hj) _ Tryz.underlying36 rfl size_op13) hHeld ?_
  refine cb_ 10 (some 14) Tryz.func84 HBA (fun _ hr => hHeld.call hr) (fun wr7 hHeld => ?_)
  refine tk_ 12 (some 16) (.bool false) rfl (fun w' h => by rw [show false = !eqO b o from by rw [HE.out]; rfl]; go_simp) hHeld ?_
  refine pu_ 13 (some 17) ?_
  refine pu_ 14 (some 18) ?_
  refine pu_ 15 (some 19) ?_
  refine pu_ 16 (some 20) ?_
  refine tk_ 17 (some 21) (.int .i64 o.t) rfl (fun w' h => by have c := cell_of_row w' _ 0 _ _ _ (h.get 0 rfl); go_simp) hHeld ?_
  refine pu_ 18 (some 22) ?_
  refine pu_ 19 (some 23) ?_
  refine pu_ 20 (some 24) ?_
  first | (refine pu_ 21 (some 25) ?_) | refine po_ 21 (some 25) ?_
  first | (refine tk_ 22 (some 26) (.agg #[.int .i64 o.t, .int .i64 o.r]) rfl (fun w' h => run_load_mid 34 _ rfl w.heap.size 0 [.int .i64 o.t, .int .i64 o.r] rfl _ _ _ (h.get 0 rfl) (two_at rfl rfl) _ Tryz.underlying34 rfl size_stamp) hHeld ?_) | refine po_ 22 (some 26) ?_
  refine po_ 23 (some 27) ?_
  first | (refine pu_ 24 (some 28) ?_) | refine po_ 24 (some 28) ?_
  refine pu_ 25 (some 29) ?_
  refine done_ (by kernel_rfl) ?_
  go_wp2_with fail
  go_ret
  exact ⟨by rw [HV.out]; rfl, hHeld.2⟩
set_option maxHeartbeats 4000000 in
set_option maxRecDepth 100000 in
theorem may_stamp (o : OpV) (h : 1 ≤ o.k ∧ o.k ≤ 10) (hq : eqO (bareV o) o = true) (hz : o.t ≠ 0) (hs : mayS o.t o.r = false) (w : World) : Calls Tryz.prog 51 #[.agg #[.int .i64 o.t, .int .i64 o.r, .int .i64 o.k, .int .i64 o.a0, .int .i64 o.a1, .int .i64 o.i0, .int .i64 o.i1, .int .i64 o.t0, .int .i64 o.t1, .string o.nm, .string o.nw, .int .i64 o.off, .string o.dt]] w fun e w' => e = .returned (.bool (refMayO o)) ∧ Below w.heap.size w w' := by
  have K0 := Hd.mk (Holds.start1 w (.cells #[.int .i64 o.t, .int .i64 o.r, .int .i64 o.k, .int .i64 o.a0, .int .i64 o.a1, .int .i64 o.i0, .int .i64 o.i1, .int .i64 o.t0, .int .i64 o.t1, .string o.nm, .string o.nw, .int .i64 o.off, .string o.dt] 36 (0, 0)))
  have HV : Hd (refMayO o = false) := ⟨by unfold refMayO; rw [hs]; simp⟩
  have ez : (o.t == 0) = false := by rw [beq_eq_false_iff_ne]; exact hz
  have HS := Hd.mk (ref_stampMay o.t o.r)
  rw [hs] at HS
  obtain ⟨b, hb⟩ : ∃ b, b = bareV o := ⟨_, rfl⟩
  rw [← hb] at hq
  have HQ := Hd.mk hb
  have HE := Hd.mk hq
  have e1 : decide (o.k < 1) = false := decide_eq_false (by omega)
  have e2 : decide (10 < o.k) = false := decide_eq_false (by omega)
  have HBA : Hd (∀ w, Calls Tryz.prog 84 #[.agg #[.int .i64 o.t, .int .i64 o.r, .int .i64 o.k, .int .i64 o.a0, .int .i64 o.a1, .int .i64 o.i0, .int .i64 o.i1, .int .i64 o.t0, .int .i64 o.t1, .string o.nm, .string o.nw, .int .i64 o.off, .string o.dt]] w fun e w' => e = .returned (.agg #[.int .i64 b.t, .int .i64 b.r, .int .i64 b.k, .int .i64 b.a0, .int .i64 b.a1, .int .i64 b.i0, .int .i64 b.i1, .int .i64 b.t0, .int .i64 b.t1, .string b.nm, .string b.nw, .int .i64 b.off, .string b.dt]) ∧ Below w.heap.size w w') := ⟨by rw [HQ.out]; exact ref_Bare o h.1 h.2⟩
  clear h hq hb hz hs
  go_enter Tryz.func51, Tryz.ntmps51
  go_upto_region 1 with (fail)
  refine world_gen _ K0.out (fun W hK => ?_)
  have K1 := Hd.mk hK
  clear hK K0
  refine st_ 26 (S := fun W_ => Holds w [(w.heap.size, .cells #[.int .i64 o.t, .int .i64 o.r, .int .i64 o.k, .int .i64 o.a0, .int .i64 o.a1, .int .i64 o.i0, .int .i64 o.i1, .int .i64 o.t0, .int .i64 o.t1, .string o.nm, .string o.nw, .int .i64 o.off, .string o.dt] 36 (0, 0))] W_) (ds := []) (K1.out.drew) (fun hHeld => ?_)
  refine pu_ 0 (some 4) ?_
  refine tk_ 1 (some 5) (.int .i64 o.k) rfl (fun w' h => by have c := cell_of_row w' _ 2 _ _ _ (h.get 0 rfl); go_simp) hHeld ?_
  refine pu_ 2 (some 6) ?_
  refine pu_ 3 (some 7) ?_
  refine pu_ 4 (some 8) ?_
  refine tk_ 5 (some 9) (.int .i64 o.k) rfl (fun w' h => by have c := cell_of_row w' _ 2 _ _ _ (h.get 0 rfl); go_simp) hHeld ?_
  refine pu_ 6 (some 10) ?_
  refine pu_ 7 (some 11) ?_
  refine pu_ 8 (some 12) ?_
  refine tk_ 9 (some 13) (.agg #[.int .i64 o.t, .int .i64 o.r, .int .i64 o.k, .int .i64 o.a0, .int .i64 o.a1, .int .i64 o.i0, .int .i64 o.i1, .int .i64 o.t0, .int .i64 o.t1, .string o.nm, .string o.nw, .int .i64 o.off, .string o.dt]) rfl (fun w' h => run_load_mid 36 _ rfl w.heap.size 0 #[.int .i64 o.t, .int .i64 o.r, .int .i64 o.k, .int .i64 o.a0, .int .i64 o.a1, .int .i64 o.i0, .int .i64 o.i1, .int .i64 o.t0, .int .i64 o.t1, .string o.nm, .string o.nw, .int .i64 o.off, .string o.dt].toList rfl _ _ _ (h.get 0 rfl) (fun j v hj => by simpa using hj) _ Tryz.underlying36 rfl size_op13) hHeld ?_
  refine tk_ 11 (some 15) (.agg #[.int .i64 o.t, .int .i64 o.r, .int .i64 o.k, .int .i64 o.a0, .int .i64 o.a1, .int .i64 o.i0, .int .i64 o.i1, .int .i64 o.t0, .int .i64 o.t1, .string o.nm, .string o.nw, .int .i64 o.off, .string o.dt]) rfl (fun w' h => run_load_mid 36 _ rfl w.heap.size 0 #[.int .i64 o.t, .int .i64 o.r, .int .i64 o.k, .int .i64 o.a0, .int .i64 o.a1, .int .i64 o.i0, .int .i64 o.i1, .int .i64 o.t0, .int .i64 o.t1, .string o.nm, .string o.nw, .int .i64 o.off, .string o.dt].toList rfl _ _ _ (h.get 0 rfl) (fun j v hj => by simpa using hj) _ Tryz.underlying36 rfl size_op13) hHeld ?_
  refine cb_ 10 (some 14) Tryz.func84 HBA (fun _ hr => hHeld.call hr) (fun wr9 hHeld => ?_)
  refine tk_ 12 (some 16) (.bool false) rfl (fun w' h => by rw [show false = !eqO b o from by rw [HE.out]; rfl]; go_simp) hHeld ?_
  refine pu_ 13 (some 17) ?_
  refine pu_ 14 (some 18) ?_
  refine pu_ 15 (some 19) ?_
  refine pu_ 16 (some 20) ?_
  refine tk_ 17 (some 21) (.int .i64 o.t) rfl (fun w' h => by have c := cell_of_row w' _ 0 _ _ _ (h.get 0 rfl); go_simp) hHeld ?_
  refine pu_ 18 (some 22) ?_
  refine pu_ 19 (some 23) ?_
  refine pu_ 20 (some 24) ?_
  refine pu_ 21 (some 25) ?_
  refine tk_ 22 (some 26) (.agg #[.int .i64 o.t, .int .i64 o.r]) rfl (fun w' h => run_load_mid 34 _ rfl w.heap.size 0 [.int .i64 o.t, .int .i64 o.r] rfl _ _ _ (h.get 0 rfl) (two_at rfl rfl) _ Tryz.underlying34 rfl size_stamp) hHeld ?_
  refine cb_ 23 (some 27) Tryz.func85 HS (fun _ hr => hHeld.call hr) (fun wr10 hHeld => ?_)
  refine pu_ 24 (some 28) ?_
  refine pu_ 25 (some 29) ?_
  refine done_ (by kernel_rfl) ?_
  go_wp2_with fail
  go_ret
  exact ⟨by rw [HV.out]; rfl, hHeld.2⟩
set_option maxHeartbeats 4000000 in
set_option maxRecDepth 100000 in
theorem may_rest (o : OpV) (h : 1 ≤ o.k ∧ o.k ≤ 10) (hq : eqO (bareV o) o = true) (hz : o.t ≠ 0) (hs : mayS o.t o.r = true) (hdt : o.dt.size ≤ 140737488355328) (w : World) : Calls Tryz.prog 51 #[.agg #[.int .i64 o.t, .int .i64 o.r, .int .i64 o.k, .int .i64 o.a0, .int .i64 o.a1, .int .i64 o.i0, .int .i64 o.i1, .int .i64 o.t0, .int .i64 o.t1, .string o.nm, .string o.nw, .int .i64 o.off, .string o.dt]] w fun e w' => e = .returned (.bool (refMayO o)) ∧ Below w.heap.size w w' := by
  have K0 := Hd.mk (Holds.start1 w (.cells #[.int .i64 o.t, .int .i64 o.r, .int .i64 o.k, .int .i64 o.a0, .int .i64 o.a1, .int .i64 o.i0, .int .i64 o.i1, .int .i64 o.t0, .int .i64 o.t1, .string o.nm, .string o.nw, .int .i64 o.off, .string o.dt] 36 (0, 0)))
  have HV : Hd (refMayO o = (mayS o.a0 o.a1 && mayS o.i0 o.i1 && mayS o.t0 o.t1 && impB (decide (o.k ≤ 7)) (nameB o.nm) && impB (o.k == 7) (nameB o.nw) && dataB o.k o.off o.dt)) := ⟨by unfold refMayO; rw [hs, hq, decide_eq_true h, bne_iff_ne.2 hz]; rfl⟩
  have HA := Hd.mk (ref_stampMay o.a0 o.a1)
  have HI := Hd.mk (ref_stampMay o.i0 o.i1)
  have HT := Hd.mk (ref_stampMay o.t0 o.t1)
  have HN := Hd.mk (ref_Name o.nm)
  have HW := Hd.mk (ref_Name o.nw)
  have HH : Hd (∀ w, Calls Tryz.prog 87 #[.string o.dt, .int .u8 0] w fun e w' => e = .returned (.bool (hasB o.dt 0)) ∧ Below w.heap.size w w') := ⟨ref_has o.dt hdt 0⟩
  have HD3 := Hd.mk (dataB3 (k := o.k) (off := o.off) (dt := o.dt))
  have HD8 := Hd.mk (dataB8 (k := o.k) (off := o.off) (dt := o.dt))
  have HD9 := Hd.mk (dataB9 (k := o.k) (off := o.off) (dt := o.dt))
  have HD10 := Hd.mk (dataB10 (k := o.k) (off := o.off) (dt := o.dt))
  have HDo := Hd.mk (dataBo (k := o.k) (off := o.off) (dt := o.dt))
  have ez : (o.t == 0) = false := by rw [beq_eq_false_iff_ne]; exact hz
  have HS := Hd.mk (ref_stampMay o.t o.r)
  rw [hs] at HS
  obtain ⟨b, hb⟩ : ∃ b, b = bareV o := ⟨_, rfl⟩
  rw [← hb] at hq
  have HQ := Hd.mk hb
  have HE := Hd.mk hq
  have e1 : decide (o.k < 1) = false := decide_eq_false (by omega)
  have e2 : decide (10 < o.k) = false := decide_eq_false (by omega)
  have HBA : Hd (∀ w, Calls Tryz.prog 84 #[.agg #[.int .i64 o.t, .int .i64 o.r, .int .i64 o.k, .int .i64 o.a0, .int .i64 o.a1, .int .i64 o.i0, .int .i64 o.i1, .int .i64 o.t0, .int .i64 o.t1, .string o.nm, .string o.nw, .int .i64 o.off, .string o.dt]] w fun e w' => e = .returned (.agg #[.int .i64 b.t, .int .i64 b.r, .int .i64 b.k, .int .i64 b.a0, .int .i64 b.a1, .int .i64 b.i0, .int .i64 b.i1, .int .i64 b.t0, .int .i64 b.t1, .string b.nm, .string b.nw, .int .i64 b.off, .string b.dt]) ∧ Below w.heap.size w w') := ⟨by rw [HQ.out]; exact ref_Bare o h.1 h.2⟩
  have HK := Hd.mk h
  have hsub : IntKind.i64.wrap ((64 : Int) - (o.dt.size : Int)) = 64 - (o.dt.size : Int) := by rw [IntKind.wrap_i64]; omega
  have hsub2 : wrap64 ((64 : Int) - (o.dt.size : Int)) = 64 - (o.dt.size : Int) := by unfold wrap64; omega
  clear h hq hb hz hs hdt
  go_enter Tryz.func51, Tryz.ntmps51
  go_upto_region 1 with (fail)
  refine world_gen _ K0.out (fun W hK => ?_)
  have K1 := Hd.mk hK
  clear hK K0
  refine st_ 26 (S := fun W_ => Holds w [(w.heap.size, .cells #[.int .i64 o.t, .int .i64 o.r, .int .i64 o.k, .int .i64 o.a0, .int .i64 o.a1, .int .i64 o.i0, .int .i64 o.i1, .int .i64 o.t0, .int .i64 o.t1, .string o.nm, .string o.nw, .int .i64 o.off, .string o.dt] 36 (0, 0))] W_) (ds := []) (K1.out.drew) (fun hHeld => ?_)
  refine pu_ 0 (some 4) ?_
  refine tk_ 1 (some 5) (.int .i64 o.k) rfl (fun w' h => by have c := cell_of_row w' _ 2 _ _ _ (h.get 0 rfl); go_simp) hHeld ?_
  refine pu_ 2 (some 6) ?_
  refine pu_ 3 (some 7) ?_
  refine pu_ 4 (some 8) ?_
  refine tk_ 5 (some 9) (.int .i64 o.k) rfl (fun w' h => by have c := cell_of_row w' _ 2 _ _ _ (h.get 0 rfl); go_simp) hHeld ?_
  refine pu_ 6 (some 10) ?_
  refine pu_ 7 (some 11) ?_
  refine pu_ 8 (some 12) ?_
  refine tk_ 9 (some 13) (.agg #[.int .i64 o.t, .int .i64 o.r, .int .i64 o.k, .int .i64 o.a0, .int .i64 o.a1, .int .i64 o.i0, .int .i64 o.i1, .int .i64 o.t0, .int .i64 o.t1, .string o.nm, .string o.nw, .int .i64 o.off, .string o.dt]) rfl (fun w' h => run_load_mid 36 _ rfl w.heap.size 0 #[.int .i64 o.t, .int .i64 o.r, .int .i64 o.k, .int .i64 o.a0, .int .i64 o.a1, .int .i64 o.i0, .int .i64 o.i1, .int .i64 o.t0, .int .i64 o.t1, .string o.nm, .string o.nw, .int .i64 o.off, .string o.dt].toList rfl _ _ _ (h.get 0 rfl) (fun j v hj => by simpa using hj) _ Tryz.underlying36 rfl size_op13) hHeld ?_
  refine tk_ 11 (some 15) (.agg #[.int .i64 o.t, .int .i64 o.r, .int .i64 o.k, .int .i64 o.a0, .int .i64 o.a1, .int .i64 o.i0, .int .i64 o.i1, .int .i64 o.t0, .int .i64 o.t1, .string o.nm, .string o.nw, .int .i64 o.off, .string o.dt]) rfl (fun w' h => run_load_mid 36 _ rfl w.heap.size 0 #[.int .i64 o.t, .int .i64 o.r, .int .i64 o.k, .int .i64 o.a0, .int .i64 o.a1, .int .i64 o.i0, .int .i64 o.i1, .int .i64 o.t0, .int .i64 o.t1, .string o.nm, .string o.nw, .int .i64 o.off, .string o.dt].toList rfl _ _ _ (h.get 0 rfl) (fun j v hj => by simpa using hj) _ Tryz.underlying36 rfl size_op13) hHeld ?_
  refine cb_ 10 (some 14) Tryz.func84 HBA (fun _ hr => hHeld.call hr) (fun wr11 hHeld => ?_)
  refine tk_ 12 (some 16) (.bool false) rfl (fun w' h => by rw [show false = !eqO b o from by rw [HE.out]; rfl]; go_simp) hHeld ?_
  refine pu_ 13 (some 17) ?_
  refine pu_ 14 (some 18) ?_
  refine pu_ 15 (some 19) ?_
  refine pu_ 16 (some 20) ?_
  refine tk_ 17 (some 21) (.int .i64 o.t) rfl (fun w' h => by have c := cell_of_row w' _ 0 _ _ _ (h.get 0 rfl); go_simp) hHeld ?_
  refine pu_ 18 (some 22) ?_
  refine pu_ 19 (some 23) ?_
  refine pu_ 20 (some 24) ?_
  refine pu_ 21 (some 25) ?_
  refine tk_ 22 (some 26) (.agg #[.int .i64 o.t, .int .i64 o.r]) rfl (fun w' h => run_load_mid 34 _ rfl w.heap.size 0 [.int .i64 o.t, .int .i64 o.r] rfl _ _ _ (h.get 0 rfl) (two_at rfl rfl) _ Tryz.underlying34 rfl size_stamp) hHeld ?_
  refine cb_ 23 (some 27) Tryz.func85 HS (fun _ hr => hHeld.call hr) (fun wr12 hHeld => ?_)
  refine pu_ 24 (some 28) ?_
  refine pu_ 25 (some 29) ?_
  refine done_ (by kernel_rfl) ?_
  clear HBA HE HQ HS ez e1 e2 K1
  go_upto_region 3 with (fail)
  have K := Hd.mk hHeld
  clear hHeld
  generalize mayS o.a0 o.a1 = mA at *
  generalize mayS o.i0 o.i1 = mI at *
  generalize mayS o.t0 o.t1 = mT at *
  generalize nameB o.nm = nB at *
  generalize nameB o.nw = wB at *
  generalize hasB o.dt 0 = hB at *
  generalize dataB o.k o.off o.dt = dB at *
  cases mA with
  | false =>
    have hv : Hd (refMayO o = false) := ⟨by rw [HV.out]; first | rfl | (simp only []; done) | (simp only []; rfl)⟩
    clear HV HD3 HD8 HD9 HD10 HDo HK
    have c0 := cell_of_row _ _ 0 _ _ _ (K.out.get 0 rfl)
    have c1 := cell_of_row _ _ 1 _ _ _ (K.out.get 0 rfl)
    have c2 := cell_of_row _ _ 2 _ _ _ (K.out.get 0 rfl)
    have c3 := cell_of_row _ _ 3 _ _ _ (K.out.get 0 rfl)
    have c4 := cell_of_row _ _ 4 _ _ _ (K.out.get 0 rfl)
    have c5 := cell_of_row _ _ 5 _ _ _ (K.out.get 0 rfl)
    have c6 := cell_of_row _ _ 6 _ _ _ (K.out.get 0 rfl)
    have c7 := cell_of_row _ _ 7 _ _ _ (K.out.get 0 rfl)
    have c8 := cell_of_row _ _ 8 _ _ _ (K.out.get 0 rfl)
    have c9 := cell_of_row _ _ 9 _ _ _ (K.out.get 0 rfl)
    have c10 := cell_of_row _ _ 10 _ _ _ (K.out.get 0 rfl)
    have c11 := cell_of_row _ _ 11 _ _ _ (K.out.get 0 rfl)
    have c12 := cell_of_row _ _ 12 _ _ _ (K.out.get 0 rfl)
    go_wp2_with (first | ((go_at_call 85); (with_reducible refine (HA.out _).mono ?_); rintro e w9 ⟨rfl, hb9⟩; replace K := Hd.mk (K.out.call hb9); have c5 := cell_of_row w9 _ 5 _ _ _ (K.out.get 0 rfl); have c6 := cell_of_row w9 _ 6 _ _ _ (K.out.get 0 rfl); clear hb9))
    go_ret
    exact ⟨by rw [hv.out]; rfl, K.out.2⟩
  | true =>
    cases mI with
    | false =>
      have hv : Hd (refMayO o = false) := ⟨by rw [HV.out]; first | rfl | (simp only []; done) | (simp only []; rfl)⟩
      clear HV HD3 HD8 HD9 HD10 HDo HK
      have c0 := cell_of_row _ _ 0 _ _ _ (K.out.get 0 rfl)
      have c1 := cell_of_row _ _ 1 _ _ _ (K.out.get 0 rfl)
      have c2 := cell_of_row _ _ 2 _ _ _ (K.out.get 0 rfl)
      have c3 := cell_of_row _ _ 3 _ _ _ (K.out.get 0 rfl)
      have c4 := cell_of_row _ _ 4 _ _ _ (K.out.get 0 rfl)
      have c5 := cell_of_row _ _ 5 _ _ _ (K.out.get 0 rfl)
      have c6 := cell_of_row _ _ 6 _ _ _ (K.out.get 0 rfl)
      have c7 := cell_of_row _ _ 7 _ _ _ (K.out.get 0 rfl)
      have c8 := cell_of_row _ _ 8 _ _ _ (K.out.get 0 rfl)
      have c9 := cell_of_row _ _ 9 _ _ _ (K.out.get 0 rfl)
      have c10 := cell_of_row _ _ 10 _ _ _ (K.out.get 0 rfl)
      have c11 := cell_of_row _ _ 11 _ _ _ (K.out.get 0 rfl)
      have c12 := cell_of_row _ _ 12 _ _ _ (K.out.get 0 rfl)
      go_wp2_with (first | ((go_at_call 85); (with_reducible refine (HA.out _).mono ?_); rintro e w9 ⟨rfl, hb9⟩; replace K := Hd.mk (K.out.call hb9); have c5 := cell_of_row w9 _ 5 _ _ _ (K.out.get 0 rfl); have c6 := cell_of_row w9 _ 6 _ _ _ (K.out.get 0 rfl); clear hb9) | ((go_at_call 85); (with_reducible refine (HI.out _).mono ?_); rintro e w9 ⟨rfl, hb9⟩; replace K := Hd.mk (K.out.call hb9); have c7 := cell_of_row w9 _ 7 _ _ _ (K.out.get 0 rfl); have c8 := cell_of_row w9 _ 8 _ _ _ (K.out.get 0 rfl); clear hb9))
      go_ret
      exact ⟨by rw [hv.out]; rfl, K.out.2⟩
    | true =>
      cases mT with
      | false =>
        have hv : Hd (refMayO o = false) := ⟨by rw [HV.out]; first | rfl | (simp only []; done) | (simp only []; rfl)⟩
        clear HV HD3 HD8 HD9 HD10 HDo HK
        have c0 := cell_of_row _ _ 0 _ _ _ (K.out.get 0 rfl)
        have c1 := cell_of_row _ _ 1 _ _ _ (K.out.get 0 rfl)
        have c2 := cell_of_row _ _ 2 _ _ _ (K.out.get 0 rfl)
        have c3 := cell_of_row _ _ 3 _ _ _ (K.out.get 0 rfl)
        have c4 := cell_of_row _ _ 4 _ _ _ (K.out.get 0 rfl)
        have c5 := cell_of_row _ _ 5 _ _ _ (K.out.get 0 rfl)
        have c6 := cell_of_row _ _ 6 _ _ _ (K.out.get 0 rfl)
        have c7 := cell_of_row _ _ 7 _ _ _ (K.out.get 0 rfl)
        have c8 := cell_of_row _ _ 8 _ _ _ (K.out.get 0 rfl)
        have c9 := cell_of_row _ _ 9 _ _ _ (K.out.get 0 rfl)
        have c10 := cell_of_row _ _ 10 _ _ _ (K.out.get 0 rfl)
        have c11 := cell_of_row _ _ 11 _ _ _ (K.out.get 0 rfl)
        have c12 := cell_of_row _ _ 12 _ _ _ (K.out.get 0 rfl)
        go_wp2_with (first | ((go_at_call 85); (with_reducible refine (HA.out _).mono ?_); rintro e w9 ⟨rfl, hb9⟩; replace K := Hd.mk (K.out.call hb9); have c5 := cell_of_row w9 _ 5 _ _ _ (K.out.get 0 rfl); have c6 := cell_of_row w9 _ 6 _ _ _ (K.out.get 0 rfl); clear hb9) | ((go_at_call 85); (with_reducible refine (HI.out _).mono ?_); rintro e w9 ⟨rfl, hb9⟩; replace K := Hd.mk (K.out.call hb9); have c7 := cell_of_row w9 _ 7 _ _ _ (K.out.get 0 rfl); have c8 := cell_of_row w9 _ 8 _ _ _ (K.out.get 0 rfl); clear hb9) | ((go_at_call 85); (with_reducible refine (HT.out _).mono ?_); rintro e w9 ⟨rfl, hb9⟩; replace K := Hd.mk (K.out.call hb9); have c2 := cell_of_row w9 _ 2 _ _ _ (K.out.get 0 rfl); have c9 := cell_of_row w9 _ 9 _ _ _ (K.out.get 0 rfl); have c10 := cell_of_row w9 _ 10 _ _ _ (K.out.get 0 rfl); have c11 := cell_of_row w9 _ 11 _ _ _ (K.out.get 0 rfl); have c12 := cell_of_row w9 _ 12 _ _ _ (K.out.get 0 rfl); clear hb9))
        go_ret
        exact ⟨by rw [hv.out]; rfl, K.out.2⟩
      | true =>
        by_cases h7 : o.k ≤ 7
        · have e7 : decide (o.k ≤ 7) = true := decide_eq_true h7
          cases nB with
          | false =>
            have hv : Hd (refMayO o = false) := ⟨by rw [HV.out]; first | rfl | (simp only [e7]; done) | (simp only [e7]; rfl)⟩
            clear HV HD3 HD8 HD9 HD10 HDo HK
            have c0 := cell_of_row _ _ 0 _ _ _ (K.out.get 0 rfl)
            have c1 := cell_of_row _ _ 1 _ _ _ (K.out.get 0 rfl)
            have c2 := cell_of_row _ _ 2 _ _ _ (K.out.get 0 rfl)
            have c3 := cell_of_row _ _ 3 _ _ _ (K.out.get 0 rfl)
            have c4 := cell_of_row _ _ 4 _ _ _ (K.out.get 0 rfl)
            have c5 := cell_of_row _ _ 5 _ _ _ (K.out.get 0 rfl)
            have c6 := cell_of_row _ _ 6 _ _ _ (K.out.get 0 rfl)
            have c7 := cell_of_row _ _ 7 _ _ _ (K.out.get 0 rfl)
            have c8 := cell_of_row _ _ 8 _ _ _ (K.out.get 0 rfl)
            have c9 := cell_of_row _ _ 9 _ _ _ (K.out.get 0 rfl)
            have c10 := cell_of_row _ _ 10 _ _ _ (K.out.get 0 rfl)
            have c11 := cell_of_row _ _ 11 _ _ _ (K.out.get 0 rfl)
            have c12 := cell_of_row _ _ 12 _ _ _ (K.out.get 0 rfl)
            go_wp2_with (first | ((go_at_call 85); (with_reducible refine (HA.out _).mono ?_); rintro e w9 ⟨rfl, hb9⟩; replace K := Hd.mk (K.out.call hb9); have c5 := cell_of_row w9 _ 5 _ _ _ (K.out.get 0 rfl); have c6 := cell_of_row w9 _ 6 _ _ _ (K.out.get 0 rfl); clear hb9) | ((go_at_call 85); (with_reducible refine (HI.out _).mono ?_); rintro e w9 ⟨rfl, hb9⟩; replace K := Hd.mk (K.out.call hb9); have c7 := cell_of_row w9 _ 7 _ _ _ (K.out.get 0 rfl); have c8 := cell_of_row w9 _ 8 _ _ _ (K.out.get 0 rfl); clear hb9) | ((go_at_call 85); (with_reducible refine (HT.out _).mono ?_); rintro e w9 ⟨rfl, hb9⟩; replace K := Hd.mk (K.out.call hb9); have c2 := cell_of_row w9 _ 2 _ _ _ (K.out.get 0 rfl); have c9 := cell_of_row w9 _ 9 _ _ _ (K.out.get 0 rfl); have c10 := cell_of_row w9 _ 10 _ _ _ (K.out.get 0 rfl); have c11 := cell_of_row w9 _ 11 _ _ _ (K.out.get 0 rfl); have c12 := cell_of_row w9 _ 12 _ _ _ (K.out.get 0 rfl); clear hb9) | ((go_at_call 86); (with_reducible refine (HN.out _).mono ?_); rintro e w9 ⟨rfl, hb9⟩; replace K := Hd.mk (K.out.call hb9); have c2 := cell_of_row w9 _ 2 _ _ _ (K.out.get 0 rfl); have c10 := cell_of_row w9 _ 10 _ _ _ (K.out.get 0 rfl); have c11 := cell_of_row w9 _ 11 _ _ _ (K.out.get 0 rfl); have c12 := cell_of_row w9 _ 12 _ _ _ (K.out.get 0 rfl); clear hb9))
            go_ret
            exact ⟨by rw [hv.out]; rfl, K.out.2⟩
          | true =>
            by_cases hk7 : o.k = 7
            · have q7 : (o.k == 7) = true := by rw [beq_iff_eq]; omega
              have q3 : (o.k == 3) = false := by rw [beq_eq_false_iff_ne]; omega
              have q8 : (o.k == 8) = false := by rw [beq_eq_false_iff_ne]; omega
              have q9 : (o.k == 9) = false := by rw [beq_eq_false_iff_ne]; omega
              have q10 : (o.k == 10) = false := by rw [beq_eq_false_iff_ne]; omega
              have hd := HDo.out (by omega) (by omega) (by omega) (by omega)
              have HDD := Hd.mk hd
              clear hd h7 hk7
              cases wB with
              | false =>
                have hv : Hd (refMayO o = false) := ⟨by rw [HV.out]; first | rfl | (simp only [e7, q7]; done) | (simp only [e7, q7]; rfl)⟩
                clear HV HD3 HD8 HD9 HD10 HDo HK
                have c0 := cell_of_row _ _ 0 _ _ _ (K.out.get 0 rfl)
                have c1 := cell_of_row _ _ 1 _ _ _ (K.out.get 0 rfl)
                have c2 := cell_of_row _ _ 2 _ _ _ (K.out.get 0 rfl)
                have c3 := cell_of_row _ _ 3 _ _ _ (K.out.get 0 rfl)
                have c4 := cell_of_row _ _ 4 _ _ _ (K.out.get 0 rfl)
                have c5 := cell_of_row _ _ 5 _ _ _ (K.out.get 0 rfl)
                have c6 := cell_of_row _ _ 6 _ _ _ (K.out.get 0 rfl)
                have c7 := cell_of_row _ _ 7 _ _ _ (K.out.get 0 rfl)
                have c8 := cell_of_row _ _ 8 _ _ _ (K.out.get 0 rfl)
                have c9 := cell_of_row _ _ 9 _ _ _ (K.out.get 0 rfl)
                have c10 := cell_of_row _ _ 10 _ _ _ (K.out.get 0 rfl)
                have c11 := cell_of_row _ _ 11 _ _ _ (K.out.get 0 rfl)
                have c12 := cell_of_row _ _ 12 _ _ _ (K.out.get 0 rfl)
                go_wp2_with (first | ((go_at_call 85); (with_reducible refine (HA.out _).mono ?_); rintro e w9 ⟨rfl, hb9⟩; replace K := Hd.mk (K.out.call hb9); have c5 := cell_of_row w9 _ 5 _ _ _ (K.out.get 0 rfl); have c6 := cell_of_row w9 _ 6 _ _ _ (K.out.get 0 rfl); clear hb9) | ((go_at_call 85); (with_reducible refine (HI.out _).mono ?_); rintro e w9 ⟨rfl, hb9⟩; replace K := Hd.mk (K.out.call hb9); have c7 := cell_of_row w9 _ 7 _ _ _ (K.out.get 0 rfl); have c8 := cell_of_row w9 _ 8 _ _ _ (K.out.get 0 rfl); clear hb9) | ((go_at_call 85); (with_reducible refine (HT.out _).mono ?_); rintro e w9 ⟨rfl, hb9⟩; replace K := Hd.mk (K.out.call hb9); have c2 := cell_of_row w9 _ 2 _ _ _ (K.out.get 0 rfl); have c9 := cell_of_row w9 _ 9 _ _ _ (K.out.get 0 rfl); have c10 := cell_of_row w9 _ 10 _ _ _ (K.out.get 0 rfl); have c11 := cell_of_row w9 _ 11 _ _ _ (K.out.get 0 rfl); have c12 := cell_of_row w9 _ 12 _ _ _ (K.out.get 0 rfl); clear hb9) | ((go_at_call 86); (with_reducible refine (HN.out _).mono ?_); rintro e w9 ⟨rfl, hb9⟩; replace K := Hd.mk (K.out.call hb9); have c2 := cell_of_row w9 _ 2 _ _ _ (K.out.get 0 rfl); have c10 := cell_of_row w9 _ 10 _ _ _ (K.out.get 0 rfl); have c11 := cell_of_row w9 _ 11 _ _ _ (K.out.get 0 rfl); have c12 := cell_of_row w9 _ 12 _ _ _ (K.out.get 0 rfl); clear hb9) | ((go_at_call 86); (with_reducible refine (HW.out _).mono ?_); rintro e w9 ⟨rfl, hb9⟩; replace K := Hd.mk (K.out.call hb9); have c2 := cell_of_row w9 _ 2 _ _ _ (K.out.get 0 rfl); have c11 := cell_of_row w9 _ 11 _ _ _ (K.out.get 0 rfl); have c12 := cell_of_row w9 _ 12 _ _ _ (K.out.get 0 rfl); clear hb9))
                go_ret
                exact ⟨by rw [hv.out]; rfl, K.out.2⟩
              | true =>
                have hv : Hd (refMayO o = true) := ⟨by rw [HV.out, HDD.out]; first | rfl | (simp only [e7, q7]; done) | (simp only [e7, q7]; rfl)⟩
                clear HV HD3 HD8 HD9 HD10 HDo HK
                have c0 := cell_of_row _ _ 0 _ _ _ (K.out.get 0 rfl)
                have c1 := cell_of_row _ _ 1 _ _ _ (K.out.get 0 rfl)
                have c2 := cell_of_row _ _ 2 _ _ _ (K.out.get 0 rfl)
                have c3 := cell_of_row _ _ 3 _ _ _ (K.out.get 0 rfl)
                have c4 := cell_of_row _ _ 4 _ _ _ (K.out.get 0 rfl)
                have c5 := cell_of_row _ _ 5 _ _ _ (K.out.get 0 rfl)
                have c6 := cell_of_row _ _ 6 _ _ _ (K.out.get 0 rfl)
                have c7 := cell_of_row _ _ 7 _ _ _ (K.out.get 0 rfl)
                have c8 := cell_of_row _ _ 8 _ _ _ (K.out.get 0 rfl)
                have c9 := cell_of_row _ _ 9 _ _ _ (K.out.get 0 rfl)
                have c10 := cell_of_row _ _ 10 _ _ _ (K.out.get 0 rfl)
                have c11 := cell_of_row _ _ 11 _ _ _ (K.out.get 0 rfl)
                have c12 := cell_of_row _ _ 12 _ _ _ (K.out.get 0 rfl)
                go_wp2_with (first | ((go_at_call 85); (with_reducible refine (HA.out _).mono ?_); rintro e w9 ⟨rfl, hb9⟩; replace K := Hd.mk (K.out.call hb9); have c5 := cell_of_row w9 _ 5 _ _ _ (K.out.get 0 rfl); have c6 := cell_of_row w9 _ 6 _ _ _ (K.out.get 0 rfl); clear hb9) | ((go_at_call 85); (with_reducible refine (HI.out _).mono ?_); rintro e w9 ⟨rfl, hb9⟩; replace K := Hd.mk (K.out.call hb9); have c7 := cell_of_row w9 _ 7 _ _ _ (K.out.get 0 rfl); have c8 := cell_of_row w9 _ 8 _ _ _ (K.out.get 0 rfl); clear hb9) | ((go_at_call 85); (with_reducible refine (HT.out _).mono ?_); rintro e w9 ⟨rfl, hb9⟩; replace K := Hd.mk (K.out.call hb9); have c2 := cell_of_row w9 _ 2 _ _ _ (K.out.get 0 rfl); have c9 := cell_of_row w9 _ 9 _ _ _ (K.out.get 0 rfl); have c10 := cell_of_row w9 _ 10 _ _ _ (K.out.get 0 rfl); have c11 := cell_of_row w9 _ 11 _ _ _ (K.out.get 0 rfl); have c12 := cell_of_row w9 _ 12 _ _ _ (K.out.get 0 rfl); clear hb9) | ((go_at_call 86); (with_reducible refine (HN.out _).mono ?_); rintro e w9 ⟨rfl, hb9⟩; replace K := Hd.mk (K.out.call hb9); have c2 := cell_of_row w9 _ 2 _ _ _ (K.out.get 0 rfl); have c10 := cell_of_row w9 _ 10 _ _ _ (K.out.get 0 rfl); have c11 := cell_of_row w9 _ 11 _ _ _ (K.out.get 0 rfl); have c12 := cell_of_row w9 _ 12 _ _ _ (K.out.get 0 rfl); clear hb9) | ((go_at_call 86); (with_reducible refine (HW.out _).mono ?_); rintro e w9 ⟨rfl, hb9⟩; replace K := Hd.mk (K.out.call hb9); have c2 := cell_of_row w9 _ 2 _ _ _ (K.out.get 0 rfl); have c11 := cell_of_row w9 _ 11 _ _ _ (K.out.get 0 rfl); have c12 := cell_of_row w9 _ 12 _ _ _ (K.out.get 0 rfl); clear hb9))
                go_ret
                exact ⟨by rw [hv.out]; rfl, K.out.2⟩
            · have q7 : (o.k == 7) = false := by rw [beq_eq_false_iff_ne]; omega
              by_cases hk3 : o.k = 3
              · have q3 : (o.k == 3) = true := by rw [beq_iff_eq]; omega
                have q8 : (o.k == 8) = false := by rw [beq_eq_false_iff_ne]; omega
                have q9 : (o.k == 9) = false := by rw [beq_eq_false_iff_ne]; omega
                have q10 : (o.k == 10) = false := by rw [beq_eq_false_iff_ne]; omega
                have HDD := Hd.mk (HD3.out hk3)
                clear h7 hk7 hk3
                by_cases tu1 : (1 : Int) ≤ (o.dt.size : Int)
                · have u1 : decide ((1 : Int) ≤ (o.dt.size : Int)) = true := decide_eq_true tu1
                  clear tu1
                  by_cases tu2 : (o.dt.size : Int) ≤ 32
                  · have u2 : decide ((o.dt.size : Int) ≤ 32) = true := decide_eq_true tu2
                    clear tu2
                    cases hB with
                    | true =>
                      have hv : Hd (refMayO o = false) := ⟨by rw [HV.out, HDD.out]; first | rfl | (simp only [e7, q7, u1, u2]; done) | (simp only [e7, q7, u1, u2]; rfl)⟩
                      clear HV HD3 HD8 HD9 HD10 HDo HK
                      have c0 := cell_of_row _ _ 0 _ _ _ (K.out.get 0 rfl)
                      have c1 := cell_of_row _ _ 1 _ _ _ (K.out.get 0 rfl)
                      have c2 := cell_of_row _ _ 2 _ _ _ (K.out.get 0 rfl)
                      have c3 := cell_of_row _ _ 3 _ _ _ (K.out.get 0 rfl)
                      have c4 := cell_of_row _ _ 4 _ _ _ (K.out.get 0 rfl)
                      have c5 := cell_of_row _ _ 5 _ _ _ (K.out.get 0 rfl)
                      have c6 := cell_of_row _ _ 6 _ _ _ (K.out.get 0 rfl)
                      have c7 := cell_of_row _ _ 7 _ _ _ (K.out.get 0 rfl)
                      have c8 := cell_of_row _ _ 8 _ _ _ (K.out.get 0 rfl)
                      have c9 := cell_of_row _ _ 9 _ _ _ (K.out.get 0 rfl)
                      have c10 := cell_of_row _ _ 10 _ _ _ (K.out.get 0 rfl)
                      have c11 := cell_of_row _ _ 11 _ _ _ (K.out.get 0 rfl)
                      have c12 := cell_of_row _ _ 12 _ _ _ (K.out.get 0 rfl)
                      go_wp2_with (first | ((go_at_call 85); (with_reducible refine (HA.out _).mono ?_); rintro e w9 ⟨rfl, hb9⟩; replace K := Hd.mk (K.out.call hb9); have c5 := cell_of_row w9 _ 5 _ _ _ (K.out.get 0 rfl); have c6 := cell_of_row w9 _ 6 _ _ _ (K.out.get 0 rfl); clear hb9) | ((go_at_call 85); (with_reducible refine (HI.out _).mono ?_); rintro e w9 ⟨rfl, hb9⟩; replace K := Hd.mk (K.out.call hb9); have c7 := cell_of_row w9 _ 7 _ _ _ (K.out.get 0 rfl); have c8 := cell_of_row w9 _ 8 _ _ _ (K.out.get 0 rfl); clear hb9) | ((go_at_call 85); (with_reducible refine (HT.out _).mono ?_); rintro e w9 ⟨rfl, hb9⟩; replace K := Hd.mk (K.out.call hb9); have c2 := cell_of_row w9 _ 2 _ _ _ (K.out.get 0 rfl); have c9 := cell_of_row w9 _ 9 _ _ _ (K.out.get 0 rfl); have c10 := cell_of_row w9 _ 10 _ _ _ (K.out.get 0 rfl); have c11 := cell_of_row w9 _ 11 _ _ _ (K.out.get 0 rfl); have c12 := cell_of_row w9 _ 12 _ _ _ (K.out.get 0 rfl); clear hb9) | ((go_at_call 86); (with_reducible refine (HN.out _).mono ?_); rintro e w9 ⟨rfl, hb9⟩; replace K := Hd.mk (K.out.call hb9); have c2 := cell_of_row w9 _ 2 _ _ _ (K.out.get 0 rfl); have c10 := cell_of_row w9 _ 10 _ _ _ (K.out.get 0 rfl); have c11 := cell_of_row w9 _ 11 _ _ _ (K.out.get 0 rfl); have c12 := cell_of_row w9 _ 12 _ _ _ (K.out.get 0 rfl); clear hb9) | ((go_at_call 87); (with_reducible refine (HH.out _).mono ?_); rintro e w9 ⟨rfl, hb9⟩; replace K := Hd.mk (K.out.call hb9);  clear hb9))
                      go_ret
                      exact ⟨by rw [hv.out]; rfl, K.out.2⟩
                    | false =>
                      have hv : Hd (refMayO o = true) := ⟨by rw [HV.out, HDD.out]; first | rfl | (simp only [e7, q7, u1, u2]; done) | (simp only [e7, q7, u1, u2]; rfl)⟩
                      clear HV HD3 HD8 HD9 HD10 HDo HK
                      have c0 := cell_of_row _ _ 0 _ _ _ (K.out.get 0 rfl)
                      have c1 := cell_of_row _ _ 1 _ _ _ (K.out.get 0 rfl)
                      have c2 := cell_of_row _ _ 2 _ _ _ (K.out.get 0 rfl)
                      have c3 := cell_of_row _ _ 3 _ _ _ (K.out.get 0 rfl)
                      have c4 := cell_of_row _ _ 4 _ _ _ (K.out.get 0 rfl)
                      have c5 := cell_of_row _ _ 5 _ _ _ (K.out.get 0 rfl)
                      have c6 := cell_of_row _ _ 6 _ _ _ (K.out.get 0 rfl)
                      have c7 := cell_of_row _ _ 7 _ _ _ (K.out.get 0 rfl)
                      have c8 := cell_of_row _ _ 8 _ _ _ (K.out.get 0 rfl)
                      have c9 := cell_of_row _ _ 9 _ _ _ (K.out.get 0 rfl)
                      have c10 := cell_of_row _ _ 10 _ _ _ (K.out.get 0 rfl)
                      have c11 := cell_of_row _ _ 11 _ _ _ (K.out.get 0 rfl)
                      have c12 := cell_of_row _ _ 12 _ _ _ (K.out.get 0 rfl)
                      go_wp2_with (first | ((go_at_call 85); (with_reducible refine (HA.out _).mono ?_); rintro e w9 ⟨rfl, hb9⟩; replace K := Hd.mk (K.out.call hb9); have c5 := cell_of_row w9 _ 5 _ _ _ (K.out.get 0 rfl); have c6 := cell_of_row w9 _ 6 _ _ _ (K.out.get 0 rfl); clear hb9) | ((go_at_call 85); (with_reducible refine (HI.out _).mono ?_); rintro e w9 ⟨rfl, hb9⟩; replace K := Hd.mk (K.out.call hb9); have c7 := cell_of_row w9 _ 7 _ _ _ (K.out.get 0 rfl); have c8 := cell_of_row w9 _ 8 _ _ _ (K.out.get 0 rfl); clear hb9) | ((go_at_call 85); (with_reducible refine (HT.out _).mono ?_); rintro e w9 ⟨rfl, hb9⟩; replace K := Hd.mk (K.out.call hb9); have c2 := cell_of_row w9 _ 2 _ _ _ (K.out.get 0 rfl); have c9 := cell_of_row w9 _ 9 _ _ _ (K.out.get 0 rfl); have c10 := cell_of_row w9 _ 10 _ _ _ (K.out.get 0 rfl); have c11 := cell_of_row w9 _ 11 _ _ _ (K.out.get 0 rfl); have c12 := cell_of_row w9 _ 12 _ _ _ (K.out.get 0 rfl); clear hb9) | ((go_at_call 86); (with_reducible refine (HN.out _).mono ?_); rintro e w9 ⟨rfl, hb9⟩; replace K := Hd.mk (K.out.call hb9); have c2 := cell_of_row w9 _ 2 _ _ _ (K.out.get 0 rfl); have c10 := cell_of_row w9 _ 10 _ _ _ (K.out.get 0 rfl); have c11 := cell_of_row w9 _ 11 _ _ _ (K.out.get 0 rfl); have c12 := cell_of_row w9 _ 12 _ _ _ (K.out.get 0 rfl); clear hb9) | ((go_at_call 87); (with_reducible refine (HH.out _).mono ?_); rintro e w9 ⟨rfl, hb9⟩; replace K := Hd.mk (K.out.call hb9);  clear hb9))
                      go_ret
                      exact ⟨by rw [hv.out]; rfl, K.out.2⟩
                  · have u2 : decide ((o.dt.size : Int) ≤ 32) = false := decide_eq_false tu2
                    clear tu2
                    have hv : Hd (refMayO o = false) := ⟨by rw [HV.out, HDD.out]; first | rfl | (simp only [e7, q7, u1, u2]; done) | (simp only [e7, q7, u1, u2]; rfl)⟩
                    clear HV HD3 HD8 HD9 HD10 HDo HK
                    have c0 := cell_of_row _ _ 0 _ _ _ (K.out.get 0 rfl)
                    have c1 := cell_of_row _ _ 1 _ _ _ (K.out.get 0 rfl)
                    have c2 := cell_of_row _ _ 2 _ _ _ (K.out.get 0 rfl)
                    have c3 := cell_of_row _ _ 3 _ _ _ (K.out.get 0 rfl)
                    have c4 := cell_of_row _ _ 4 _ _ _ (K.out.get 0 rfl)
                    have c5 := cell_of_row _ _ 5 _ _ _ (K.out.get 0 rfl)
                    have c6 := cell_of_row _ _ 6 _ _ _ (K.out.get 0 rfl)
                    have c7 := cell_of_row _ _ 7 _ _ _ (K.out.get 0 rfl)
                    have c8 := cell_of_row _ _ 8 _ _ _ (K.out.get 0 rfl)
                    have c9 := cell_of_row _ _ 9 _ _ _ (K.out.get 0 rfl)
                    have c10 := cell_of_row _ _ 10 _ _ _ (K.out.get 0 rfl)
                    have c11 := cell_of_row _ _ 11 _ _ _ (K.out.get 0 rfl)
                    have c12 := cell_of_row _ _ 12 _ _ _ (K.out.get 0 rfl)
                    go_wp2_with (first | ((go_at_call 85); (with_reducible refine (HA.out _).mono ?_); rintro e w9 ⟨rfl, hb9⟩; replace K := Hd.mk (K.out.call hb9); have c5 := cell_of_row w9 _ 5 _ _ _ (K.out.get 0 rfl); have c6 := cell_of_row w9 _ 6 _ _ _ (K.out.get 0 rfl); clear hb9) | ((go_at_call 85); (with_reducible refine (HI.out _).mono ?_); rintro e w9 ⟨rfl, hb9⟩; replace K := Hd.mk (K.out.call hb9); have c7 := cell_of_row w9 _ 7 _ _ _ (K.out.get 0 rfl); have c8 := cell_of_row w9 _ 8 _ _ _ (K.out.get 0 rfl); clear hb9) | ((go_at_call 85); (with_reducible refine (HT.out _).mono ?_); rintro e w9 ⟨rfl, hb9⟩; replace K := Hd.mk (K.out.call hb9); have c2 := cell_of_row w9 _ 2 _ _ _ (K.out.get 0 rfl); have c9 := cell_of_row w9 _ 9 _ _ _ (K.out.get 0 rfl); have c10 := cell_of_row w9 _ 10 _ _ _ (K.out.get 0 rfl); have c11 := cell_of_row w9 _ 11 _ _ _ (K.out.get 0 rfl); have c12 := cell_of_row w9 _ 12 _ _ _ (K.out.get 0 rfl); clear hb9) | ((go_at_call 86); (with_reducible refine (HN.out _).mono ?_); rintro e w9 ⟨rfl, hb9⟩; replace K := Hd.mk (K.out.call hb9); have c2 := cell_of_row w9 _ 2 _ _ _ (K.out.get 0 rfl); have c10 := cell_of_row w9 _ 10 _ _ _ (K.out.get 0 rfl); have c11 := cell_of_row w9 _ 11 _ _ _ (K.out.get 0 rfl); have c12 := cell_of_row w9 _ 12 _ _ _ (K.out.get 0 rfl); clear hb9) | ((go_at_call 87); (with_reducible refine (HH.out _).mono ?_); rintro e w9 ⟨rfl, hb9⟩; replace K := Hd.mk (K.out.call hb9);  clear hb9))
                    go_ret
                    exact ⟨by rw [hv.out]; rfl, K.out.2⟩
                · have u1 : decide ((1 : Int) ≤ (o.dt.size : Int)) = false := decide_eq_false tu1
                  clear tu1
                  have hv : Hd (refMayO o = false) := ⟨by rw [HV.out, HDD.out]; first | rfl | (simp only [e7, q7, u1]; done) | (simp only [e7, q7, u1]; rfl)⟩
                  clear HV HD3 HD8 HD9 HD10 HDo HK
                  have c0 := cell_of_row _ _ 0 _ _ _ (K.out.get 0 rfl)
                  have c1 := cell_of_row _ _ 1 _ _ _ (K.out.get 0 rfl)
                  have c2 := cell_of_row _ _ 2 _ _ _ (K.out.get 0 rfl)
                  have c3 := cell_of_row _ _ 3 _ _ _ (K.out.get 0 rfl)
                  have c4 := cell_of_row _ _ 4 _ _ _ (K.out.get 0 rfl)
                  have c5 := cell_of_row _ _ 5 _ _ _ (K.out.get 0 rfl)
                  have c6 := cell_of_row _ _ 6 _ _ _ (K.out.get 0 rfl)
                  have c7 := cell_of_row _ _ 7 _ _ _ (K.out.get 0 rfl)
                  have c8 := cell_of_row _ _ 8 _ _ _ (K.out.get 0 rfl)
                  have c9 := cell_of_row _ _ 9 _ _ _ (K.out.get 0 rfl)
                  have c10 := cell_of_row _ _ 10 _ _ _ (K.out.get 0 rfl)
                  have c11 := cell_of_row _ _ 11 _ _ _ (K.out.get 0 rfl)
                  have c12 := cell_of_row _ _ 12 _ _ _ (K.out.get 0 rfl)
                  go_wp2_with (first | ((go_at_call 85); (with_reducible refine (HA.out _).mono ?_); rintro e w9 ⟨rfl, hb9⟩; replace K := Hd.mk (K.out.call hb9); have c5 := cell_of_row w9 _ 5 _ _ _ (K.out.get 0 rfl); have c6 := cell_of_row w9 _ 6 _ _ _ (K.out.get 0 rfl); clear hb9) | ((go_at_call 85); (with_reducible refine (HI.out _).mono ?_); rintro e w9 ⟨rfl, hb9⟩; replace K := Hd.mk (K.out.call hb9); have c7 := cell_of_row w9 _ 7 _ _ _ (K.out.get 0 rfl); have c8 := cell_of_row w9 _ 8 _ _ _ (K.out.get 0 rfl); clear hb9) | ((go_at_call 85); (with_reducible refine (HT.out _).mono ?_); rintro e w9 ⟨rfl, hb9⟩; replace K := Hd.mk (K.out.call hb9); have c2 := cell_of_row w9 _ 2 _ _ _ (K.out.get 0 rfl); have c9 := cell_of_row w9 _ 9 _ _ _ (K.out.get 0 rfl); have c10 := cell_of_row w9 _ 10 _ _ _ (K.out.get 0 rfl); have c11 := cell_of_row w9 _ 11 _ _ _ (K.out.get 0 rfl); have c12 := cell_of_row w9 _ 12 _ _ _ (K.out.get 0 rfl); clear hb9) | ((go_at_call 86); (with_reducible refine (HN.out _).mono ?_); rintro e w9 ⟨rfl, hb9⟩; replace K := Hd.mk (K.out.call hb9); have c2 := cell_of_row w9 _ 2 _ _ _ (K.out.get 0 rfl); have c10 := cell_of_row w9 _ 10 _ _ _ (K.out.get 0 rfl); have c11 := cell_of_row w9 _ 11 _ _ _ (K.out.get 0 rfl); have c12 := cell_of_row w9 _ 12 _ _ _ (K.out.get 0 rfl); clear hb9) | ((go_at_call 87); (with_reducible refine (HH.out _).mono ?_); rintro e w9 ⟨rfl, hb9⟩; replace K := Hd.mk (K.out.call hb9);  clear hb9))
                  go_ret
                  exact ⟨by rw [hv.out]; rfl, K.out.2⟩
              · have q3 : (o.k == 3) = false := by rw [beq_eq_false_iff_ne]; omega
                have q8 : (o.k == 8) = false := by rw [beq_eq_false_iff_ne]; omega
                have q9 : (o.k == 9) = false := by rw [beq_eq_false_iff_ne]; omega
                have q10 : (o.k == 10) = false := by rw [beq_eq_false_iff_ne]; omega
                have HDD := Hd.mk (HDo.out (by omega) (by omega) (by omega) (by omega))
                clear h7 hk7 hk3
                have hv : Hd (refMayO o = true) := ⟨by rw [HV.out, HDD.out]; first | rfl | (simp only [e7, q7]; done) | (simp only [e7, q7]; rfl)⟩
                clear HV HD3 HD8 HD9 HD10 HDo HK
                have c0 := cell_of_row _ _ 0 _ _ _ (K.out.get 0 rfl)
                have c1 := cell_of_row _ _ 1 _ _ _ (K.out.get 0 rfl)
                have c2 := cell_of_row _ _ 2 _ _ _ (K.out.get 0 rfl)
                have c3 := cell_of_row _ _ 3 _ _ _ (K.out.get 0 rfl)
                have c4 := cell_of_row _ _ 4 _ _ _ (K.out.get 0 rfl)
                have c5 := cell_of_row _ _ 5 _ _ _ (K.out.get 0 rfl)
                have c6 := cell_of_row _ _ 6 _ _ _ (K.out.get 0 rfl)
                have c7 := cell_of_row _ _ 7 _ _ _ (K.out.get 0 rfl)
                have c8 := cell_of_row _ _ 8 _ _ _ (K.out.get 0 rfl)
                have c9 := cell_of_row _ _ 9 _ _ _ (K.out.get 0 rfl)
                have c10 := cell_of_row _ _ 10 _ _ _ (K.out.get 0 rfl)
                have c11 := cell_of_row _ _ 11 _ _ _ (K.out.get 0 rfl)
                have c12 := cell_of_row _ _ 12 _ _ _ (K.out.get 0 rfl)
                go_wp2_with (first | ((go_at_call 85); (with_reducible refine (HA.out _).mono ?_); rintro e w9 ⟨rfl, hb9⟩; replace K := Hd.mk (K.out.call hb9); have c5 := cell_of_row w9 _ 5 _ _ _ (K.out.get 0 rfl); have c6 := cell_of_row w9 _ 6 _ _ _ (K.out.get 0 rfl); clear hb9) | ((go_at_call 85); (with_reducible refine (HI.out _).mono ?_); rintro e w9 ⟨rfl, hb9⟩; replace K := Hd.mk (K.out.call hb9); have c7 := cell_of_row w9 _ 7 _ _ _ (K.out.get 0 rfl); have c8 := cell_of_row w9 _ 8 _ _ _ (K.out.get 0 rfl); clear hb9) | ((go_at_call 85); (with_reducible refine (HT.out _).mono ?_); rintro e w9 ⟨rfl, hb9⟩; replace K := Hd.mk (K.out.call hb9); have c2 := cell_of_row w9 _ 2 _ _ _ (K.out.get 0 rfl); have c9 := cell_of_row w9 _ 9 _ _ _ (K.out.get 0 rfl); have c10 := cell_of_row w9 _ 10 _ _ _ (K.out.get 0 rfl); have c11 := cell_of_row w9 _ 11 _ _ _ (K.out.get 0 rfl); have c12 := cell_of_row w9 _ 12 _ _ _ (K.out.get 0 rfl); clear hb9) | ((go_at_call 86); (with_reducible refine (HN.out _).mono ?_); rintro e w9 ⟨rfl, hb9⟩; replace K := Hd.mk (K.out.call hb9); have c2 := cell_of_row w9 _ 2 _ _ _ (K.out.get 0 rfl); have c10 := cell_of_row w9 _ 10 _ _ _ (K.out.get 0 rfl); have c11 := cell_of_row w9 _ 11 _ _ _ (K.out.get 0 rfl); have c12 := cell_of_row w9 _ 12 _ _ _ (K.out.get 0 rfl); clear hb9))
                go_ret
                exact ⟨by rw [hv.out]; rfl, K.out.2⟩
        · have e7 : decide (o.k ≤ 7) = false := decide_eq_false h7
          have q3 : (o.k == 3) = false := by rw [beq_eq_false_iff_ne]; omega
          have q7 : (o.k == 7) = false := by rw [beq_eq_false_iff_ne]; omega
          by_cases hk8 : o.k = 8
          · have q8 : (o.k == 8) = true := by rw [beq_iff_eq]; omega
            have q9 : (o.k == 9) = false := by rw [beq_eq_false_iff_ne]; omega
            have q10 : (o.k == 10) = false := by rw [beq_eq_false_iff_ne]; omega
            have HDD := Hd.mk (HD8.out hk8)
            clear h7 hk8
            by_cases tu1 : (0 : Int) ≤ o.off
            · have u1 : decide ((0 : Int) ≤ o.off) = true := decide_eq_true tu1
              clear tu1
              by_cases tu2 : (1 : Int) ≤ (o.dt.size : Int)
              · have u2 : decide ((1 : Int) ≤ (o.dt.size : Int)) = true := decide_eq_true tu2
                clear tu2
                by_cases tu3 : (o.dt.size : Int) ≤ 64
                · have u3 : decide ((o.dt.size : Int) ≤ 64) = true := decide_eq_true tu3
                  clear tu3
                  by_cases tu4 : o.off ≤ 64 - (o.dt.size : Int)
                  · have u4 : decide (o.off ≤ 64 - (o.dt.size : Int)) = true := decide_eq_true tu4
                    clear tu4
                    have hv : Hd (refMayO o = true) := ⟨by rw [HV.out, HDD.out]; first | rfl | (simp only [e7, q7, u1, u2, u3, u4]; done) | (simp only [e7, q7, u1, u2, u3, u4]; rfl)⟩
                    clear HV HD3 HD8 HD9 HD10 HDo HK
                    have c0 := cell_of_row _ _ 0 _ _ _ (K.out.get 0 rfl)
                    have c1 := cell_of_row _ _ 1 _ _ _ (K.out.get 0 rfl)
                    have c2 := cell_of_row _ _ 2 _ _ _ (K.out.get 0 rfl)
                    have c3 := cell_of_row _ _ 3 _ _ _ (K.out.get 0 rfl)
                    have c4 := cell_of_row _ _ 4 _ _ _ (K.out.get 0 rfl)
                    have c5 := cell_of_row _ _ 5 _ _ _ (K.out.get 0 rfl)
                    have c6 := cell_of_row _ _ 6 _ _ _ (K.out.get 0 rfl)
                    have c7 := cell_of_row _ _ 7 _ _ _ (K.out.get 0 rfl)
                    have c8 := cell_of_row _ _ 8 _ _ _ (K.out.get 0 rfl)
                    have c9 := cell_of_row _ _ 9 _ _ _ (K.out.get 0 rfl)
                    have c10 := cell_of_row _ _ 10 _ _ _ (K.out.get 0 rfl)
                    have c11 := cell_of_row _ _ 11 _ _ _ (K.out.get 0 rfl)
                    have c12 := cell_of_row _ _ 12 _ _ _ (K.out.get 0 rfl)
                    go_wp2_with (first | ((go_at_call 85); (with_reducible refine (HA.out _).mono ?_); rintro e w9 ⟨rfl, hb9⟩; replace K := Hd.mk (K.out.call hb9); have c5 := cell_of_row w9 _ 5 _ _ _ (K.out.get 0 rfl); have c6 := cell_of_row w9 _ 6 _ _ _ (K.out.get 0 rfl); clear hb9) | ((go_at_call 85); (with_reducible refine (HI.out _).mono ?_); rintro e w9 ⟨rfl, hb9⟩; replace K := Hd.mk (K.out.call hb9); have c7 := cell_of_row w9 _ 7 _ _ _ (K.out.get 0 rfl); have c8 := cell_of_row w9 _ 8 _ _ _ (K.out.get 0 rfl); clear hb9) | ((go_at_call 85); (with_reducible refine (HT.out _).mono ?_); rintro e w9 ⟨rfl, hb9⟩; replace K := Hd.mk (K.out.call hb9); have c2 := cell_of_row w9 _ 2 _ _ _ (K.out.get 0 rfl); have c9 := cell_of_row w9 _ 9 _ _ _ (K.out.get 0 rfl); have c10 := cell_of_row w9 _ 10 _ _ _ (K.out.get 0 rfl); have c11 := cell_of_row w9 _ 11 _ _ _ (K.out.get 0 rfl); have c12 := cell_of_row w9 _ 12 _ _ _ (K.out.get 0 rfl); clear hb9))
                    go_ret
                    exact ⟨by rw [hv.out]; rfl, K.out.2⟩
                  · have u4 : decide (o.off ≤ 64 - (o.dt.size : Int)) = false := decide_eq_false tu4
                    clear tu4
                    have hv : Hd (refMayO o = false) := ⟨by rw [HV.out, HDD.out]; first | rfl | (simp only [e7, q7, u1, u2, u3, u4]; done) | (simp only [e7, q7, u1, u2, u3, u4]; rfl)⟩
                    clear HV HD3 HD8 HD9 HD10 HDo HK
                    have c0 := cell_of_row _ _ 0 _ _ _ (K.out.get 0 rfl)
                    have c1 := cell_of_row _ _ 1 _ _ _ (K.out.get 0 rfl)
                    have c2 := cell_of_row _ _ 2 _ _ _ (K.out.get 0 rfl)
                    have c3 := cell_of_row _ _ 3 _ _ _ (K.out.get 0 rfl)
                    have c4 := cell_of_row _ _ 4 _ _ _ (K.out.get 0 rfl)
                    have c5 := cell_of_row _ _ 5 _ _ _ (K.out.get 0 rfl)
                    have c6 := cell_of_row _ _ 6 _ _ _ (K.out.get 0 rfl)
                    have c7 := cell_of_row _ _ 7 _ _ _ (K.out.get 0 rfl)
                    have c8 := cell_of_row _ _ 8 _ _ _ (K.out.get 0 rfl)
                    have c9 := cell_of_row _ _ 9 _ _ _ (K.out.get 0 rfl)
                    have c10 := cell_of_row _ _ 10 _ _ _ (K.out.get 0 rfl)
                    have c11 := cell_of_row _ _ 11 _ _ _ (K.out.get 0 rfl)
                    have c12 := cell_of_row _ _ 12 _ _ _ (K.out.get 0 rfl)
                    go_wp2_with (first | ((go_at_call 85); (with_reducible refine (HA.out _).mono ?_); rintro e w9 ⟨rfl, hb9⟩; replace K := Hd.mk (K.out.call hb9); have c5 := cell_of_row w9 _ 5 _ _ _ (K.out.get 0 rfl); have c6 := cell_of_row w9 _ 6 _ _ _ (K.out.get 0 rfl); clear hb9) | ((go_at_call 85); (with_reducible refine (HI.out _).mono ?_); rintro e w9 ⟨rfl, hb9⟩; replace K := Hd.mk (K.out.call hb9); have c7 := cell_of_row w9 _ 7 _ _ _ (K.out.get 0 rfl); have c8 := cell_of_row w9 _ 8 _ _ _ (K.out.get 0 rfl); clear hb9) | ((go_at_call 85); (with_reducible refine (HT.out _).mono ?_); rintro e w9 ⟨rfl, hb9⟩; replace K := Hd.mk (K.out.call hb9); have c2 := cell_of_row w9 _ 2 _ _ _ (K.out.get 0 rfl); have c9 := cell_of_row w9 _ 9 _ _ _ (K.out.get 0 rfl); have c10 := cell_of_row w9 _ 10 _ _ _ (K.out.get 0 rfl); have c11 := cell_of_row w9 _ 11 _ _ _ (K.out.get 0 rfl); have c12 := cell_of_row w9 _ 12 _ _ _ (K.out.get 0 rfl); clear hb9))
                    go_ret
                    exact ⟨by rw [hv.out]; rfl, K.out.2⟩
                · have u3 : decide ((o.dt.size : Int) ≤ 64) = false := decide_eq_false tu3
                  clear tu3
                  have hv : Hd (refMayO o = false) := ⟨by rw [HV.out, HDD.out]; first | rfl | (simp only [e7, q7, u1, u2, u3]; done) | (simp only [e7, q7, u1, u2, u3]; rfl)⟩
                  clear HV HD3 HD8 HD9 HD10 HDo HK
                  have c0 := cell_of_row _ _ 0 _ _ _ (K.out.get 0 rfl)
                  have c1 := cell_of_row _ _ 1 _ _ _ (K.out.get 0 rfl)
                  have c2 := cell_of_row _ _ 2 _ _ _ (K.out.get 0 rfl)
                  have c3 := cell_of_row _ _ 3 _ _ _ (K.out.get 0 rfl)
                  have c4 := cell_of_row _ _ 4 _ _ _ (K.out.get 0 rfl)
                  have c5 := cell_of_row _ _ 5 _ _ _ (K.out.get 0 rfl)
                  have c6 := cell_of_row _ _ 6 _ _ _ (K.out.get 0 rfl)
                  have c7 := cell_of_row _ _ 7 _ _ _ (K.out.get 0 rfl)
                  have c8 := cell_of_row _ _ 8 _ _ _ (K.out.get 0 rfl)
                  have c9 := cell_of_row _ _ 9 _ _ _ (K.out.get 0 rfl)
                  have c10 := cell_of_row _ _ 10 _ _ _ (K.out.get 0 rfl)
                  have c11 := cell_of_row _ _ 11 _ _ _ (K.out.get 0 rfl)
                  have c12 := cell_of_row _ _ 12 _ _ _ (K.out.get 0 rfl)
                  go_wp2_with (first | ((go_at_call 85); (with_reducible refine (HA.out _).mono ?_); rintro e w9 ⟨rfl, hb9⟩; replace K := Hd.mk (K.out.call hb9); have c5 := cell_of_row w9 _ 5 _ _ _ (K.out.get 0 rfl); have c6 := cell_of_row w9 _ 6 _ _ _ (K.out.get 0 rfl); clear hb9) | ((go_at_call 85); (with_reducible refine (HI.out _).mono ?_); rintro e w9 ⟨rfl, hb9⟩; replace K := Hd.mk (K.out.call hb9); have c7 := cell_of_row w9 _ 7 _ _ _ (K.out.get 0 rfl); have c8 := cell_of_row w9 _ 8 _ _ _ (K.out.get 0 rfl); clear hb9) | ((go_at_call 85); (with_reducible refine (HT.out _).mono ?_); rintro e w9 ⟨rfl, hb9⟩; replace K := Hd.mk (K.out.call hb9); have c2 := cell_of_row w9 _ 2 _ _ _ (K.out.get 0 rfl); have c9 := cell_of_row w9 _ 9 _ _ _ (K.out.get 0 rfl); have c10 := cell_of_row w9 _ 10 _ _ _ (K.out.get 0 rfl); have c11 := cell_of_row w9 _ 11 _ _ _ (K.out.get 0 rfl); have c12 := cell_of_row w9 _ 12 _ _ _ (K.out.get 0 rfl); clear hb9))
                  go_ret
                  exact ⟨by rw [hv.out]; rfl, K.out.2⟩
              · have u2 : decide ((1 : Int) ≤ (o.dt.size : Int)) = false := decide_eq_false tu2
                clear tu2
                have hv : Hd (refMayO o = false) := ⟨by rw [HV.out, HDD.out]; first | rfl | (simp only [e7, q7, u1, u2]; done) | (simp only [e7, q7, u1, u2]; rfl)⟩
                clear HV HD3 HD8 HD9 HD10 HDo HK
                have c0 := cell_of_row _ _ 0 _ _ _ (K.out.get 0 rfl)
                have c1 := cell_of_row _ _ 1 _ _ _ (K.out.get 0 rfl)
                have c2 := cell_of_row _ _ 2 _ _ _ (K.out.get 0 rfl)
                have c3 := cell_of_row _ _ 3 _ _ _ (K.out.get 0 rfl)
                have c4 := cell_of_row _ _ 4 _ _ _ (K.out.get 0 rfl)
                have c5 := cell_of_row _ _ 5 _ _ _ (K.out.get 0 rfl)
                have c6 := cell_of_row _ _ 6 _ _ _ (K.out.get 0 rfl)
                have c7 := cell_of_row _ _ 7 _ _ _ (K.out.get 0 rfl)
                have c8 := cell_of_row _ _ 8 _ _ _ (K.out.get 0 rfl)
                have c9 := cell_of_row _ _ 9 _ _ _ (K.out.get 0 rfl)
                have c10 := cell_of_row _ _ 10 _ _ _ (K.out.get 0 rfl)
                have c11 := cell_of_row _ _ 11 _ _ _ (K.out.get 0 rfl)
                have c12 := cell_of_row _ _ 12 _ _ _ (K.out.get 0 rfl)
                go_wp2_with (first | ((go_at_call 85); (with_reducible refine (HA.out _).mono ?_); rintro e w9 ⟨rfl, hb9⟩; replace K := Hd.mk (K.out.call hb9); have c5 := cell_of_row w9 _ 5 _ _ _ (K.out.get 0 rfl); have c6 := cell_of_row w9 _ 6 _ _ _ (K.out.get 0 rfl); clear hb9) | ((go_at_call 85); (with_reducible refine (HI.out _).mono ?_); rintro e w9 ⟨rfl, hb9⟩; replace K := Hd.mk (K.out.call hb9); have c7 := cell_of_row w9 _ 7 _ _ _ (K.out.get 0 rfl); have c8 := cell_of_row w9 _ 8 _ _ _ (K.out.get 0 rfl); clear hb9) | ((go_at_call 85); (with_reducible refine (HT.out _).mono ?_); rintro e w9 ⟨rfl, hb9⟩; replace K := Hd.mk (K.out.call hb9); have c2 := cell_of_row w9 _ 2 _ _ _ (K.out.get 0 rfl); have c9 := cell_of_row w9 _ 9 _ _ _ (K.out.get 0 rfl); have c10 := cell_of_row w9 _ 10 _ _ _ (K.out.get 0 rfl); have c11 := cell_of_row w9 _ 11 _ _ _ (K.out.get 0 rfl); have c12 := cell_of_row w9 _ 12 _ _ _ (K.out.get 0 rfl); clear hb9))
                go_ret
                exact ⟨by rw [hv.out]; rfl, K.out.2⟩
            · have u1 : decide ((0 : Int) ≤ o.off) = false := decide_eq_false tu1
              clear tu1
              have hv : Hd (refMayO o = false) := ⟨by rw [HV.out, HDD.out]; first | rfl | (simp only [e7, q7, u1]; done) | (simp only [e7, q7, u1]; rfl)⟩
              clear HV HD3 HD8 HD9 HD10 HDo HK
              have c0 := cell_of_row _ _ 0 _ _ _ (K.out.get 0 rfl)
              have c1 := cell_of_row _ _ 1 _ _ _ (K.out.get 0 rfl)
              have c2 := cell_of_row _ _ 2 _ _ _ (K.out.get 0 rfl)
              have c3 := cell_of_row _ _ 3 _ _ _ (K.out.get 0 rfl)
              have c4 := cell_of_row _ _ 4 _ _ _ (K.out.get 0 rfl)
              have c5 := cell_of_row _ _ 5 _ _ _ (K.out.get 0 rfl)
              have c6 := cell_of_row _ _ 6 _ _ _ (K.out.get 0 rfl)
              have c7 := cell_of_row _ _ 7 _ _ _ (K.out.get 0 rfl)
              have c8 := cell_of_row _ _ 8 _ _ _ (K.out.get 0 rfl)
              have c9 := cell_of_row _ _ 9 _ _ _ (K.out.get 0 rfl)
              have c10 := cell_of_row _ _ 10 _ _ _ (K.out.get 0 rfl)
              have c11 := cell_of_row _ _ 11 _ _ _ (K.out.get 0 rfl)
              have c12 := cell_of_row _ _ 12 _ _ _ (K.out.get 0 rfl)
              go_wp2_with (first | ((go_at_call 85); (with_reducible refine (HA.out _).mono ?_); rintro e w9 ⟨rfl, hb9⟩; replace K := Hd.mk (K.out.call hb9); have c5 := cell_of_row w9 _ 5 _ _ _ (K.out.get 0 rfl); have c6 := cell_of_row w9 _ 6 _ _ _ (K.out.get 0 rfl); clear hb9) | ((go_at_call 85); (with_reducible refine (HI.out _).mono ?_); rintro e w9 ⟨rfl, hb9⟩; replace K := Hd.mk (K.out.call hb9); have c7 := cell_of_row w9 _ 7 _ _ _ (K.out.get 0 rfl); have c8 := cell_of_row w9 _ 8 _ _ _ (K.out.get 0 rfl); clear hb9) | ((go_at_call 85); (with_reducible refine (HT.out _).mono ?_); rintro e w9 ⟨rfl, hb9⟩; replace K := Hd.mk (K.out.call hb9); have c2 := cell_of_row w9 _ 2 _ _ _ (K.out.get 0 rfl); have c9 := cell_of_row w9 _ 9 _ _ _ (K.out.get 0 rfl); have c10 := cell_of_row w9 _ 10 _ _ _ (K.out.get 0 rfl); have c11 := cell_of_row w9 _ 11 _ _ _ (K.out.get 0 rfl); have c12 := cell_of_row w9 _ 12 _ _ _ (K.out.get 0 rfl); clear hb9))
              go_ret
              exact ⟨by rw [hv.out]; rfl, K.out.2⟩
          · have q8 : (o.k == 8) = false := by rw [beq_eq_false_iff_ne]; omega
            by_cases hk9 : o.k = 9
            · have q9 : (o.k == 9) = true := by rw [beq_iff_eq]; omega
              have q10 : (o.k == 10) = false := by rw [beq_eq_false_iff_ne]; omega
              have HDD := Hd.mk (HD9.out hk9)
              clear h7 hk8 hk9
              by_cases tu1 : (0 : Int) ≤ o.off
              · have u1 : decide ((0 : Int) ≤ o.off) = true := decide_eq_true tu1
                clear tu1
                by_cases tu2 : o.off ≤ 64
                · have u2 : decide (o.off ≤ 64) = true := decide_eq_true tu2
                  clear tu2
                  have hv : Hd (refMayO o = true) := ⟨by rw [HV.out, HDD.out]; first | rfl | (simp only [e7, q7, u1, u2]; done) | (simp only [e7, q7, u1, u2]; rfl)⟩
                  clear HV HD3 HD8 HD9 HD10 HDo HK
                  have c0 := cell_of_row _ _ 0 _ _ _ (K.out.get 0 rfl)
                  have c1 := cell_of_row _ _ 1 _ _ _ (K.out.get 0 rfl)
                  have c2 := cell_of_row _ _ 2 _ _ _ (K.out.get 0 rfl)
                  have c3 := cell_of_row _ _ 3 _ _ _ (K.out.get 0 rfl)
                  have c4 := cell_of_row _ _ 4 _ _ _ (K.out.get 0 rfl)
                  have c5 := cell_of_row _ _ 5 _ _ _ (K.out.get 0 rfl)
                  have c6 := cell_of_row _ _ 6 _ _ _ (K.out.get 0 rfl)
                  have c7 := cell_of_row _ _ 7 _ _ _ (K.out.get 0 rfl)
                  have c8 := cell_of_row _ _ 8 _ _ _ (K.out.get 0 rfl)
                  have c9 := cell_of_row _ _ 9 _ _ _ (K.out.get 0 rfl)
                  have c10 := cell_of_row _ _ 10 _ _ _ (K.out.get 0 rfl)
                  have c11 := cell_of_row _ _ 11 _ _ _ (K.out.get 0 rfl)
                  have c12 := cell_of_row _ _ 12 _ _ _ (K.out.get 0 rfl)
                  go_wp2_with (first | ((go_at_call 85); (with_reducible refine (HA.out _).mono ?_); rintro e w9 ⟨rfl, hb9⟩; replace K := Hd.mk (K.out.call hb9); have c5 := cell_of_row w9 _ 5 _ _ _ (K.out.get 0 rfl); have c6 := cell_of_row w9 _ 6 _ _ _ (K.out.get 0 rfl); clear hb9) | ((go_at_call 85); (with_reducible refine (HI.out _).mono ?_); rintro e w9 ⟨rfl, hb9⟩; replace K := Hd.mk (K.out.call hb9); have c7 := cell_of_row w9 _ 7 _ _ _ (K.out.get 0 rfl); have c8 := cell_of_row w9 _ 8 _ _ _ (K.out.get 0 rfl); clear hb9) | ((go_at_call 85); (with_reducible refine (HT.out _).mono ?_); rintro e w9 ⟨rfl, hb9⟩; replace K := Hd.mk (K.out.call hb9); have c2 := cell_of_row w9 _ 2 _ _ _ (K.out.get 0 rfl); have c9 := cell_of_row w9 _ 9 _ _ _ (K.out.get 0 rfl); have c10 := cell_of_row w9 _ 10 _ _ _ (K.out.get 0 rfl); have c11 := cell_of_row w9 _ 11 _ _ _ (K.out.get 0 rfl); have c12 := cell_of_row w9 _ 12 _ _ _ (K.out.get 0 rfl); clear hb9))
                  go_ret
                  exact ⟨by rw [hv.out]; rfl, K.out.2⟩
                · have u2 : decide (o.off ≤ 64) = false := decide_eq_false tu2
                  clear tu2
                  have hv : Hd (refMayO o = false) := ⟨by rw [HV.out, HDD.out]; first | rfl | (simp only [e7, q7, u1, u2]; done) | (simp only [e7, q7, u1, u2]; rfl)⟩
                  clear HV HD3 HD8 HD9 HD10 HDo HK
                  have c0 := cell_of_row _ _ 0 _ _ _ (K.out.get 0 rfl)
                  have c1 := cell_of_row _ _ 1 _ _ _ (K.out.get 0 rfl)
                  have c2 := cell_of_row _ _ 2 _ _ _ (K.out.get 0 rfl)
                  have c3 := cell_of_row _ _ 3 _ _ _ (K.out.get 0 rfl)
                  have c4 := cell_of_row _ _ 4 _ _ _ (K.out.get 0 rfl)
                  have c5 := cell_of_row _ _ 5 _ _ _ (K.out.get 0 rfl)
                  have c6 := cell_of_row _ _ 6 _ _ _ (K.out.get 0 rfl)
                  have c7 := cell_of_row _ _ 7 _ _ _ (K.out.get 0 rfl)
                  have c8 := cell_of_row _ _ 8 _ _ _ (K.out.get 0 rfl)
                  have c9 := cell_of_row _ _ 9 _ _ _ (K.out.get 0 rfl)
                  have c10 := cell_of_row _ _ 10 _ _ _ (K.out.get 0 rfl)
                  have c11 := cell_of_row _ _ 11 _ _ _ (K.out.get 0 rfl)
                  have c12 := cell_of_row _ _ 12 _ _ _ (K.out.get 0 rfl)
                  go_wp2_with (first | ((go_at_call 85); (with_reducible refine (HA.out _).mono ?_); rintro e w9 ⟨rfl, hb9⟩; replace K := Hd.mk (K.out.call hb9); have c5 := cell_of_row w9 _ 5 _ _ _ (K.out.get 0 rfl); have c6 := cell_of_row w9 _ 6 _ _ _ (K.out.get 0 rfl); clear hb9) | ((go_at_call 85); (with_reducible refine (HI.out _).mono ?_); rintro e w9 ⟨rfl, hb9⟩; replace K := Hd.mk (K.out.call hb9); have c7 := cell_of_row w9 _ 7 _ _ _ (K.out.get 0 rfl); have c8 := cell_of_row w9 _ 8 _ _ _ (K.out.get 0 rfl); clear hb9) | ((go_at_call 85); (with_reducible refine (HT.out _).mono ?_); rintro e w9 ⟨rfl, hb9⟩; replace K := Hd.mk (K.out.call hb9); have c2 := cell_of_row w9 _ 2 _ _ _ (K.out.get 0 rfl); have c9 := cell_of_row w9 _ 9 _ _ _ (K.out.get 0 rfl); have c10 := cell_of_row w9 _ 10 _ _ _ (K.out.get 0 rfl); have c11 := cell_of_row w9 _ 11 _ _ _ (K.out.get 0 rfl); have c12 := cell_of_row w9 _ 12 _ _ _ (K.out.get 0 rfl); clear hb9))
                  go_ret
                  exact ⟨by rw [hv.out]; rfl, K.out.2⟩
              · have u1 : decide ((0 : Int) ≤ o.off) = false := decide_eq_false tu1
                clear tu1
                have hv : Hd (refMayO o = false) := ⟨by rw [HV.out, HDD.out]; first | rfl | (simp only [e7, q7, u1]; done) | (simp only [e7, q7, u1]; rfl)⟩
                clear HV HD3 HD8 HD9 HD10 HDo HK
                have c0 := cell_of_row _ _ 0 _ _ _ (K.out.get 0 rfl)
                have c1 := cell_of_row _ _ 1 _ _ _ (K.out.get 0 rfl)
                have c2 := cell_of_row _ _ 2 _ _ _ (K.out.get 0 rfl)
                have c3 := cell_of_row _ _ 3 _ _ _ (K.out.get 0 rfl)
                have c4 := cell_of_row _ _ 4 _ _ _ (K.out.get 0 rfl)
                have c5 := cell_of_row _ _ 5 _ _ _ (K.out.get 0 rfl)
                have c6 := cell_of_row _ _ 6 _ _ _ (K.out.get 0 rfl)
                have c7 := cell_of_row _ _ 7 _ _ _ (K.out.get 0 rfl)
                have c8 := cell_of_row _ _ 8 _ _ _ (K.out.get 0 rfl)
                have c9 := cell_of_row _ _ 9 _ _ _ (K.out.get 0 rfl)
                have c10 := cell_of_row _ _ 10 _ _ _ (K.out.get 0 rfl)
                have c11 := cell_of_row _ _ 11 _ _ _ (K.out.get 0 rfl)
                have c12 := cell_of_row _ _ 12 _ _ _ (K.out.get 0 rfl)
                go_wp2_with (first | ((go_at_call 85); (with_reducible refine (HA.out _).mono ?_); rintro e w9 ⟨rfl, hb9⟩; replace K := Hd.mk (K.out.call hb9); have c5 := cell_of_row w9 _ 5 _ _ _ (K.out.get 0 rfl); have c6 := cell_of_row w9 _ 6 _ _ _ (K.out.get 0 rfl); clear hb9) | ((go_at_call 85); (with_reducible refine (HI.out _).mono ?_); rintro e w9 ⟨rfl, hb9⟩; replace K := Hd.mk (K.out.call hb9); have c7 := cell_of_row w9 _ 7 _ _ _ (K.out.get 0 rfl); have c8 := cell_of_row w9 _ 8 _ _ _ (K.out.get 0 rfl); clear hb9) | ((go_at_call 85); (with_reducible refine (HT.out _).mono ?_); rintro e w9 ⟨rfl, hb9⟩; replace K := Hd.mk (K.out.call hb9); have c2 := cell_of_row w9 _ 2 _ _ _ (K.out.get 0 rfl); have c9 := cell_of_row w9 _ 9 _ _ _ (K.out.get 0 rfl); have c10 := cell_of_row w9 _ 10 _ _ _ (K.out.get 0 rfl); have c11 := cell_of_row w9 _ 11 _ _ _ (K.out.get 0 rfl); have c12 := cell_of_row w9 _ 12 _ _ _ (K.out.get 0 rfl); clear hb9))
                go_ret
                exact ⟨by rw [hv.out]; rfl, K.out.2⟩
            · have q9 : (o.k == 9) = false := by rw [beq_eq_false_iff_ne]; omega
              have hk10 : o.k = 10 := by have := HK.out; omega
              have q10 : (o.k == 10) = true := by rw [beq_iff_eq]; omega
              have HDD := Hd.mk (HD10.out hk10)
              clear h7 hk8 hk9 hk10
              by_cases tu1 : (0 : Int) ≤ o.off
              · have u1 : decide ((0 : Int) ≤ o.off) = true := decide_eq_true tu1
                clear tu1
                have hv : Hd (refMayO o = decide (o.off ≤ 4095)) := ⟨by rw [HV.out, HDD.out]; first | rfl | (simp only [e7, q7, u1]; done) | (simp only [e7, q7, u1]; rfl)⟩
                clear HV HD3 HD8 HD9 HD10 HDo HK
                have c0 := cell_of_row _ _ 0 _ _ _ (K.out.get 0 rfl)
                have c1 := cell_of_row _ _ 1 _ _ _ (K.out.get 0 rfl)
                have c2 := cell_of_row _ _ 2 _ _ _ (K.out.get 0 rfl)
                have c3 := cell_of_row _ _ 3 _ _ _ (K.out.get 0 rfl)
                have c4 := cell_of_row _ _ 4 _ _ _ (K.out.get 0 rfl)
                have c5 := cell_of_row _ _ 5 _ _ _ (K.out.get 0 rfl)
                have c6 := cell_of_row _ _ 6 _ _ _ (K.out.get 0 rfl)
                have c7 := cell_of_row _ _ 7 _ _ _ (K.out.get 0 rfl)
                have c8 := cell_of_row _ _ 8 _ _ _ (K.out.get 0 rfl)
                have c9 := cell_of_row _ _ 9 _ _ _ (K.out.get 0 rfl)
                have c10 := cell_of_row _ _ 10 _ _ _ (K.out.get 0 rfl)
                have c11 := cell_of_row _ _ 11 _ _ _ (K.out.get 0 rfl)
                have c12 := cell_of_row _ _ 12 _ _ _ (K.out.get 0 rfl)
                go_wp2_with (first | ((go_at_call 85); (with_reducible refine (HA.out _).mono ?_); rintro e w9 ⟨rfl, hb9⟩; replace K := Hd.mk (K.out.call hb9); have c5 := cell_of_row w9 _ 5 _ _ _ (K.out.get 0 rfl); have c6 := cell_of_row w9 _ 6 _ _ _ (K.out.get 0 rfl); clear hb9) | ((go_at_call 85); (with_reducible refine (HI.out _).mono ?_); rintro e w9 ⟨rfl, hb9⟩; replace K := Hd.mk (K.out.call hb9); have c7 := cell_of_row w9 _ 7 _ _ _ (K.out.get 0 rfl); have c8 := cell_of_row w9 _ 8 _ _ _ (K.out.get 0 rfl); clear hb9) | ((go_at_call 85); (with_reducible refine (HT.out _).mono ?_); rintro e w9 ⟨rfl, hb9⟩; replace K := Hd.mk (K.out.call hb9); have c2 := cell_of_row w9 _ 2 _ _ _ (K.out.get 0 rfl); have c9 := cell_of_row w9 _ 9 _ _ _ (K.out.get 0 rfl); have c10 := cell_of_row w9 _ 10 _ _ _ (K.out.get 0 rfl); have c11 := cell_of_row w9 _ 11 _ _ _ (K.out.get 0 rfl); have c12 := cell_of_row w9 _ 12 _ _ _ (K.out.get 0 rfl); clear hb9))
                go_ret
                exact ⟨by rw [hv.out]; rfl, K.out.2⟩
              · have u1 : decide ((0 : Int) ≤ o.off) = false := decide_eq_false tu1
                clear tu1
                have hv : Hd (refMayO o = false) := ⟨by rw [HV.out, HDD.out]; first | rfl | (simp only [e7, q7, u1]; done) | (simp only [e7, q7, u1]; rfl)⟩
                clear HV HD3 HD8 HD9 HD10 HDo HK
                have c0 := cell_of_row _ _ 0 _ _ _ (K.out.get 0 rfl)
                have c1 := cell_of_row _ _ 1 _ _ _ (K.out.get 0 rfl)
                have c2 := cell_of_row _ _ 2 _ _ _ (K.out.get 0 rfl)
                have c3 := cell_of_row _ _ 3 _ _ _ (K.out.get 0 rfl)
                have c4 := cell_of_row _ _ 4 _ _ _ (K.out.get 0 rfl)
                have c5 := cell_of_row _ _ 5 _ _ _ (K.out.get 0 rfl)
                have c6 := cell_of_row _ _ 6 _ _ _ (K.out.get 0 rfl)
                have c7 := cell_of_row _ _ 7 _ _ _ (K.out.get 0 rfl)
                have c8 := cell_of_row _ _ 8 _ _ _ (K.out.get 0 rfl)
                have c9 := cell_of_row _ _ 9 _ _ _ (K.out.get 0 rfl)
                have c10 := cell_of_row _ _ 10 _ _ _ (K.out.get 0 rfl)
                have c11 := cell_of_row _ _ 11 _ _ _ (K.out.get 0 rfl)
                have c12 := cell_of_row _ _ 12 _ _ _ (K.out.get 0 rfl)
                go_wp2_with (first | ((go_at_call 85); (with_reducible refine (HA.out _).mono ?_); rintro e w9 ⟨rfl, hb9⟩; replace K := Hd.mk (K.out.call hb9); have c5 := cell_of_row w9 _ 5 _ _ _ (K.out.get 0 rfl); have c6 := cell_of_row w9 _ 6 _ _ _ (K.out.get 0 rfl); clear hb9) | ((go_at_call 85); (with_reducible refine (HI.out _).mono ?_); rintro e w9 ⟨rfl, hb9⟩; replace K := Hd.mk (K.out.call hb9); have c7 := cell_of_row w9 _ 7 _ _ _ (K.out.get 0 rfl); have c8 := cell_of_row w9 _ 8 _ _ _ (K.out.get 0 rfl); clear hb9) | ((go_at_call 85); (with_reducible refine (HT.out _).mono ?_); rintro e w9 ⟨rfl, hb9⟩; replace K := Hd.mk (K.out.call hb9); have c2 := cell_of_row w9 _ 2 _ _ _ (K.out.get 0 rfl); have c9 := cell_of_row w9 _ 9 _ _ _ (K.out.get 0 rfl); have c10 := cell_of_row w9 _ 10 _ _ _ (K.out.get 0 rfl); have c11 := cell_of_row w9 _ 11 _ _ _ (K.out.get 0 rfl); have c12 := cell_of_row w9 _ 12 _ _ _ (K.out.get 0 rfl); clear hb9))
                go_ret
                exact ⟨by rw [hv.out]; rfl, K.out.2⟩
end
theorem ref_May (o : OpV) (hdt : o.dt.size ≤ 140737488355328) (w : World) : Calls Tryz.prog 51 #[.agg #[.int .i64 o.t, .int .i64 o.r, .int .i64 o.k, .int .i64 o.a0, .int .i64 o.a1, .int .i64 o.i0, .int .i64 o.i1, .int .i64 o.t0, .int .i64 o.t1, .string o.nm, .string o.nw, .int .i64 o.off, .string o.dt]] w fun e w' => e = .returned (.bool (refMayO o)) ∧ Below w.heap.size w w' := by
  by_cases h1 : o.k < 1
  · exact may_low o h1 w
  by_cases h2 : 10 < o.k
  · exact may_high o h2 w
  have h : 1 ≤ o.k ∧ o.k ≤ 10 := ⟨by omega, by omega⟩
  cases hq : eqO (bareV o) o with
  | false => exact may_unlike o h hq w
  | true =>
    by_cases hz : o.t = 0
    · exact may_zero o h hq hz w
    cases hs : mayS o.t o.r with
    | false => exact may_stamp o h hq hz hs w
    | true => exact may_rest o h hq hz hs hdt w
end Go.Proofs.YtcgkkjfbdappoaaGreat

/- The document's May of an operation is the code's: a plain law. -/
namespace Go.Proofs.YtcgkkjfbdappoaaGreat
open Go.RowKit Go.Proofs.YtcgkkjfbdappoaaGreatW.PrintWords Go.Proofs.YtcgkkjfbdappoaaGreatW.PrintLast Go.Proofs.YtcgkkjfbdappoaaGreatW.PrintMore Pk
set_option linter.unusedVariables false
set_option linter.unusedSimpArgs false

theorem empty_list (s : ByteArray) : ((⟨#[]⟩ : ByteArray).toList == s.toList) = isE s := by
  rw [← isE_list]
  have e : (⟨#[]⟩ : ByteArray).toList = [] := by rw [Lib.toList_data]
  rw [e]
  cases s.toList <;> rfl
theorem zero_beq (a b : Int) : ((0 : Int) == a && ((0 : Int) == b)) = isZ a b := by
  unfold isZ
  rw [Bool.eq_iff_iff]
  simp
  omega
theorem may_of_z {a b : Int} (h : isZ a b = true) : mayS a b = true := by
  unfold isZ at h
  simp only [Bool.and_eq_true, beq_iff_eq] at h
  exact decide_eq_true (.inl h)
theorem z_of_may {a b : Int} (h : mayS a b = true) : (a != 0) = !isZ a b := by
  have := of_decide_eq_true h
  unfold isZ
  rw [Bool.eq_iff_iff]
  simp
  omega
/-- What the fields that the kind hasn't must be. -/
def bareB (o : OpV) : Bool :=
  (decide (o.k ≤ 7) || isZ o.a0 o.a1) && ((decide (4 ≤ o.k) || isZ o.i0 o.i1) && ((decide (o.k = 7) || isZ o.t0 o.t1) && ((decide (o.k ≤ 7) || isE o.nm) && ((decide (o.k = 7) || isE o.nw) && ((decide (8 ≤ o.k) || (o.off == 0)) && (decide (o.k = 3 ∨ o.k = 8) || isE o.dt))))))
theorem bare_eq (o : OpV) : eqO (bareV o) o = bareB o := by
  have hz : ((0 : Int) == o.off) = (o.off == 0) := by rw [Bool.eq_iff_iff]; simp; omega
  have p1 : ((if o.k ≤ 7 then o.a0 else 0) == o.a0 && ((if o.k ≤ 7 then o.a1 else 0) == o.a1)) = (decide (o.k ≤ 7) || isZ o.a0 o.a1) := by
    by_cases h : o.k ≤ 7
    · rw [if_pos h, if_pos h, decide_eq_true h]; simp
    · rw [if_neg h, if_neg h, decide_eq_false h, zero_beq]; simp
  have p2 : ((if 4 ≤ o.k then o.i0 else 0) == o.i0 && ((if 4 ≤ o.k then o.i1 else 0) == o.i1)) = (decide (4 ≤ o.k) || isZ o.i0 o.i1) := by
    by_cases h : 4 ≤ o.k
    · rw [if_pos h, if_pos h, decide_eq_true h]; simp
    · rw [if_neg h, if_neg h, decide_eq_false h, zero_beq]; simp
  have p3 : ((if o.k = 7 then o.t0 else 0) == o.t0 && ((if o.k = 7 then o.t1 else 0) == o.t1)) = (decide (o.k = 7) || isZ o.t0 o.t1) := by
    by_cases h : o.k = 7
    · rw [if_pos h, if_pos h, decide_eq_true h]; simp
    · rw [if_neg h, if_neg h, decide_eq_false h, zero_beq]; simp
  have p4 : ((if o.k ≤ 7 then o.nm else ⟨#[]⟩).toList == o.nm.toList) = (decide (o.k ≤ 7) || isE o.nm) := by
    by_cases h : o.k ≤ 7
    · rw [if_pos h, decide_eq_true h]; simp
    · rw [if_neg h, decide_eq_false h, empty_list]; simp
  have p5 : ((if o.k = 7 then o.nw else ⟨#[]⟩).toList == o.nw.toList) = (decide (o.k = 7) || isE o.nw) := by
    by_cases h : o.k = 7
    · rw [if_pos h, decide_eq_true h]; simp
    · rw [if_neg h, decide_eq_false h, empty_list]; simp
  have p6 : ((if 8 ≤ o.k then o.off else 0) == o.off) = (decide (8 ≤ o.k) || (o.off == 0)) := by
    by_cases h : 8 ≤ o.k
    · rw [if_pos h, decide_eq_true h]; simp
    · rw [if_neg h, decide_eq_false h, hz]; simp
  have p7 : ((if o.k = 3 ∨ o.k = 8 then o.dt else ⟨#[]⟩).toList == o.dt.toList) = (decide (o.k = 3 ∨ o.k = 8) || isE o.dt) := by
    by_cases h : o.k = 3 ∨ o.k = 8
    · rw [if_pos h, decide_eq_true h]; simp
    · rw [if_neg h, decide_eq_false h, empty_list]; simp
  unfold eqO bareV bareB
  dsimp only
  rw [p1, p2, p3, p4, p5, p6, p7]
  simp
/-- The document's May is the code's. -/
theorem refMayO_eq (o : OpV) : refMayO o = o.may := by
  unfold refMayO
  rw [bare_eq]
  unfold OpV.may mayO bareB
  have hza := @may_of_z o.a0 o.a1
  have hzi := @may_of_z o.i0 o.i1
  have hzt := @may_of_z o.t0 o.t1
  have hzs := @z_of_may o.t o.r
  generalize mayS o.a0 o.a1 = ma at *
  generalize mayS o.i0 o.i1 = mi at *
  generalize mayS o.t0 o.t1 = mt at *
  generalize isZ o.a0 o.a1 = za at *
  generalize isZ o.i0 o.i1 = zi at *
  generalize isZ o.t0 o.t1 = zt at *
  generalize (o.t != 0) = ne at *
  generalize isZ o.t o.r = zs at *
  generalize mayS o.t o.r = ms at *
  generalize nameB o.nm = nB at *
  generalize nameB o.nw = wB at *
  generalize isE o.nm = en at *
  generalize isE o.nw = ew at *
  generalize isE o.dt = ed at *
  generalize (o.off == 0) = oz at *
  generalize hd : dataB o.k o.off o.dt = d at *
  clear hd
  generalize o.k = k at *
  have key : ∀ (f : Nat) (b1 b2 b3 b4 b5 : Bool), True := fun _ _ _ _ _ _ => trivial
  cases ms with
  | false => simp
  | true =>
    have hs := hzs rfl
    subst hs
    rcases k_cases k with rfl | rfl | rfl | rfl | rfl | rfl | rfl | rfl | rfl | rfl | h0
    case inr.inr.inr.inr.inr.inr.inr.inr.inr.inr =>
      have hk : ¬ (1 ≤ k ∧ k ≤ 10) := by
        intro h
        have h3 : k = 1 ∨ k = 2 ∨ k = 3 ∨ k = 4 ∨ k = 5 ∨ k = 6 ∨ k = 7 ∨ k = 8 ∨ k = 9 ∨ k = 10 := by omega
        rcases h3 with rfl | rfl | rfl | rfl | rfl | rfl | rfl | rfl | rfl | rfl <;> exact absurd h0 (by decide)
      rw [decide_eq_false hk, h0]
      simp
    all_goals
      simp [fieldsN, rowsOk, rowOk, impB]
      cases za <;> cases zi <;> cases zt <;> simp_all <;> (cases zs <;> cases nB <;> cases wB <;> cases en <;> cases ew <;> cases ed <;> cases oz <;> cases d <;> simp_all) <;> simp only [Bool.and_assoc]
end Go.Proofs.YtcgkkjfbdappoaaGreat
