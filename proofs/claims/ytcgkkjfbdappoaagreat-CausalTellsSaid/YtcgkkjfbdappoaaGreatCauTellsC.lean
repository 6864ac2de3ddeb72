/- causal: a message as bytes and back, at the program and at the document: the contracts; which texts are few; whether two messages are the same. -/
import Derived.Test.YtcgkkjfbdappoaaGreatCauRefBytes
import Derived.Test.YtcgkkjfbdappoaaGreatCauRefMay
import Derived.Test.YtcgkkjfbdappoaaGreatOpRefA
import Derived.Test.YtcgkkjfbdappoaaGreatVecRefA
namespace Go.Proofs.YtcgkkjfbdappoaaGreat
open Go.RowKit Go.Proofs.YtcgkkjfbdappoaaGreatW.PrintWords Go.Proofs.YtcgkkjfbdappoaaGreatW.PrintLast Go.Proofs.YtcgkkjfbdappoaaGreatW.PrintMore Pk
set_option linter.unusedVariables false
set_option linter.unusedSimpArgs false


theorem vec_dc {m : MsgV} {v : List Int} (h : v.length = 8) (h0 : m.d0 = v.getD 0 0) (h1 : m.d1 = v.getD 1 0) (h2 : m.d2 = v.getD 2 0) (h3 : m.d3 = v.getD 3 0) (h4 : m.d4 = v.getD 4 0) (h5 : m.d5 = v.getD 5 0) (h6 : m.d6 = v.getD 6 0) (h7 : m.d7 = v.getD 7 0) : vec v = ([.int .i64 m.d0, .int .i64 m.d1, .int .i64 m.d2, .int .i64 m.d3, .int .i64 m.d4, .int .i64 m.d5, .int .i64 m.d6, .int .i64 m.d7]).toArray := by
  match v, h with
  | [a, b, c, d, e, f, g, i], _ =>
    simp at h0 h1 h2 h3 h4 h5 h6 h7
    rw [h0, h1, h2, h3, h4, h5, h6, h7]; rfl
theorem tiT_code (s : ByteArray) : (tiT s).2.2 = if tiB s = true then 2 else 0 := by
  unfold tiB tiT
  split <;> simp
theorem tvV_code (s : ByteArray) : tvV (tkV s.data.toList) = .tuple #[.agg (vec (tvT s).1), .string (tvT s).2.1, .int .i64 (if (tvT s).2.2 = true then 2 else 0)] := by
  unfold tvT
  cases h : tkV s.data.toList with
  | none => rfl
  | some p => obtain ⟨v, q⟩ := p; rfl
theorem tvT_len (s : ByteArray) : (tvT s).1.length = 8 ∧ (tvT s).2.1.size ≤ s.size := by
  unfold tvT
  cases h : tkV s.data.toList with
  | none => exact ⟨rfl, Nat.zero_le _⟩
  | some p =>
    obtain ⟨v, q⟩ := p
    obtain ⟨h1, -, -, -, h2⟩ := tkV_very h
    exact ⟨h1, by simpa [size_of] using h2⟩
theorem toV_code (s : ByteArray) : toV (takeO s) = .tuple #[.agg (toT s).1.cells, .string (toT s).2.1, .int .i64 (if (toT s).2.2 = true then 2 else 0)] := by
  unfold toT
  cases h : takeO s with
  | none => rfl
  | some p => obtain ⟨v, q⟩ := p; rfl
theorem rawM_dt (s : ByteArray) : (rawM s).dt.size ≤ 140737488355328 := by
  show (toT (z2 s)).1.dt.size ≤ _
  unfold toT
  cases h : takeO (z2 s) with
  | none => exact Nat.zero_le _
  | some p => obtain ⟨v, q⟩ := p; exact (takeO_very h).2.2.1.dt
theorem z_sizes {s : ByteArray} (hs : s.size ≤ 140737488355328) : (z1 s).size ≤ 140737488355328 ∧ (z2 s).size ≤ 140737488355328 := by
  have h1 := (tiT_rest s).1
  have h2 := (tvT_len (z1 s)).2
  unfold z2
  unfold z1 at *
  omega
def mV : Option (MsgV × ByteArray) → Value
  | none => .tuple #[.agg (msgC MsgV.zero), .string ⟨#[]⟩, .int .i64 2]
  | some (m, q) => .tuple #[.agg (msgC m), .string q, .int .i64 0]
theorem takeM_val (s : ByteArray) : mV (takeM s) = if (tiB s || (tvT (z1 s)).2.2 || (toT (z2 s)).2.2 || !(rawM s).fine) = true then .tuple #[.agg #[.int .i64 MsgV.zero.q, .int .i64 MsgV.zero.d0, .int .i64 MsgV.zero.d1, .int .i64 MsgV.zero.d2, .int .i64 MsgV.zero.d3, .int .i64 MsgV.zero.d4, .int .i64 MsgV.zero.d5, .int .i64 MsgV.zero.d6, .int .i64 MsgV.zero.d7, .int .i64 MsgV.zero.t, .int .i64 MsgV.zero.r, .int .i64 MsgV.zero.k, .int .i64 MsgV.zero.a0, .int .i64 MsgV.zero.a1, .int .i64 MsgV.zero.i0, .int .i64 MsgV.zero.i1, .int .i64 MsgV.zero.t0, .int .i64 MsgV.zero.t1, .string MsgV.zero.nm, .string MsgV.zero.nw, .int .i64 MsgV.zero.off, .string MsgV.zero.dt], .string ⟨#[]⟩, .int .i64 2] else .tuple #[.agg (msgC (rawM s)), .string (z3 s), .int .i64 0] := by
  unfold takeM
  split <;> rfl
theorem opput_size {o : OpV} (h : o.Fine) : o.put.size ≤ 900000000000000 := by
  obtain ⟨⟨b1, b2, b3, b4, b5, b6, b7, b8, b9, b10⟩, h1, h2, h3⟩ := h
  have e1 := num_size (zig_lt b3.1 b3.2)
  have e2 := putS_size b1 b2
  have e3 := putS_size b4 b5
  have e4 := putS_size b6 b7
  have e5 := putS_size b8 b9
  have e6 := text_size h1
  have e7 := text_size h2
  have e8 := num_size (zig_lt b10.1 b10.2)
  have e9 := text_size h3
  unfold OpV.put putO
  rw [size_app] at e6 e7 e9
  simp only [size_app]
  omega
theorem opput_small {o : OpV} (h : o.Fine) (h1 : o.nm.size ≤ 300) (h2 : o.nw.size ≤ 300) (h3 : o.dt.size ≤ 300) : o.put.size ≤ 2000 := by
  obtain ⟨⟨b1, b2, b3, b4, b5, b6, b7, b8, b9, b10⟩, -, -, -⟩ := h
  have e1 := num_size (zig_lt b3.1 b3.2)
  have e2 := putS_size b1 b2
  have e3 := putS_size b4 b5
  have e4 := putS_size b6 b7
  have e5 := putS_size b8 b9
  have e6 := num_size (n := o.nm.size) (by omega)
  have e7 := num_size (n := o.nw.size) (by omega)
  have e8 := num_size (zig_lt b10.1 b10.2)
  have e9 := num_size (n := o.dt.size) (by omega)
  unfold OpV.put putO
  simp only [size_app]
  omega
theorem put_sizes {m : MsgV} (h : m.Ok) : (strOfNums (num (zig m.q))).size + (putV m.deps).size + m.opv.put.size ≤ 9223372036854775807 := by
  have e1 := num_size (zig_lt h.q.1 h.q.2)
  have e2 := putV_size m.deps h.deps
  have e3 := opput_size h.op
  have e4 := m.deps_len
  omega
theorem mput_size {m : MsgV} (h : m.Ok) : m.put.size ≤ 90 + m.opv.put.size := by
  have e1 := num_size (zig_lt h.q.1 h.q.2)
  have e2 := putV_size m.deps h.deps
  have e4 := m.deps_len
  unfold MsgV.put
  simp only [size_app]
  omega
theorem cau_Put (m : MsgV) (h : m.Ok) (w : World) : Calls Tryz.prog 21 #[.agg (msgC m)] w fun e w' => e = .returned (.string m.put) ∧ Below w.heap.size w w' :=
  cauPut_walk m _ _ _ (put_sizes h) w ⟨pack_Int m.q h.q.1 h.q.2⟩ ⟨vec_Put m.deps rfl h.deps⟩ ⟨op_Put h.op.rng h.op.nm h.op.nw h.op.dt⟩
theorem ref_Put17 (m : MsgV) (h : m.Ok) (w : World) : Calls Tryz.prog 23 #[.agg (msgC m)] w fun e w' => e = .returned (.string m.put) ∧ Below w.heap.size w w' :=
  refPut_walk17 m _ _ _ (put_sizes h) w ⟨ref_Int m.q h.q.1 h.q.2⟩ ⟨ref_vecPut m.deps rfl h.deps⟩ ⟨ref_Put h.op.rng h.op.nm h.op.nw h.op.dt⟩
theorem cau_Take (s : ByteArray) (hs : s.size ≤ 140737488355328) (w : World) : Calls Tryz.prog 18 #[.string s] w fun e w' => e = .returned (mV (takeM s)) ∧ Below w.heap.size w w' := by
  rw [takeM_val]
  obtain ⟨hz1, hz2⟩ := z_sizes hs
  refine cauTake_walk (rawM s) s (z1 s) (z2 s) (z3 s) _ _ _ _ w ⟨fun w => ?_⟩ ⟨fun w => ?_⟩ ⟨fun w => ?_⟩ ⟨msg_May (rawM s) (rawM_dt s)⟩
  · rw [← tiT_code]; exact take_i s hs w
  · have h := vec_Take (z1 s) hz1 w
    rw [tvV_code, vec_dc (m := rawM s) (tvT_len (z1 s)).1 rfl rfl rfl rfl rfl rfl rfl rfl] at h
    exact h
  · have h := op_Take (z2 s) hz2 w
    rw [toV_code] at h
    exact h
theorem ref_Take17 (s : ByteArray) (hs : s.size ≤ 140737488355328) (w : World) : Calls Tryz.prog 19 #[.string s] w fun e w' => e = .returned (mV (takeM s)) ∧ Below w.heap.size w w' := by
  rw [takeM_val]
  obtain ⟨hz1, hz2⟩ := z_sizes hs
  refine refTake_walk17 (rawM s) s (z1 s) (z2 s) (z3 s) _ _ _ _ w ⟨fun w => ?_⟩ ⟨fun w => ?_⟩ ⟨fun w => ?_⟩ ⟨ref_May17 (rawM s) (rawM_dt s)⟩
  · rw [← tiT_code]; exact ref_takeI s hs w
  · have h := ref_vecTake (z1 s) hz1 w
    rw [tvV_code, vec_dc (m := rawM s) (tvT_len (z1 s)).1 rfl rfl rfl rfl rfl rfl rfl rfl] at h
    exact h
  · have h := ref_Take (z2 s) hz2 w
    rw [toV_code] at h
    exact h
def fewO (o : OpV) : Bool := decide (o.nm.size ≤ 300) && decide (o.nw.size ≤ 300) && decide (o.dt.size ≤ 300)
set_option maxHeartbeats 1000000 in
set_option maxRecDepth 100000 in
theorem few_c (o : OpV) (w : World) : Calls Tryz.prog 17 #[.agg #[.int .i64 o.t, .int .i64 o.r, .int .i64 o.k, .int .i64 o.a0, .int .i64 o.a1, .int .i64 o.i0, .int .i64 o.i1, .int .i64 o.t0, .int .i64 o.t1, .string o.nm, .string o.nw, .int .i64 o.off, .string o.dt]] w fun e w' => e = .returned (.bool (fewO o)) ∧ Below w.heap.size w w' := by
  by_cases h1 : o.nm.size ≤ 300
  · have d1 : decide ((o.nm.size : Int) ≤ 300) = true := decide_eq_true (by omega)
    by_cases h2 : o.nw.size ≤ 300
    · have d2 : decide ((o.nw.size : Int) ≤ 300) = true := decide_eq_true (by omega)
      have hv : Hd (fewO o = decide ((o.dt.size : Int) ≤ 300)) := ⟨by unfold fewO; rw [Bool.eq_iff_iff]; simp [h1, h2]; omega⟩
      clear h1 h2
      go_enter Tryz.func17, Tryz.ntmps17
      go_wp2_with fail
      go_ret
      exact ⟨by rw [hv.out]; rfl, (Below.refl _ _).alloc (Nat.le_refl _) _⟩
    · have d2 : decide ((o.nw.size : Int) ≤ 300) = false := decide_eq_false (by omega)
      have hv : Hd (fewO o = false) := ⟨by unfold fewO; simp [h1, h2]⟩
      clear h1 h2
      go_enter Tryz.func17, Tryz.ntmps17
      go_wp2_with fail
      go_ret
      exact ⟨by rw [hv.out]; rfl, (Below.refl _ _).alloc (Nat.le_refl _) _⟩
  · have d1 : decide ((o.nm.size : Int) ≤ 300) = false := decide_eq_false (by omega)
    have hv : Hd (fewO o = false) := ⟨by unfold fewO; simp [h1]⟩
    clear h1
    go_enter Tryz.func17, Tryz.ntmps17
    go_wp2_with fail
    go_ret
    exact ⟨by rw [hv.out]; rfl, (Below.refl _ _).alloc (Nat.le_refl _) _⟩
theorem eqSelfO (d : Nat) (w : World) (m : MsgV) : (Op.equalIn (d + 3) 36 (.agg #[.int .i64 m.t, .int .i64 m.r, .int .i64 m.k, .int .i64 m.a0, .int .i64 m.a1, .int .i64 m.i0, .int .i64 m.i1, .int .i64 m.t0, .int .i64 m.t1, .string m.nm, .string m.nw, .int .i64 m.off, .string m.dt]) (.agg #[.int .i64 m.t, .int .i64 m.r, .int .i64 m.k, .int .i64 m.a0, .int .i64 m.a1, .int .i64 m.i0, .int .i64 m.i1, .int .i64 m.t0, .int .i64 m.t1, .string m.nm, .string m.nw, .int .i64 m.off, .string m.dt])).run Tryz.prog w = .ok true w := by
  have h := eqOpG d w m.opv m.opv
  rw [(eqO_iff m.opv m.opv).2 rfl] at h
  exact h
theorem eqSelfV (d : Nat) (w : World) (m : MsgV) : (Op.equalIn (d + 2) 32 (.agg ([.int .i64 m.d0, .int .i64 m.d1, .int .i64 m.d2, .int .i64 m.d3, .int .i64 m.d4, .int .i64 m.d5, .int .i64 m.d6, .int .i64 m.d7]).toArray) (.agg ([.int .i64 m.d0, .int .i64 m.d1, .int .i64 m.d2, .int .i64 m.d3, .int .i64 m.d4, .int .i64 m.d5, .int .i64 m.d6, .int .i64 m.d7]).toArray)).run Tryz.prog w = .ok true w := by
  have h := eqVec d (a := m.deps) (b := m.deps) rfl rfl w
  rw [show eqV m.deps m.deps = true from by unfold eqV; simp] at h
  exact h
attribute [local go_sem high] eqSelfO eqSelfV
set_option maxHeartbeats 1000000 in
set_option maxRecDepth 100000 in
theorem law_same (m : MsgV) (w : World) : Calls Tryz.prog 13 #[.agg (msgC m), .agg (msgC m)] w fun e w' => e = .returned (.bool true) ∧ Below w.heap.size w w' := by
  show Calls Tryz.prog 13 #[.agg #[.int .i64 m.q, .int .i64 m.d0, .int .i64 m.d1, .int .i64 m.d2, .int .i64 m.d3, .int .i64 m.d4, .int .i64 m.d5, .int .i64 m.d6, .int .i64 m.d7, .int .i64 m.t, .int .i64 m.r, .int .i64 m.k, .int .i64 m.a0, .int .i64 m.a1, .int .i64 m.i0, .int .i64 m.i1, .int .i64 m.t0, .int .i64 m.t1, .string m.nm, .string m.nw, .int .i64 m.off, .string m.dt], .agg #[.int .i64 m.q, .int .i64 m.d0, .int .i64 m.d1, .int .i64 m.d2, .int .i64 m.d3, .int .i64 m.d4, .int .i64 m.d5, .int .i64 m.d6, .int .i64 m.d7, .int .i64 m.t, .int .i64 m.r, .int .i64 m.k, .int .i64 m.a0, .int .i64 m.a1, .int .i64 m.i0, .int .i64 m.i1, .int .i64 m.t0, .int .i64 m.t1, .string m.nm, .string m.nw, .int .i64 m.off, .string m.dt]] w _
  have K0 := Hd.mk (Holds.start2 w (.cells #[.int .i64 m.q, .int .i64 m.d0, .int .i64 m.d1, .int .i64 m.d2, .int .i64 m.d3, .int .i64 m.d4, .int .i64 m.d5, .int .i64 m.d6, .int .i64 m.d7, .int .i64 m.t, .int .i64 m.r, .int .i64 m.k, .int .i64 m.a0, .int .i64 m.a1, .int .i64 m.i0, .int .i64 m.i1, .int .i64 m.t0, .int .i64 m.t1, .string m.nm, .string m.nw, .int .i64 m.off, .string m.dt] 38 (0, 0)) (.cells #[.int .i64 m.q, .int .i64 m.d0, .int .i64 m.d1, .int .i64 m.d2, .int .i64 m.d3, .int .i64 m.d4, .int .i64 m.d5, .int .i64 m.d6, .int .i64 m.d7, .int .i64 m.t, .int .i64 m.r, .int .i64 m.k, .int .i64 m.a0, .int .i64 m.a1, .int .i64 m.i0, .int .i64 m.i1, .int .i64 m.t0, .int .i64 m.t1, .string m.nm, .string m.nw, .int .i64 m.off, .string m.dt] 41 (0, 0)))
  go_enter Tryz.func13, Tryz.ntmps13
  go_upto_region 1 with (fail)
  refine world_gen _ K0.out (fun W hK => ?_)
  have K1 := Hd.mk hK
  clear hK K0
  have g0 := cell_of_row W _ 0 _ _ _ (K1.out.get 0 rfl)
  have g1 := cell_of_row W _ 0 _ _ _ (K1.out.get 1 rfl)
  go_wp2_with (first | (refine gate_guard (by rfl) ?_; (with_reducible refine gate_dst (N := 12) rfl ?_); refine wpList_load_mid rfl _ _ rfl w.heap.size 1 rfl [.int .i64 m.d0, .int .i64 m.d1, .int .i64 m.d2, .int .i64 m.d3, .int .i64 m.d4, .int .i64 m.d5, .int .i64 m.d6, .int .i64 m.d7] _ (fun j v hj => (cell_of_row W _ _ _ _ _ (K1.out.get 1 rfl)).trans (eight_at rfl rfl rfl rfl rfl rfl rfl rfl j v hj)) Tryz.underlying32 rfl size_vecM ?_) | (refine gate_guard (by rfl) ?_; (with_reducible refine gate_dst (N := 14) rfl ?_); refine wpList_load_mid rfl _ _ rfl (w.heap.size + 1) 1 rfl [.int .i64 m.d0, .int .i64 m.d1, .int .i64 m.d2, .int .i64 m.d3, .int .i64 m.d4, .int .i64 m.d5, .int .i64 m.d6, .int .i64 m.d7] _ (fun j v hj => (cell_of_row W _ _ _ _ _ (K1.out.get 0 rfl)).trans (eight_at rfl rfl rfl rfl rfl rfl rfl rfl j v hj)) Tryz.underlying22 rfl size_e8 ?_) | (refine gate_guard (by rfl) ?_; (with_reducible refine gate_dst (N := 19) rfl ?_); refine wpList_load_mid rfl _ _ rfl w.heap.size 9 rfl #[.int .i64 m.t, .int .i64 m.r, .int .i64 m.k, .int .i64 m.a0, .int .i64 m.a1, .int .i64 m.i0, .int .i64 m.i1, .int .i64 m.t0, .int .i64 m.t1, .string m.nm, .string m.nw, .int .i64 m.off, .string m.dt].toList _ (fun j v hj => (cell_of_row W _ _ _ _ _ (K1.out.get 1 rfl)).trans (by simpa [Nat.add_comm] using hj)) Tryz.underlying36 rfl size_opM ?_) | (refine gate_guard (by rfl) ?_; (with_reducible refine gate_dst (N := 21) rfl ?_); refine wpList_load_mid rfl _ _ rfl (w.heap.size + 1) 9 rfl #[.int .i64 m.t, .int .i64 m.r, .int .i64 m.k, .int .i64 m.a0, .int .i64 m.a1, .int .i64 m.i0, .int .i64 m.i1, .int .i64 m.t0, .int .i64 m.t1, .string m.nm, .string m.nw, .int .i64 m.off, .string m.dt].toList _ (fun j v hj => (cell_of_row W _ _ _ _ _ (K1.out.get 0 rfl)).trans (by simpa [Nat.add_comm] using hj)) Tryz.underlying36 rfl size_opM ?_))
  go_ret
  exact ⟨rfl, K1.out.2⟩
end Go.Proofs.YtcgkkjfbdappoaaGreat
