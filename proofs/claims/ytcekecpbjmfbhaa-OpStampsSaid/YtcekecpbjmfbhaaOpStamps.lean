/- The law OpStamps: the walk. -/
import Derived.Test.YtcekecpbjmfbhaaOpPut
import Derived.Test.YtcekecpbjmfbhaaRefStamps
namespace Go.Proofs.Ytcekecpbjmfbhaa.opStamps
open Go.RowKit Go.Proofs.YtcekecpbjmfbhaaW.PrintWords Go.Proofs.YtcekecpbjmfbhaaW.PrintLast Go.Proofs.YtcekecpbjmfbhaaW.PrintMore Pk
set_option linter.unusedVariables false
set_option linter.unusedSimpArgs false
attribute [local go_sem high] eqStamp

theorem tkS_put (t r : Int) (ht : Rng t) (hr : Rng r) (s : ByteArray) :
    tkS (putS t r ++ s).data.toList = if mayS t r = true then some (t, r, s.data.toList) else none := by
  have e : (putS t r ++ s).data.toList = numB (zig t) ++ (numB (zig r) ++ s.data.toList) := by
    unfold putS; rw [append_list, append_list, numB_str, numB_str]; simp
  rw [e]
  unfold tkS
  rw [tk_back (zig_lt ht.1 ht.2)]
  show (match tk (numB (zig r) ++ s.data.toList) 0 0 with | none => none | some (m, q) => _) = _
  rw [tk_back (zig_lt hr.1 hr.2), unzig_zig]
  show (if mayS t (unzig (zig r)) = true then some (t, unzig (zig r), s.data.toList) else none) = _
  rw [unzig_zig]
theorem putS_inj {t r t' r' : Int} (ht : Rng t) (hr : Rng r) (ht' : Rng t') (hr' : Rng r') (h1 : mayS t r = true) (h2 : mayS t' r' = true) {s s' : ByteArray} (h : putS t r ++ s = putS t' r' ++ s') : t = t' ∧ r = r' := by
  have e1 := tkS_put t r ht hr s
  have e2 := tkS_put t' r' ht' hr' s'
  rw [if_pos h1] at e1
  rw [if_pos h2, ← h, e1] at e2
  simp only [Option.some.injEq, Prod.mk.injEq] at e2
  exact ⟨e2.1, e2.2.1⟩
theorem left_cancel {a b c : ByteArray} (h : a ++ b = a ++ c) : b = c := by
  have := congrArg (fun x : ByteArray => x.data.toList) h
  simp only [append_list] at this
  have := List.append_cancel_left this
  cases b; cases c
  congr 1
  exact Array.toList_inj.1 this
/-- Bytes are unlike, where stamps are. -/
theorem puts_unlike {t r t' r' k a0 a1 i0 i1 t0 t1 : Int} {nm nw : ByteArray} {off : Int} {dt : ByteArray} (ht : Rng t) (hr : Rng r) (ht' : Rng t') (hr' : Rng r') (h1 : mayS t r = true) (h2 : mayS t' r' = true) :
    putO t' r' k a0 a1 i0 i1 t0 t1 nm nw off dt = putO t r k a0 a1 i0 i1 t0 t1 nm nw off dt ↔ (t' = t ∧ r' = r) := by
  constructor
  · intro h
    unfold putO at h
    simp only [ByteArray.append_assoc] at h
    exact putS_inj ht' hr' ht hr h2 h1 (left_cancel h)
  · rintro ⟨rfl, rfl⟩; rfl
theorem may_swap {t r t' r' k a0 a1 i0 i1 t0 t1 : Int} {nm nw : ByteArray} {off : Int} {dt : ByteArray} (h : mayO t r k a0 a1 i0 i1 t0 t1 nm nw off dt = true) (h2 : mayS t' r' = true) (h3 : isZ t' r' = false) : mayS t r = true ∧ mayO t' r' k a0 a1 i0 i1 t0 t1 nm nw off dt = true := by
  unfold mayO at h ⊢
  simp only [Bool.and_eq_true] at h ⊢
  obtain ⟨⟨⟨⟨q1, q2⟩, q3⟩, q4⟩, q5⟩ := h
  exact ⟨q3, ⟨⟨⟨q1, q2⟩, h2⟩, by rw [h3]; rfl⟩, q5⟩
theorem size_op : (Try.prog.info? 50).map (·.size) = some 13 := by kernel_rfl
set_option maxHeartbeats 4000000 in
set_option maxRecDepth 100000 in
theorem stamps_idle (t r k a0 a1 i0 i1 t0 t1 : Int) (nm nw : ByteArray) (off : Int) (dt : ByteArray) (hd : dt.size ≤ 140737488355328) (tm rp : Nat) (h : 300 < nm.size ∨ 300 < nw.size ∨ 300 < dt.size ∨ mayO t r k a0 a1 i0 i1 t0 t1 nm nw off dt = false) (w : World) :
    Calls Try.prog 11 #[.agg #[.int .i64 t, .int .i64 r, .int .i64 k, .int .i64 a0, .int .i64 a1, .int .i64 i0, .int .i64 i1, .int .i64 t0, .int .i64 t1, .string nm, .string nw, .int .i64 off, .string dt], .int .u32 (tm : Int), .int .u8 (rp : Int)] w fun e w' => e = .returned (.bool true) ∧ Below w.heap.size w w' := by
  have HS := Hd.mk op_shown
  have HM := Hd.mk (op_May t r k a0 a1 i0 i1 t0 t1 nm nw off dt hd)
  have K0 := Hd.mk (Holds.start1 w (.cells #[.int .i64 t, .int .i64 r, .int .i64 k, .int .i64 a0, .int .i64 a1, .int .i64 i0, .int .i64 i1, .int .i64 t0, .int .i64 t1, .string nm, .string nw, .int .i64 off, .string dt] 50 (0, 0)))
  clear hd
  by_cases h1 : 300 < nm.size
  · have d1 : (300 : Int) < (nm.size : Int) := by omega
    have e1 : decide ((300 : Int) < (nm.size : Int)) = true := decide_eq_true d1
    clear h h1
    go_enter Try.func11, Try.ntmps11
    go_wp2_with fail
    refine world_gen_calls _ K0.out (fun W hK => ?_)
    have K0 := Hd.mk hK
    clear hK
    refine (HS.out _).mono ?_; rintro e w1 ⟨rfl, hb1⟩
    have K1 := Hd.mk (K0.out.call hb1)
    clear hb1 K0
    have g0 := cell_of_row w1 _ 0 _ _ _ (K1.out.get 0 rfl)
    have g1 := cell_of_row w1 _ 1 _ _ _ (K1.out.get 0 rfl)
    have g2 := cell_of_row w1 _ 2 _ _ _ (K1.out.get 0 rfl)
    have g3 := cell_of_row w1 _ 3 _ _ _ (K1.out.get 0 rfl)
    have g4 := cell_of_row w1 _ 4 _ _ _ (K1.out.get 0 rfl)
    have g5 := cell_of_row w1 _ 5 _ _ _ (K1.out.get 0 rfl)
    have g6 := cell_of_row w1 _ 6 _ _ _ (K1.out.get 0 rfl)
    have g7 := cell_of_row w1 _ 7 _ _ _ (K1.out.get 0 rfl)
    have g8 := cell_of_row w1 _ 8 _ _ _ (K1.out.get 0 rfl)
    have g9 := cell_of_row w1 _ 9 _ _ _ (K1.out.get 0 rfl)
    have g10 := cell_of_row w1 _ 10 _ _ _ (K1.out.get 0 rfl)
    have g11 := cell_of_row w1 _ 11 _ _ _ (K1.out.get 0 rfl)
    have g12 := cell_of_row w1 _ 12 _ _ _ (K1.out.get 0 rfl)
    go_wp2_with fail
    go_ret
    exact ⟨rfl, K1.out.2⟩
  · have d1 : ¬ (300 : Int) < (nm.size : Int) := by omega
    have e1 : decide ((300 : Int) < (nm.size : Int)) = false := decide_eq_false d1
    by_cases h2 : 300 < nw.size
    · have d2 : (300 : Int) < (nw.size : Int) := by omega
      have e2 : decide ((300 : Int) < (nw.size : Int)) = true := decide_eq_true d2
      clear h h1 h2
      go_enter Try.func11, Try.ntmps11
      go_wp2_with fail
      refine world_gen_calls _ K0.out (fun W hK => ?_)
      have K0 := Hd.mk hK
      clear hK
      refine (HS.out _).mono ?_; rintro e w1 ⟨rfl, hb1⟩
      have K1 := Hd.mk (K0.out.call hb1)
      clear hb1 K0
      have g0 := cell_of_row w1 _ 0 _ _ _ (K1.out.get 0 rfl)
      have g1 := cell_of_row w1 _ 1 _ _ _ (K1.out.get 0 rfl)
      have g2 := cell_of_row w1 _ 2 _ _ _ (K1.out.get 0 rfl)
      have g3 := cell_of_row w1 _ 3 _ _ _ (K1.out.get 0 rfl)
      have g4 := cell_of_row w1 _ 4 _ _ _ (K1.out.get 0 rfl)
      have g5 := cell_of_row w1 _ 5 _ _ _ (K1.out.get 0 rfl)
      have g6 := cell_of_row w1 _ 6 _ _ _ (K1.out.get 0 rfl)
      have g7 := cell_of_row w1 _ 7 _ _ _ (K1.out.get 0 rfl)
      have g8 := cell_of_row w1 _ 8 _ _ _ (K1.out.get 0 rfl)
      have g9 := cell_of_row w1 _ 9 _ _ _ (K1.out.get 0 rfl)
      have g10 := cell_of_row w1 _ 10 _ _ _ (K1.out.get 0 rfl)
      have g11 := cell_of_row w1 _ 11 _ _ _ (K1.out.get 0 rfl)
      have g12 := cell_of_row w1 _ 12 _ _ _ (K1.out.get 0 rfl)
      go_wp2_with fail
      go_ret
      exact ⟨rfl, K1.out.2⟩
    · have d2 : ¬ (300 : Int) < (nw.size : Int) := by omega
      have e2 : decide ((300 : Int) < (nw.size : Int)) = false := decide_eq_false d2
      by_cases h3 : 300 < dt.size
      · have d3 : (300 : Int) < (dt.size : Int) := by omega
        have e3 : decide ((300 : Int) < (dt.size : Int)) = true := decide_eq_true d3
        clear h h1 h2 h3
        go_enter Try.func11, Try.ntmps11
        go_wp2_with fail
        refine world_gen_calls _ K0.out (fun W hK => ?_)
        have K0 := Hd.mk hK
        clear hK
        refine (HS.out _).mono ?_; rintro e w1 ⟨rfl, hb1⟩
        have K1 := Hd.mk (K0.out.call hb1)
        clear hb1 K0
        have g0 := cell_of_row w1 _ 0 _ _ _ (K1.out.get 0 rfl)
        have g1 := cell_of_row w1 _ 1 _ _ _ (K1.out.get 0 rfl)
        have g2 := cell_of_row w1 _ 2 _ _ _ (K1.out.get 0 rfl)
        have g3 := cell_of_row w1 _ 3 _ _ _ (K1.out.get 0 rfl)
        have g4 := cell_of_row w1 _ 4 _ _ _ (K1.out.get 0 rfl)
        have g5 := cell_of_row w1 _ 5 _ _ _ (K1.out.get 0 rfl)
        have g6 := cell_of_row w1 _ 6 _ _ _ (K1.out.get 0 rfl)
        have g7 := cell_of_row w1 _ 7 _ _ _ (K1.out.get 0 rfl)
        have g8 := cell_of_row w1 _ 8 _ _ _ (K1.out.get 0 rfl)
        have g9 := cell_of_row w1 _ 9 _ _ _ (K1.out.get 0 rfl)
        have g10 := cell_of_row w1 _ 10 _ _ _ (K1.out.get 0 rfl)
        have g11 := cell_of_row w1 _ 11 _ _ _ (K1.out.get 0 rfl)
        have g12 := cell_of_row w1 _ 12 _ _ _ (K1.out.get 0 rfl)
        go_wp2_with fail
        go_ret
        exact ⟨rfl, K1.out.2⟩
      · have d3 : ¬ (300 : Int) < (dt.size : Int) := by omega
        have e3 : decide ((300 : Int) < (dt.size : Int)) = false := decide_eq_false d3
        have hm : mayO t r k a0 a1 i0 i1 t0 t1 nm nw off dt = false := by rcases h with h | h | h | h; exact absurd h h1; exact absurd h h2; exact absurd h h3; exact h
        rw [hm] at HM
        clear h h1 h2 h3 hm
        go_enter Try.func11, Try.ntmps11
        go_wp2_with fail
        refine world_gen_calls _ K0.out (fun W hK => ?_)
        have K0 := Hd.mk hK
        clear hK
        refine (HS.out _).mono ?_; rintro e w1 ⟨rfl, hb1⟩
        have K1 := Hd.mk (K0.out.call hb1)
        clear hb1 K0
        have g0 := cell_of_row w1 _ 0 _ _ _ (K1.out.get 0 rfl)
        have g1 := cell_of_row w1 _ 1 _ _ _ (K1.out.get 0 rfl)
        have g2 := cell_of_row w1 _ 2 _ _ _ (K1.out.get 0 rfl)
        have g3 := cell_of_row w1 _ 3 _ _ _ (K1.out.get 0 rfl)
        have g4 := cell_of_row w1 _ 4 _ _ _ (K1.out.get 0 rfl)
        have g5 := cell_of_row w1 _ 5 _ _ _ (K1.out.get 0 rfl)
        have g6 := cell_of_row w1 _ 6 _ _ _ (K1.out.get 0 rfl)
        have g7 := cell_of_row w1 _ 7 _ _ _ (K1.out.get 0 rfl)
        have g8 := cell_of_row w1 _ 8 _ _ _ (K1.out.get 0 rfl)
        have g9 := cell_of_row w1 _ 9 _ _ _ (K1.out.get 0 rfl)
        have g10 := cell_of_row w1 _ 10 _ _ _ (K1.out.get 0 rfl)
        have g11 := cell_of_row w1 _ 11 _ _ _ (K1.out.get 0 rfl)
        have g12 := cell_of_row w1 _ 12 _ _ _ (K1.out.get 0 rfl)
        go_wp2_with fail
        refine (HM.out _).mono ?_; rintro e w2 ⟨rfl, hb2⟩
        have K2 := Hd.mk (K1.out.call hb2)
        clear hb2 K1
        clear g0 g1 g2 g3 g4 g5 g6 g7 g8 g9 g10 g11 g12
        go_wp2_with fail
        go_ret
        exact ⟨rfl, K2.out.2⟩
set_option maxHeartbeats 8000000 in
set_option maxRecDepth 100000 in
theorem stamps_main (t r k a0 a1 i0 i1 t0 t1 : Int) (nm nw : ByteArray) (off : Int) (dt : ByteArray) (tm rp : Nat) (htm : tm < 4294967296) (hrp : rp < 256) (h1 : nm.size ≤ 300) (h2 : nw.size ≤ 300) (h3 : dt.size ≤ 300) (hr : OpRng t r k a0 a1 i0 i1 t0 t1 off) (hm : mayO t r k a0 a1 i0 i1 t0 t1 nm nw off dt = true) (w : World) :
    Calls Try.prog 11 #[.agg #[.int .i64 t, .int .i64 r, .int .i64 k, .int .i64 a0, .int .i64 a1, .int .i64 i0, .int .i64 i1, .int .i64 t0, .int .i64 t1, .string nm, .string nw, .int .i64 off, .string dt], .int .u32 (tm : Int), .int .u8 (rp : Int)] w fun e w' => e = .returned (.bool true) ∧ Below w.heap.size w w' := by
  obtain ⟨c, hc⟩ : ∃ c : Nat, c = tm % 1000 := ⟨_, rfl⟩
  obtain ⟨d, hd⟩ : ∃ d : Nat, d = rp % 8 := ⟨_, rfl⟩
  obtain ⟨t', ht'⟩ : ∃ t' : Int, t' = 1 + (c : Int) := ⟨_, rfl⟩
  obtain ⟨r', hr'⟩ : ∃ r' : Int, r' = (d : Int) := ⟨_, rfl⟩
  have hm2 : mayS t' r' = true := decide_eq_true (.inr (by omega))
  have hz2 : isZ t' r' = false := by unfold isZ; rw [Bool.and_eq_false_iff]; left; rw [beq_eq_false_iff_ne]; omega
  obtain ⟨hm1, hmx⟩ := may_swap hm hm2 hz2
  have HS := Hd.mk op_shown
  have HM := Hd.mk (op_May t r k a0 a1 i0 i1 t0 t1 nm nw off dt (by omega))
  have HMX := Hd.mk (op_May t' r' k a0 a1 i0 i1 t0 t1 nm nw off dt (by omega))
  rw [hm] at HM
  rw [hmx] at HMX
  have hrx : OpRng t' r' k a0 a1 i0 i1 t0 t1 off := ⟨⟨by omega, by omega⟩, ⟨by omega, by omega⟩, hr.2.2⟩
  have HP := Hd.mk (op_Put hr (nm := nm) (nw := nw) (dt := dt) (by omega) (by omega) (by omega))
  have HPX := Hd.mk (op_Put hrx (nm := nm) (nw := nw) (dt := dt) (by omega) (by omega) (by omega))
  have hun := puts_unlike (k := k) (a0 := a0) (a1 := a1) (i0 := i0) (i1 := i1) (t0 := t0) (t1 := t1) (nm := nm) (nw := nw) (off := off) (dt := dt) hr.1 hr.2.1 hrx.1 hrx.2.1 hm1 hm2
  obtain ⟨p, hp⟩ : ∃ p, p = putO t r k a0 a1 i0 i1 t0 t1 nm nw off dt := ⟨_, rfl⟩
  obtain ⟨px, hpx⟩ : ∃ p, p = putO t' r' k a0 a1 i0 i1 t0 t1 nm nw off dt := ⟨_, rfl⟩
  rw [← hp] at HP hun
  rw [← hpx] at HPX hun
  have HK := Hd.mk (op_Makes t r k a0 a1 i0 i1 t0 t1 off nm nw dt)
  have HKX := Hd.mk (op_Makes t' r' k a0 a1 i0 i1 t0 t1 off nm nw dt)
  have HU := Hd.mk (op_Uses t r k a0 a1 i0 i1 t0 t1 off nm nw dt)
  have HUX := Hd.mk (op_Uses t' r' k a0 a1 i0 i1 t0 t1 off nm nw dt)
  have hul : (usesO k a0 a1 i0 i1 t0 t1).length ≤ 1000000 := by have := usesAt_len (fieldsN k) (a0, a1) (i0, i1) (t0, t1) 3; unfold usesO; omega
  have HST : Hd (∀ (v1 v2 : Value) (w : World), (∃ c, stE.Own c w v1 (usesO k a0 a1 i0 i1 t0 t1)) → (∃ c, stE.Own c w v2 (usesO k a0 a1 i0 i1 t0 t1)) → Calls Try.prog 30 #[v1, v2] w fun e w' => e = .returned (.bool true) ∧ Below w.heap.size w w') := ⟨fun v1 v2 w ⟨_, g1⟩ ⟨_, g2⟩ => ref_Stamps_same g1 g2 hul⟩
  generalize usesO k a0 a1 i0 i1 t0 t1 = U at *
  generalize makesN k = mk at *
  have hk1 : ((tm : Int) % 1000) = (c : Int) := by omega
  have hk2 : Int.tmod (tm : Int) 1000 = (c : Int) := by rw [Int.tmod_eq_emod_of_nonneg (by omega)]; exact hk1
  have hk3 : IntKind.i64.wrap (c : Int) = (c : Int) := by rw [IntKind.wrap_i64]; omega
  have hk4 : ((rp : Int) % 8) = (d : Int) := by omega
  have hk5 : Int.tmod (rp : Int) 8 = (d : Int) := by rw [Int.tmod_eq_emod_of_nonneg (by omega)]; exact hk4
  have hk6 : IntKind.i64.wrap (d : Int) = (d : Int) := by rw [IntKind.wrap_i64]; omega
  have hk7 : IntKind.i64.wrap (1 + (c : Int)) = 1 + (c : Int) := by rw [IntKind.wrap_i64]; omega
  have d1 : ¬ (300 : Int) < (nm.size : Int) := by omega
  have d2 : ¬ (300 : Int) < (nw.size : Int) := by omega
  have d3 : ¬ (300 : Int) < (dt.size : Int) := by omega
  have e1 : decide ((300 : Int) < (nm.size : Int)) = false := decide_eq_false d1
  have e2 : decide ((300 : Int) < (nw.size : Int)) = false := decide_eq_false d2
  have e3 : decide ((300 : Int) < (dt.size : Int)) = false := decide_eq_false d3
  have K0 := Hd.mk (Holds.start1 w (.cells #[.int .i64 t, .int .i64 r, .int .i64 k, .int .i64 a0, .int .i64 a1, .int .i64 i0, .int .i64 i1, .int .i64 t0, .int .i64 t1, .string nm, .string nw, .int .i64 off, .string dt] 50 (0, 0)))
  have HT' := Hd.mk ht'.symm
  have HR' := Hd.mk hr'.symm
  have HUN := Hd.mk hun
  clear hun ht' hr' hp hpx hm1 hmx hm hm2 hz2 hr hrx h1 h2 h3 hul hrp htm hc hd
  go_enter Try.func11, Try.ntmps11
  go_wp2_with fail
  refine world_gen_calls _ K0.out (fun W hK => ?_)
  have K0 := Hd.mk hK
  clear hK
  refine (HS.out _).mono ?_; rintro e w1 ⟨rfl, hb1⟩
  have K1 := Hd.mk (K0.out.call hb1)
  clear hb1 K0
  have g0 := cell_of_row w1 _ 0 _ _ _ (K1.out.get 0 rfl)
  have g1 := cell_of_row w1 _ 1 _ _ _ (K1.out.get 0 rfl)
  have g2 := cell_of_row w1 _ 2 _ _ _ (K1.out.get 0 rfl)
  have g3 := cell_of_row w1 _ 3 _ _ _ (K1.out.get 0 rfl)
  have g4 := cell_of_row w1 _ 4 _ _ _ (K1.out.get 0 rfl)
  have g5 := cell_of_row w1 _ 5 _ _ _ (K1.out.get 0 rfl)
  have g6 := cell_of_row w1 _ 6 _ _ _ (K1.out.get 0 rfl)
  have g7 := cell_of_row w1 _ 7 _ _ _ (K1.out.get 0 rfl)
  have g8 := cell_of_row w1 _ 8 _ _ _ (K1.out.get 0 rfl)
  have g9 := cell_of_row w1 _ 9 _ _ _ (K1.out.get 0 rfl)
  have g10 := cell_of_row w1 _ 10 _ _ _ (K1.out.get 0 rfl)
  have g11 := cell_of_row w1 _ 11 _ _ _ (K1.out.get 0 rfl)
  have g12 := cell_of_row w1 _ 12 _ _ _ (K1.out.get 0 rfl)
  go_wp2_with fail
  refine (HM.out _).mono ?_; rintro e w2 ⟨rfl, hb2⟩
  have K2 := Hd.mk (K1.out.call hb2)
  clear hb2 K1 HM HS
  clear g0 g1 g2 g3 g4 g5 g6 g7 g8 g9 g10 g11 g12
  have g0 := cell_of_row w2 _ 0 _ _ _ (K2.out.get 0 rfl)
  have g1 := cell_of_row w2 _ 1 _ _ _ (K2.out.get 0 rfl)
  have g2 := cell_of_row w2 _ 2 _ _ _ (K2.out.get 0 rfl)
  have g3 := cell_of_row w2 _ 3 _ _ _ (K2.out.get 0 rfl)
  have g4 := cell_of_row w2 _ 4 _ _ _ (K2.out.get 0 rfl)
  have g5 := cell_of_row w2 _ 5 _ _ _ (K2.out.get 0 rfl)
  have g6 := cell_of_row w2 _ 6 _ _ _ (K2.out.get 0 rfl)
  have g7 := cell_of_row w2 _ 7 _ _ _ (K2.out.get 0 rfl)
  have g8 := cell_of_row w2 _ 8 _ _ _ (K2.out.get 0 rfl)
  have g9 := cell_of_row w2 _ 9 _ _ _ (K2.out.get 0 rfl)
  have g10 := cell_of_row w2 _ 10 _ _ _ (K2.out.get 0 rfl)
  have g11 := cell_of_row w2 _ 11 _ _ _ (K2.out.get 0 rfl)
  have g12 := cell_of_row w2 _ 12 _ _ _ (K2.out.get 0 rfl)
  go_upto_region 6 with (fail)
  rw [HT'.out, HR'.out]
  clear hk1 hk2 hk3 hk4 hk5 hk6 hk7
  refine world_gen (fun W_ => Holds w [(w2.heap.size, .cells #[.int .i64 t', .int .i64 r', .int .i64 k, .int .i64 a0, .int .i64 a1, .int .i64 i0, .int .i64 i1, .int .i64 t0, .int .i64 t1, .string nm, .string nw, .int .i64 off, .string dt] 50 (0, 0)), (w.heap.size, .cells #[.int .i64 t, .int .i64 r, .int .i64 k, .int .i64 a0, .int .i64 a1, .int .i64 i0, .int .i64 i1, .int .i64 t0, .int .i64 t1, .string nm, .string nw, .int .i64 off, .string dt] 50 (0, 0))] W_) (K2.out.alloc _) (fun W3 hK => ?_)
  have K3 := Hd.mk hK
  clear hK K2
  clear g0 g1 g2 g3 g4 g5 g6 g7 g8 g9 g10 g11 g12
  generalize w2.heap.size = bx at *
  have hue : (px.toList == p.toList) = (t' == t && r' == r) := by
    have e : px.toList = p.toList ↔ px = p := ⟨fun h => by rw [str_of h, Lib.toList_data], fun h => by rw [h]⟩
    rw [Bool.eq_iff_iff, beq_iff_eq, e, HUN.out, Bool.and_eq_true, beq_iff_eq, beq_iff_eq]
  refine start_ (n := 33) (S := fun W_ => Holds w [(bx, .cells #[.int .i64 t', .int .i64 r', .int .i64 k, .int .i64 a0, .int .i64 a1, .int .i64 i0, .int .i64 i1, .int .i64 t0, .int .i64 t1, .string nm, .string nw, .int .i64 off, .string dt] 50 (0, 0)), (w.heap.size, .cells #[.int .i64 t, .int .i64 r, .int .i64 k, .int .i64 a0, .int .i64 a1, .int .i64 i0, .int .i64 i1, .int .i64 t0, .int .i64 t1, .string nm, .string nw, .int .i64 off, .string dt] 50 (0, 0))] W_) (ds := []) #[false, false, false, false, false, false, false, false, false, false, false, false, false, false, false, false, false, false, false, false, false, false, false, false, false, false, false, false, false, false, false, false, false] (by kernel_rfl) rfl rfl (K3.out.drew) (fun hHeld => ?_)
  refine pure_ (i := 0) (N := some 42) (v := ?_) (a' := ?_) #[true, false, false, false, false, false, false, false, false, false, false, false, false, false, false, false, false, false, false, false, false, false, false, false, false, false, false, false, false, false, false, false, false] rfl rfl (by kernel_rfl) (fun _ _ _ h => h) (Or.inl ⟨by rfl, ?_⟩) ?_ ?_
  rotate_left
  · intro w_
    go_simp
    try with_reducible rfl
  rotate_left
  · simp only [Act.put, List.setIfInBounds_toArray, List.set_cons_zero, List.set_cons_succ]
    rfl
  refine pure_ (i := 1) (N := some 43) (v := ?_) (a' := ?_) #[true, true, false, false, false, false, false, false, false, false, false, false, false, false, false, false, false, false, false, false, false, false, false, false, false, false, false, false, false, false, false, false, false] rfl rfl (by kernel_rfl) (fun _ _ _ h => h) (Or.inl ⟨by rfl, ?_⟩) ?_ ?_
  rotate_left
  · intro w_
    go_simp
    try with_reducible rfl
  rotate_left
  · simp only [Act.put, List.setIfInBounds_toArray, List.set_cons_zero, List.set_cons_succ]
    rfl
  refine take_ (i := 2) (N := some 44) (v := .agg #[.int .i64 t', .int .i64 r', .int .i64 k, .int .i64 a0, .int .i64 a1, .int .i64 i0, .int .i64 i1, .int .i64 t0, .int .i64 t1, .string nm, .string nw, .int .i64 off, .string dt]) (a' := ?_) #[true, true, true, false, false, false, false, false, false, false, false, false, false, false, false, false, false, false, false, false, false, false, false, false, false, false, false, false, false, false, false, false, false] rfl rfl (by kernel_rfl) (fun _ _ _ h => h) (Or.inl ⟨by rfl, fun w' h => run_load_mid 50 _ rfl bx 0 #[.int .i64 t', .int .i64 r', .int .i64 k, .int .i64 a0, .int .i64 a1, .int .i64 i0, .int .i64 i1, .int .i64 t0, .int .i64 t1, .string nm, .string nw, .int .i64 off, .string dt].toList rfl _ _ _ (h.get 0 rfl) (fun j v hj => by simpa using hj) _ Try.underlying50 rfl size_op⟩) hHeld ?_ ?_
  rotate_left
  · simp only [Act.put, List.setIfInBounds_toArray, List.set_cons_zero, List.set_cons_succ]
    rfl
  refine one_ (i := 3) (N := some 45) #[true, true, true, true, false, false, false, false, false, false, false, false, false, false, false, false, false, false, false, false, false, false, false, false, false, false, false, false, false, false, false, false, false] rfl rfl (by kernel_rfl) (by decide) (fun K hK => ?_)
  refine goes_ Try.func25 (by kernel_rfl) rfl #[.agg #[.int .i64 t', .int .i64 r', .int .i64 k, .int .i64 a0, .int .i64 a1, .int .i64 i0, .int .i64 i1, .int .i64 t0, .int .i64 t1, .string nm, .string nw, .int .i64 off, .string dt]] (by rfl) rfl rfl (by (try simp only [List.map_toArray, List.map_cons, List.map_nil]); first | done | rfl) ?_
  (with_reducible refine (HMX.out _).mono ?_)
  rintro e wr1 ⟨rfl, hr1⟩
  refine ⟨_, rfl, ?_⟩
  refine hK.out _ _ (hHeld.call hr1) (fun hHeld => ?_)
  clear hK K
  refine norm_ (a' := ?_) ?_ ?_
  rotate_left
  · show Act.put _ (some 45) _ = _
    simp only [Act.put, List.setIfInBounds_toArray, List.set_cons_zero, List.set_cons_succ]
    rfl
  refine pure_ (i := 4) (N := some 46) (v := ?_) (a' := ?_) #[true, true, true, true, true, false, false, false, false, false, false, false, false, false, false, false, false, false, false, false, false, false, false, false, false, false, false, false, false, false, false, false, false] rfl rfl (by kernel_rfl) (fun _ _ _ h => h) (Or.inl ⟨by rfl, ?_⟩) ?_ ?_
  rotate_left
  · intro w_
    go_simp
    try with_reducible rfl
  rotate_left
  · simp only [Act.put, List.setIfInBounds_toArray, List.set_cons_zero, List.set_cons_succ]
    rfl
  refine pure_ (i := 5) (N := some 47) (v := ?_) (a' := ?_) #[true, true, true, true, true, true, false, false, false, false, false, false, false, false, false, false, false, false, false, false, false, false, false, false, false, false, false, false, false, false, false, false, false] rfl rfl (by kernel_rfl) (fun _ _ _ h => h) (Or.inl ⟨by rfl, ?_⟩) ?_ ?_
  rotate_left
  · intro w_
    go_simp
    try with_reducible rfl
  rotate_left
  · simp only [Act.put, List.setIfInBounds_toArray, List.set_cons_zero, List.set_cons_succ]
    rfl
  refine take_ (i := 6) (N := some 48) (v := .agg #[.int .i64 t', .int .i64 r', .int .i64 k, .int .i64 a0, .int .i64 a1, .int .i64 i0, .int .i64 i1, .int .i64 t0, .int .i64 t1, .string nm, .string nw, .int .i64 off, .string dt]) (a' := ?_) #[true, true, true, true, true, true, true, false, false, false, false, false, false, false, false, false, false, false, false, false, false, false, false, false, false, false, false, false, false, false, false, false, false] rfl rfl (by kernel_rfl) (fun _ _ _ h => h) (Or.inl ⟨by rfl, fun w' h => run_load_mid 50 _ rfl bx 0 #[.int .i64 t', .int .i64 r', .int .i64 k, .int .i64 a0, .int .i64 a1, .int .i64 i0, .int .i64 i1, .int .i64 t0, .int .i64 t1, .string nm, .string nw, .int .i64 off, .string dt].toList rfl _ _ _ (h.get 0 rfl) (fun j v hj => by simpa using hj) _ Try.underlying50 rfl size_op⟩) hHeld ?_ ?_
  rotate_left
  · simp only [Act.put, List.setIfInBounds_toArray, List.set_cons_zero, List.set_cons_succ]
    rfl
  refine take_ (i := 8) (N := some 50) (v := .agg #[.int .i64 t, .int .i64 r, .int .i64 k, .int .i64 a0, .int .i64 a1, .int .i64 i0, .int .i64 i1, .int .i64 t0, .int .i64 t1, .string nm, .string nw, .int .i64 off, .string dt]) (a' := ?_) #[true, true, true, true, true, true, true, false, true, false, false, false, false, false, false, false, false, false, false, false, false, false, false, false, false, false, false, false, false, false, false, false, false] rfl rfl (by kernel_rfl) (fun _ _ _ h => h) (Or.inl ⟨by rfl, fun w' h => run_load_mid 50 _ rfl w.heap.size 0 #[.int .i64 t, .int .i64 r, .int .i64 k, .int .i64 a0, .int .i64 a1, .int .i64 i0, .int .i64 i1, .int .i64 t0, .int .i64 t1, .string nm, .string nw, .int .i64 off, .string dt].toList rfl _ _ _ (h.get 1 rfl) (fun j v hj => by simpa using hj) _ Try.underlying50 rfl size_op⟩) hHeld ?_ ?_
  rotate_left
  · simp only [Act.put, List.setIfInBounds_toArray, List.set_cons_zero, List.set_cons_succ]
    rfl
  refine pure_ (i := 11) (N := some 53) (v := ?_) (a' := ?_) #[true, true, true, true, true, true, true, false, true, false, false, true, false, false, false, false, false, false, false, false, false, false, false, false, false, false, false, false, false, false, false, false, false] rfl rfl (by kernel_rfl) (fun _ _ _ h => h) (Or.inl ⟨by rfl, ?_⟩) ?_ ?_
  rotate_left
  · intro w_
    go_simp
    try with_reducible rfl
  rotate_left
  · simp only [Act.put, List.setIfInBounds_toArray, List.set_cons_zero, List.set_cons_succ]
    rfl
  refine take_ (i := 12) (N := some 54) (v := .agg #[.int .i64 t', .int .i64 r']) (a' := ?_) #[true, true, true, true, true, true, true, false, true, false, false, true, true, false, false, false, false, false, false, false, false, false, false, false, false, false, false, false, false, false, false, false, false] rfl rfl (by kernel_rfl) (fun _ _ _ h => h) (Or.inl ⟨by rfl, fun w' h => run_load_mid 48 _ rfl bx 0 [.int .i64 t', .int .i64 r'] rfl _ _ _ (h.get 0 rfl) (two_at rfl rfl) _ Try.underlying48 rfl size_stamp⟩) hHeld ?_ ?_
  rotate_left
  · simp only [Act.put, List.setIfInBounds_toArray, List.set_cons_zero, List.set_cons_succ]
    rfl
  refine pure_ (i := 13) (N := some 55) (v := ?_) (a' := ?_) #[true, true, true, true, true, true, true, false, true, false, false, true, true, true, false, false, false, false, false, false, false, false, false, false, false, false, false, false, false, false, false, false, false] rfl rfl (by kernel_rfl) (fun _ _ _ h => h) (Or.inl ⟨by rfl, ?_⟩) ?_ ?_
  rotate_left
  · intro w_
    go_simp
    try with_reducible rfl
  rotate_left
  · simp only [Act.put, List.setIfInBounds_toArray, List.set_cons_zero, List.set_cons_succ]
    rfl
  refine take_ (i := 14) (N := some 56) (v := .agg #[.int .i64 t, .int .i64 r]) (a' := ?_) #[true, true, true, true, true, true, true, false, true, false, false, true, true, true, true, false, false, false, false, false, false, false, false, false, false, false, false, false, false, false, false, false, false] rfl rfl (by kernel_rfl) (fun _ _ _ h => h) (Or.inl ⟨by rfl, fun w' h => run_load_mid 48 _ rfl w.heap.size 0 [.int .i64 t, .int .i64 r] rfl _ _ _ (h.get 1 rfl) (two_at rfl rfl) _ Try.underlying48 rfl size_stamp⟩) hHeld ?_ ?_
  rotate_left
  · simp only [Act.put, List.setIfInBounds_toArray, List.set_cons_zero, List.set_cons_succ]
    rfl
  refine pure_ (i := 15) (N := some 57) (v := ?_) (a' := ?_) #[true, true, true, true, true, true, true, false, true, false, false, true, true, true, true, true, false, false, false, false, false, false, false, false, false, false, false, false, false, false, false, false, false] rfl rfl (by kernel_rfl) (fun _ _ _ h => h) (Or.inl ⟨by rfl, ?_⟩) ?_ ?_
  rotate_left
  · intro w_
    go_simp
    try with_reducible rfl
  rotate_left
  · simp only [Act.put, List.setIfInBounds_toArray, List.set_cons_zero, List.set_cons_succ]
    rfl
  refine one_ (i := 7) (N := some 49) #[true, true, true, true, true, true, true, true, true, false, false, true, true, true, true, true, false, false, false, false, false, false, false, false, false, false, false, false, false, false, false, false, false] rfl rfl (by kernel_rfl) (by decide) (fun K hK => ?_)
  refine goes_ Try.func29 (by kernel_rfl) rfl #[.agg #[.int .i64 t', .int .i64 r', .int .i64 k, .int .i64 a0, .int .i64 a1, .int .i64 i0, .int .i64 i1, .int .i64 t0, .int .i64 t1, .string nm, .string nw, .int .i64 off, .string dt]] (by rfl) rfl rfl (by (try simp only [List.map_toArray, List.map_cons, List.map_nil]); first | done | rfl) ?_
  (with_reducible refine (HPX.out _).mono ?_)
  rintro e wr2 ⟨rfl, hr2⟩
  refine ⟨_, rfl, ?_⟩
  refine hK.out _ _ (hHeld.call hr2) (fun hHeld => ?_)
  clear hK K
  refine norm_ (a' := ?_) ?_ ?_
  rotate_left
  · show Act.put _ (some 49) _ = _
    simp only [Act.put, List.setIfInBounds_toArray, List.set_cons_zero, List.set_cons_succ]
    rfl
  refine one_ (i := 9) (N := some 51) #[true, true, true, true, true, true, true, true, true, true, false, true, true, true, true, true, false, false, false, false, false, false, false, false, false, false, false, false, false, false, false, false, false] rfl rfl (by kernel_rfl) (by decide) (fun K hK => ?_)
  refine goes_ Try.func29 (by kernel_rfl) rfl #[.agg #[.int .i64 t, .int .i64 r, .int .i64 k, .int .i64 a0, .int .i64 a1, .int .i64 i0, .int .i64 i1, .int .i64 t0, .int .i64 t1, .string nm, .string nw, .int .i64 off, .string dt]] (by rfl) rfl rfl (by (try simp only [List.map_toArray, List.map_cons, List.map_nil]); first | done | rfl) ?_
  (with_reducible refine (HP.out _).mono ?_)
  rintro e wr3 ⟨rfl, hr3⟩
  refine ⟨_, rfl, ?_⟩
  refine hK.out _ _ (hHeld.call hr3) (fun hHeld => ?_)
  clear hK K
  refine norm_ (a' := ?_) ?_ ?_
  rotate_left
  · show Act.put _ (some 51) _ = _
    simp only [Act.put, List.setIfInBounds_toArray, List.set_cons_zero, List.set_cons_succ]
    rfl
  refine take_ (i := 10) (N := some 52) (v := .bool (t' == t && r' == r)) (a' := ?_) #[true, true, true, true, true, true, true, true, true, true, true, true, true, true, true, true, false, false, false, false, false, false, false, false, false, false, false, false, false, false, false, false, false] rfl rfl (by kernel_rfl) (fun _ _ _ h => h) (Or.inl ⟨by rfl, fun w' h => by rw [← hue]; go_simp⟩) hHeld ?_ ?_
  rotate_left
  · simp only [Act.put, List.setIfInBounds_toArray, List.set_cons_zero, List.set_cons_succ]
    rfl
  refine pure_ (i := 16) (N := some 58) (v := ?_) (a' := ?_) #[true, true, true, true, true, true, true, true, true, true, true, true, true, true, true, true, true, false, false, false, false, false, false, false, false, false, false, false, false, false, false, false, false] rfl rfl (by kernel_rfl) (fun _ _ _ h => h) (Or.inl ⟨by rfl, ?_⟩) ?_ ?_
  rotate_left
  · intro w_
    go_simp
    try with_reducible rfl
  rotate_left
  · simp only [Act.put, List.setIfInBounds_toArray, List.set_cons_zero, List.set_cons_succ]
    rfl
  refine pure_ (i := 17) (N := some 59) (v := ?_) (a' := ?_) #[true, true, true, true, true, true, true, true, true, true, true, true, true, true, true, true, true, true, false, false, false, false, false, false, false, false, false, false, false, false, false, false, false] rfl rfl (by kernel_rfl) (fun _ _ _ h => h) (Or.inl ⟨by rfl, ?_⟩) ?_ ?_
  rotate_left
  · intro w_
    go_simp
    try with_reducible rfl
  rotate_left
  · simp only [Act.put, List.setIfInBounds_toArray, List.set_cons_zero, List.set_cons_succ]
    rfl
  refine pure_ (i := 18) (N := some 60) (v := ?_) (a' := ?_) #[true, true, true, true, true, true, true, true, true, true, true, true, true, true, true, true, true, true, true, false, false, false, false, false, false, false, false, false, false, false, false, false, false] rfl rfl (by kernel_rfl) (fun _ _ _ h => h) (Or.inl ⟨by rfl, ?_⟩) ?_ ?_
  rotate_left
  · intro w_
    go_simp
    try with_reducible rfl
  rotate_left
  · simp only [Act.put, List.setIfInBounds_toArray, List.set_cons_zero, List.set_cons_succ]
    rfl
  refine take_ (i := 19) (N := some 61) (v := .agg #[.int .i64 t', .int .i64 r', .int .i64 k, .int .i64 a0, .int .i64 a1, .int .i64 i0, .int .i64 i1, .int .i64 t0, .int .i64 t1, .string nm, .string nw, .int .i64 off, .string dt]) (a' := ?_) #[true, true, true, true, true, true, true, true, true, true, true, true, true, true, true, true, true, true, true, true, false, false, false, false, false, false, false, false, false, false, false, false, false] rfl rfl (by kernel_rfl) (fun _ _ _ h => h) (Or.inl ⟨by rfl, fun w' h => run_load_mid 50 _ rfl bx 0 #[.int .i64 t', .int .i64 r', .int .i64 k, .int .i64 a0, .int .i64 a1, .int .i64 i0, .int .i64 i1, .int .i64 t0, .int .i64 t1, .string nm, .string nw, .int .i64 off, .string dt].toList rfl _ _ _ (h.get 0 rfl) (fun j v hj => by simpa using hj) _ Try.underlying50 rfl size_op⟩) hHeld ?_ ?_
  rotate_left
  · simp only [Act.put, List.setIfInBounds_toArray, List.set_cons_zero, List.set_cons_succ]
    rfl
  refine take_ (i := 21) (N := some 63) (v := .agg #[.int .i64 t, .int .i64 r, .int .i64 k, .int .i64 a0, .int .i64 a1, .int .i64 i0, .int .i64 i1, .int .i64 t0, .int .i64 t1, .string nm, .string nw, .int .i64 off, .string dt]) (a' := ?_) #[true, true, true, true, true, true, true, true, true, true, true, true, true, true, true, true, true, true, true, true, false, true, false, false, false, false, false, false, false, false, false, false, false] rfl rfl (by kernel_rfl) (fun _ _ _ h => h) (Or.inl ⟨by rfl, fun w' h => run_load_mid 50 _ rfl w.heap.size 0 #[.int .i64 t, .int .i64 r, .int .i64 k, .int .i64 a0, .int .i64 a1, .int .i64 i0, .int .i64 i1, .int .i64 t0, .int .i64 t1, .string nm, .string nw, .int .i64 off, .string dt].toList rfl _ _ _ (h.get 1 rfl) (fun j v hj => by simpa using hj) _ Try.underlying50 rfl size_op⟩) hHeld ?_ ?_
  rotate_left
  · simp only [Act.put, List.setIfInBounds_toArray, List.set_cons_zero, List.set_cons_succ]
    rfl
  refine one_ (i := 20) (N := some 62) #[true, true, true, true, true, true, true, true, true, true, true, true, true, true, true, true, true, true, true, true, true, true, false, false, false, false, false, false, false, false, false, false, false] rfl rfl (by kernel_rfl) (by decide) (fun K hK => ?_)
  refine goes_ Try.func28 (by kernel_rfl) rfl #[.agg #[.int .i64 t', .int .i64 r', .int .i64 k, .int .i64 a0, .int .i64 a1, .int .i64 i0, .int .i64 i1, .int .i64 t0, .int .i64 t1, .string nm, .string nw, .int .i64 off, .string dt]] (by rfl) rfl rfl (by (try simp only [List.map_toArray, List.map_cons, List.map_nil]); first | done | rfl) ?_
  (with_reducible refine (HKX.out _).mono ?_)
  rintro e wr4 ⟨rfl, hr4⟩
  refine ⟨_, rfl, ?_⟩
  refine hK.out _ _ (hHeld.call hr4) (fun hHeld => ?_)
  clear hK K
  refine norm_ (a' := ?_) ?_ ?_
  rotate_left
  · show Act.put _ (some 62) _ = _
    simp only [Act.put, List.setIfInBounds_toArray, List.set_cons_zero, List.set_cons_succ]
    rfl
  refine one_ (i := 22) (N := some 64) #[true, true, true, true, true, true, true, true, true, true, true, true, true, true, true, true, true, true, true, true, true, true, true, false, false, false, false, false, false, false, false, false, false] rfl rfl (by kernel_rfl) (by decide) (fun K hK => ?_)
  refine goes_ Try.func28 (by kernel_rfl) rfl #[.agg #[.int .i64 t, .int .i64 r, .int .i64 k, .int .i64 a0, .int .i64 a1, .int .i64 i0, .int .i64 i1, .int .i64 t0, .int .i64 t1, .string nm, .string nw, .int .i64 off, .string dt]] (by rfl) rfl rfl (by (try simp only [List.map_toArray, List.map_cons, List.map_nil]); first | done | rfl) ?_
  (with_reducible refine (HK.out _).mono ?_)
  rintro e wr5 ⟨rfl, hr5⟩
  refine ⟨_, rfl, ?_⟩
  refine hK.out _ _ (hHeld.call hr5) (fun hHeld => ?_)
  clear hK K
  refine norm_ (a' := ?_) ?_ ?_
  rotate_left
  · show Act.put _ (some 64) _ = _
    simp only [Act.put, List.setIfInBounds_toArray, List.set_cons_zero, List.set_cons_succ]
    rfl
  refine pure_ (i := 23) (N := some 65) (v := ?_) (a' := ?_) #[true, true, true, true, true, true, true, true, true, true, true, true, true, true, true, true, true, true, true, true, true, true, true, true, false, false, false, false, false, false, false, false, false] rfl rfl (by kernel_rfl) (fun _ _ _ h => h) (Or.inl ⟨by rfl, ?_⟩) ?_ ?_
  rotate_left
  · intro w_
    go_simp
    try with_reducible rfl
  rotate_left
  · simp only [Act.put, List.setIfInBounds_toArray, List.set_cons_zero, List.set_cons_succ]
    rfl
  refine pure_ (i := 24) (N := some 66) (v := ?_) (a' := ?_) #[true, true, true, true, true, true, true, true, true, true, true, true, true, true, true, true, true, true, true, true, true, true, true, true, true, false, false, false, false, false, false, false, false] rfl rfl (by kernel_rfl) (fun _ _ _ h => h) (Or.inl ⟨by rfl, ?_⟩) ?_ ?_
  rotate_left
  · intro w_
    go_simp
    try with_reducible rfl
  rotate_left
  · simp only [Act.put, List.setIfInBounds_toArray, List.set_cons_zero, List.set_cons_succ]
    rfl
  refine pure_ (i := 25) (N := some 67) (v := ?_) (a' := ?_) #[true, true, true, true, true, true, true, true, true, true, true, true, true, true, true, true, true, true, true, true, true, true, true, true, true, true, false, false, false, false, false, false, false] rfl rfl (by kernel_rfl) (fun _ _ _ h => h) (Or.inl ⟨by rfl, ?_⟩) ?_ ?_
  rotate_left
  · intro w_
    go_simp
    try with_reducible rfl
  rotate_left
  · simp only [Act.put, List.setIfInBounds_toArray, List.set_cons_zero, List.set_cons_succ]
    rfl
  refine take_ (i := 26) (N := some 68) (v := .agg #[.int .i64 t', .int .i64 r', .int .i64 k, .int .i64 a0, .int .i64 a1, .int .i64 i0, .int .i64 i1, .int .i64 t0, .int .i64 t1, .string nm, .string nw, .int .i64 off, .string dt]) (a' := ?_) #[true, true, true, true, true, true, true, true, true, true, true, true, true, true, true, true, true, true, true, true, true, true, true, true, true, true, true, false, false, false, false, false, false] rfl rfl (by kernel_rfl) (fun _ _ _ h => h) (Or.inl ⟨by rfl, fun w' h => run_load_mid 50 _ rfl bx 0 #[.int .i64 t', .int .i64 r', .int .i64 k, .int .i64 a0, .int .i64 a1, .int .i64 i0, .int .i64 i1, .int .i64 t0, .int .i64 t1, .string nm, .string nw, .int .i64 off, .string dt].toList rfl _ _ _ (h.get 0 rfl) (fun j v hj => by simpa using hj) _ Try.underlying50 rfl size_op⟩) hHeld ?_ ?_
  rotate_left
  · simp only [Act.put, List.setIfInBounds_toArray, List.set_cons_zero, List.set_cons_succ]
    rfl
  refine take_ (i := 28) (N := some 70) (v := .agg #[.int .i64 t, .int .i64 r, .int .i64 k, .int .i64 a0, .int .i64 a1, .int .i64 i0, .int .i64 i1, .int .i64 t0, .int .i64 t1, .string nm, .string nw, .int .i64 off, .string dt]) (a' := ?_) #[true, true, true, true, true, true, true, true, true, true, true, true, true, true, true, true, true, true, true, true, true, true, true, true, true, true, true, false, true, false, false, false, false] rfl rfl (by kernel_rfl) (fun _ _ _ h => h) (Or.inl ⟨by rfl, fun w' h => run_load_mid 50 _ rfl w.heap.size 0 #[.int .i64 t, .int .i64 r, .int .i64 k, .int .i64 a0, .int .i64 a1, .int .i64 i0, .int .i64 i1, .int .i64 t0, .int .i64 t1, .string nm, .string nw, .int .i64 off, .string dt].toList rfl _ _ _ (h.get 1 rfl) (fun j v hj => by simpa using hj) _ Try.underlying50 rfl size_op⟩) hHeld ?_ ?_
  rotate_left
  · simp only [Act.put, List.setIfInBounds_toArray, List.set_cons_zero, List.set_cons_succ]
    rfl
  refine one_ (i := 27) (N := some 69) #[true, true, true, true, true, true, true, true, true, true, true, true, true, true, true, true, true, true, true, true, true, true, true, true, true, true, true, true, true, false, false, false, false] rfl rfl (by kernel_rfl) (by decide) (fun K hK => ?_)
  refine goes_ Try.func27 (by kernel_rfl) rfl #[.agg #[.int .i64 t', .int .i64 r', .int .i64 k, .int .i64 a0, .int .i64 a1, .int .i64 i0, .int .i64 i1, .int .i64 t0, .int .i64 t1, .string nm, .string nw, .int .i64 off, .string dt]] (by rfl) rfl rfl (by (try simp only [List.map_toArray, List.map_cons, List.map_nil]); first | done | rfl) ?_
  (with_reducible refine (HUX.out _).mono ?_)
  rintro e wr6 ⟨v1, rfl, ho1, hr6⟩
  refine ⟨_, rfl, ?_⟩
  refine hK.out _ _ (hHeld.call hr6) (fun hHeld => ?_)
  clear hK K
  refine more_ (fun W_ => (Holds w [(bx, .cells #[.int .i64 t', .int .i64 r', .int .i64 k, .int .i64 a0, .int .i64 a1, .int .i64 i0, .int .i64 i1, .int .i64 t0, .int .i64 t1, .string nm, .string nw, .int .i64 off, .string dt] 50 (0, 0)), (w.heap.size, .cells #[.int .i64 t, .int .i64 r, .int .i64 k, .int .i64 a0, .int .i64 a1, .int .i64 i0, .int .i64 i1, .int .i64 t0, .int .i64 t1, .string nm, .string nw, .int .i64 off, .string dt] 50 (0, 0))] W_) ∧ (∃ c, stE.Own c W_ v1 U)) (fun _ h => h.1) ⟨hHeld, ⟨_, ho1⟩⟩ (fun hHeld => ?_)
  refine norm_ (a' := ?_) ?_ ?_
  rotate_left
  · show Act.put _ (some 69) _ = _
    simp only [Act.put, List.setIfInBounds_toArray, List.set_cons_zero, List.set_cons_succ]
    rfl
  refine one_ (i := 29) (N := some 71) #[true, true, true, true, true, true, true, true, true, true, true, true, true, true, true, true, true, true, true, true, true, true, true, true, true, true, true, true, true, true, false, false, false] rfl rfl (by kernel_rfl) (by decide) (fun K hK => ?_)
  refine goes_ Try.func27 (by kernel_rfl) rfl #[.agg #[.int .i64 t, .int .i64 r, .int .i64 k, .int .i64 a0, .int .i64 a1, .int .i64 i0, .int .i64 i1, .int .i64 t0, .int .i64 t1, .string nm, .string nw, .int .i64 off, .string dt]] (by rfl) rfl rfl (by (try simp only [List.map_toArray, List.map_cons, List.map_nil]); first | done | rfl) ?_
  (with_reducible refine (HU.out _).mono ?_)
  rintro e wr7 ⟨v2, rfl, ho2, hr7⟩
  refine ⟨_, rfl, ?_⟩
  refine hK.out _ _ (⟨hHeld.1.call hr7, hHeld.2.imp fun _ h => h.below hr7⟩) (fun hHeld => ?_)
  clear hK K
  refine more_ (fun W_ => ((Holds w [(bx, .cells #[.int .i64 t', .int .i64 r', .int .i64 k, .int .i64 a0, .int .i64 a1, .int .i64 i0, .int .i64 i1, .int .i64 t0, .int .i64 t1, .string nm, .string nw, .int .i64 off, .string dt] 50 (0, 0)), (w.heap.size, .cells #[.int .i64 t, .int .i64 r, .int .i64 k, .int .i64 a0, .int .i64 a1, .int .i64 i0, .int .i64 i1, .int .i64 t0, .int .i64 t1, .string nm, .string nw, .int .i64 off, .string dt] 50 (0, 0))] W_) ∧ (∃ c, stE.Own c W_ v1 U)) ∧ (∃ c, stE.Own c W_ v2 U)) (fun _ h => h.1) ⟨hHeld, ⟨_, ho2⟩⟩ (fun hHeld => ?_)
  refine norm_ (a' := ?_) ?_ ?_
  rotate_left
  · show Act.put _ (some 71) _ = _
    simp only [Act.put, List.setIfInBounds_toArray, List.set_cons_zero, List.set_cons_succ]
    rfl
  refine one_ (i := 30) (N := some 72) #[true, true, true, true, true, true, true, true, true, true, true, true, true, true, true, true, true, true, true, true, true, true, true, true, true, true, true, true, true, true, true, false, false] rfl rfl (by kernel_rfl) (by decide) (fun K hK => ?_)
  refine goes_ Try.func30 (by kernel_rfl) rfl #[v1, v2] (by rfl) rfl rfl (by (try simp only [List.map_toArray, List.map_cons, List.map_nil]); first | done | rfl) ?_
  (with_reducible refine ((HST.out v1 v2 _ hHeld.1.2 hHeld.2)).mono ?_)
  rintro e wr8 ⟨rfl, hr8⟩
  refine ⟨_, rfl, ?_⟩
  refine hK.out _ _ (⟨⟨hHeld.1.1.call hr8, hHeld.1.2.imp fun _ h => h.below hr8⟩, hHeld.2.imp fun _ h => h.below hr8⟩) (fun hHeld => ?_)
  clear hK K
  refine norm_ (a' := ?_) ?_ ?_
  rotate_left
  · show Act.put _ (some 72) _ = _
    simp only [Act.put, List.setIfInBounds_toArray, List.set_cons_zero, List.set_cons_succ]
    rfl
  refine pure_ (i := 31) (N := some 73) (v := ?_) (a' := ?_) #[true, true, true, true, true, true, true, true, true, true, true, true, true, true, true, true, true, true, true, true, true, true, true, true, true, true, true, true, true, true, true, true, false] rfl rfl (by kernel_rfl) (fun _ _ _ h => h) (Or.inl ⟨by rfl, ?_⟩) ?_ ?_
  rotate_left
  · intro w_
    go_simp
    try with_reducible rfl
  rotate_left
  · simp only [Act.put, List.setIfInBounds_toArray, List.set_cons_zero, List.set_cons_succ]
    rfl
  refine pure_ (i := 32) (N := some 6) (v := ?_) (a' := ?_) #[true, true, true, true, true, true, true, true, true, true, true, true, true, true, true, true, true, true, true, true, true, true, true, true, true, true, true, true, true, true, true, true, true] rfl rfl (by kernel_rfl) (fun _ _ _ h => h) (Or.inl ⟨by rfl, ?_⟩) ?_ ?_
  rotate_left
  · intro w_
    go_simp
    try with_reducible rfl
  rotate_left
  · simp only [Act.put, List.setIfInBounds_toArray, List.set_cons_zero, List.set_cons_succ]
    rfl
  refine done_ (by kernel_rfl) ?_
  go_wp2_with fail
  go_ret
  exact ⟨rfl, hHeld.1.1.2⟩
theorem law_OpStamps {v : Value} {t r k a0 a1 i0 i1 t0 t1 : Int} {nm nw : ByteArray} {off : Int} {dt : ByteArray} (hv : IsOp v t r k a0 a1 i0 i1 t0 t1 nm nw off dt) (c0 : Int) (hc0 : (Lit.int .u32 c0).wf = true) (b0 : Int) (hb0 : (Lit.int .u8 b0).wf = true) (w : World) :
    Calls Try.prog 11 #[v, .int .u32 c0, .int .u8 b0] w fun e w' => e = .returned (.bool true) ∧ Below w.heap.size w w' := by
  obtain ⟨c, rfl, hc⟩ := u32_of hc0
  obtain ⟨b, rfl, hb⟩ := u8_of hb0
  have hdt := hv.2.2.2
  have hrg := hv.2.1.1
  obtain ⟨rfl, -⟩ := hv
  by_cases h : 300 < nm.size ∨ 300 < nw.size ∨ 300 < dt.size ∨ mayO t r k a0 a1 i0 i1 t0 t1 nm nw off dt = false
  · exact stamps_idle _ _ _ _ _ _ _ _ _ _ _ _ _ hdt c b h w
  · have hm : mayO t r k a0 a1 i0 i1 t0 t1 nm nw off dt = true := by
      cases hm : mayO t r k a0 a1 i0 i1 t0 t1 nm nw off dt with
      | true => rfl
      | false => exact absurd (.inr (.inr (.inr hm))) h
    exact stamps_main _ _ _ _ _ _ _ _ _ _ _ _ _ c b hc hb (by omega) (by omega) (by omega) hrg hm w
end Go.Proofs.Ytcekecpbjmfbhaa.opStamps
