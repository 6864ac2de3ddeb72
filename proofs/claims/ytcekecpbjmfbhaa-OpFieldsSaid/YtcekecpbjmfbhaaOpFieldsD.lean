/- The law OpFields: a way of its walk. -/
import Derived.Test.YtcekecpbjmfbhaaOpMay2
namespace Go.Proofs.Ytcekecpbjmfbhaa.opFields
open Go.RowKit Go.Proofs.YtcekecpbjmfbhaaW.PrintWords Go.Proofs.YtcekecpbjmfbhaaW.PrintLast Go.Proofs.YtcekecpbjmfbhaaW.PrintMore
set_option linter.unusedVariables false
set_option linter.unusedSimpArgs false
attribute [local go_sem high] eqStamp

set_option maxHeartbeats 8000000 in
set_option maxRecDepth 100000 in
theorem fields_D (t r k a0 a1 i0 i1 t0 t1 : Int) (nm nw : ByteArray) (off : Int) (dt : ByteArray) (s0 s1 : Int) (h : mayO t r k a0 a1 i0 i1 t0 t1 nm nw off dt = true) (hz : isZ s0 s1 = false) (hk : k ≠ 3 ∧ k < 4) (w : World) :
    Calls Try.prog 8 #[.agg #[.int .i64 t, .int .i64 r, .int .i64 k, .int .i64 a0, .int .i64 a1, .int .i64 i0, .int .i64 i1, .int .i64 t0, .int .i64 t1, .string nm, .string nw, .int .i64 off, .string dt], .agg #[.int .i64 s0, .int .i64 s1]] w fun e w' => e = .returned (.bool true) ∧ Below w.heap.size w w' := by
  have HS := Hd.mk op_shown
  obtain ⟨ho, hd, hoff⟩ := mayO_Off h
  obtain ⟨hn1, hn2⟩ := mayO_name h
  have HM := Hd.mk (op_May t r k a0 a1 i0 i1 t0 t1 nm nw off dt (by omega))
  rw [h] at HM
  have HA0 : Hd (k ≠ 7 → ∀ w, Calls Try.prog 25 #[.agg #[.int .i64 t, .int .i64 r, .int .i64 k, .int .i64 a0, .int .i64 a1, .int .i64 i0, .int .i64 i1, .int .i64 s0, .int .i64 s1, .string nm, .string nw, .int .i64 off, .string dt]] w fun e w' => e = .returned (.bool false) ∧ Below w.heap.size w w') := ⟨fun hk => by
    have := op_May t r k a0 a1 i0 i1 s0 s1 nm nw off dt (by omega)
    rw [mayO_To hk hz] at this; exact this⟩
  have HB0 : Hd (k < 4 → ∀ w, Calls Try.prog 25 #[.agg #[.int .i64 t, .int .i64 r, .int .i64 k, .int .i64 a0, .int .i64 a1, .int .i64 s0, .int .i64 s1, .int .i64 t0, .int .i64 t1, .string nm, .string nw, .int .i64 off, .string dt]] w fun e w' => e = .returned (.bool false) ∧ Below w.heap.size w w') := ⟨fun hk => by
    have := op_May t r k a0 a1 s0 s1 t0 t1 nm nw off dt (by omega)
    rw [mayO_Ino hk hz] at this; exact this⟩
  have HC0 : Hd (k ≠ 3 → k ≠ 8 → ∀ w, Calls Try.prog 25 #[.agg #[.int .i64 t, .int .i64 r, .int .i64 k, .int .i64 a0, .int .i64 a1, .int .i64 i0, .int .i64 i1, .int .i64 t0, .int .i64 t1, .string nm, .string nw, .int .i64 off, .string (dt ++ ⟨#[120]⟩)]] w fun e w' => e = .returned (.bool false) ∧ Below w.heap.size w w') := ⟨fun hk hk2 => by
    have := op_May t r k a0 a1 i0 i1 t0 t1 nm nw off (dt ++ ⟨#[120]⟩) (by rw [ByteArray.size_append]; have : (⟨#[120]⟩ : ByteArray).size = 1 := rfl; omega)
    rw [mayO_Data hk hk2 (isE_snoc _ _)] at this; exact this⟩
  have HD : Hd (∀ w, Calls Try.prog 25 #[.agg #[.int .i64 t, .int .i64 r, .int .i64 k, .int .i64 a0, .int .i64 a1, .int .i64 i0, .int .i64 i1, .int .i64 t0, .int .i64 t1, .string nm, .string nw, .int .i64 (off + 1 + 4095), .string dt]] w fun e w' => e = .returned (.bool false) ∧ Below w.heap.size w w') := ⟨by
    have := op_May t r k a0 a1 i0 i1 t0 t1 nm nw (off + 1 + 4095) dt (by omega)
    rw [hoff _ (by omega)] at this; exact this⟩
  have HE : Hd (∀ w, Calls Try.prog 25 #[.agg #[.int .i64 t, .int .i64 r, .int .i64 k, .int .i64 a0, .int .i64 a1, .int .i64 i0, .int .i64 i1, .int .i64 t0, .int .i64 t1, .string nm, .string (nw ++ ⟨#[47]⟩), .int .i64 off, .string dt]] w fun e w' => e = .returned (.bool false) ∧ Below w.heap.size w w') := ⟨by
    have := op_May t r k a0 a1 i0 i1 t0 t1 nm (nw ++ ⟨#[47]⟩) off dt (by omega)
    rw [mayO_New (name_slash _) (isE_snoc _ _)] at this; exact this⟩
  have HF : Hd (∀ w, Calls Try.prog 25 #[.agg #[.int .i64 0, .int .i64 0, .int .i64 k, .int .i64 a0, .int .i64 a1, .int .i64 i0, .int .i64 i1, .int .i64 t0, .int .i64 t1, .string nm, .string nw, .int .i64 off, .string dt]] w fun e w' => e = .returned (.bool false) ∧ Below w.heap.size w w') := ⟨by
    have := op_May 0 0 k a0 a1 i0 i1 t0 t1 nm nw off dt (by omega)
    rw [mayO_Stamp rfl] at this; exact this⟩
  have K0 := Hd.mk (Holds.start2 w (.cells #[.int .i64 t, .int .i64 r, .int .i64 k, .int .i64 a0, .int .i64 a1, .int .i64 i0, .int .i64 i1, .int .i64 t0, .int .i64 t1, .string nm, .string nw, .int .i64 off, .string dt] 50 (0, 0)) (.cells #[.int .i64 s0, .int .i64 s1] 48 (0, 0)))
  have hz2 : (s0 == 0 && s1 == 0) = false := hz
  have q1 : dt.size + 1 ≤ 9223372036854775807 := by omega
  have q2 : nw.size + 1 ≤ 9223372036854775807 := by omega
  have hw1 : wrap64 (off + 1) = off + 1 := by unfold wrap64; omega
  have hw2 : wrap64 (off + 1 + 4095) = off + 1 + 4095 := by unfold wrap64; omega
  obtain ⟨ho1, ho2⟩ := ho
  have HK := Hd.mk hk
  clear hk
  clear h hz hoff hd hn1 hn2
  go_enter Try.func8, Try.ntmps8
  go_wp2_with fail
  refine world_gen_calls _ K0.out (fun W hK => ?_)
  have K0 := Hd.mk hK
  clear hK
  refine (HS.out _).mono ?_; rintro e w1 ⟨rfl, hb1⟩
  have K1 := Hd.mk (K0.out.call hb1)
  clear hb1 K0
  have g0 := cell_of_row w1 _ 0 _ _ _ (K1.out.get 1 rfl)
  have g1 := cell_of_row w1 _ 1 _ _ _ (K1.out.get 1 rfl)
  have g2 := cell_of_row w1 _ 2 _ _ _ (K1.out.get 1 rfl)
  have g3 := cell_of_row w1 _ 3 _ _ _ (K1.out.get 1 rfl)
  have g4 := cell_of_row w1 _ 4 _ _ _ (K1.out.get 1 rfl)
  have g5 := cell_of_row w1 _ 5 _ _ _ (K1.out.get 1 rfl)
  have g6 := cell_of_row w1 _ 6 _ _ _ (K1.out.get 1 rfl)
  have g7 := cell_of_row w1 _ 7 _ _ _ (K1.out.get 1 rfl)
  have g8 := cell_of_row w1 _ 8 _ _ _ (K1.out.get 1 rfl)
  have g9 := cell_of_row w1 _ 9 _ _ _ (K1.out.get 1 rfl)
  have g10 := cell_of_row w1 _ 10 _ _ _ (K1.out.get 1 rfl)
  have g11 := cell_of_row w1 _ 11 _ _ _ (K1.out.get 1 rfl)
  have g12 := cell_of_row w1 _ 12 _ _ _ (K1.out.get 1 rfl)
  go_wp2_with fail
  refine (HM.out _).mono ?_; rintro e w2 ⟨rfl, hb2⟩
  have K2 := Hd.mk (K1.out.call hb2)
  clear hb2 K1
  clear g0 g1 g2 g3 g4 g5 g6 g7 g8 g9 g10 g11 g12
  have z0 := cell_of_row w2 _ 0 _ _ _ (K2.out.get 0 rfl)
  have z1 := cell_of_row w2 _ 1 _ _ _ (K2.out.get 0 rfl)
  have g0 := cell_of_row w2 _ 0 _ _ _ (K2.out.get 1 rfl)
  have g1 := cell_of_row w2 _ 1 _ _ _ (K2.out.get 1 rfl)
  have g2 := cell_of_row w2 _ 2 _ _ _ (K2.out.get 1 rfl)
  have g3 := cell_of_row w2 _ 3 _ _ _ (K2.out.get 1 rfl)
  have g4 := cell_of_row w2 _ 4 _ _ _ (K2.out.get 1 rfl)
  have g5 := cell_of_row w2 _ 5 _ _ _ (K2.out.get 1 rfl)
  have g6 := cell_of_row w2 _ 6 _ _ _ (K2.out.get 1 rfl)
  have g7 := cell_of_row w2 _ 7 _ _ _ (K2.out.get 1 rfl)
  have g8 := cell_of_row w2 _ 8 _ _ _ (K2.out.get 1 rfl)
  have g9 := cell_of_row w2 _ 9 _ _ _ (K2.out.get 1 rfl)
  have g10 := cell_of_row w2 _ 10 _ _ _ (K2.out.get 1 rfl)
  have g11 := cell_of_row w2 _ 11 _ _ _ (K2.out.get 1 rfl)
  have g12 := cell_of_row w2 _ 12 _ _ _ (K2.out.get 1 rfl)
  have l0 := K2.out.lt 0 rfl
  have l1 := K2.out.lt 1 rfl
  go_upto_region 6 with (fail)
  refine world_gen (fun W_ => Holds w [(w2.heap.size, .cells #[.int .i64 t, .int .i64 r, .int .i64 k, .int .i64 a0, .int .i64 a1, .int .i64 i0, .int .i64 i1, .int .i64 s0, .int .i64 s1, .string nm, .string nw, .int .i64 off, .string dt] 50 (0, 0)), (w.heap.size + 1, .cells #[.int .i64 s0, .int .i64 s1] 48 (0, 0)), (w.heap.size, .cells #[.int .i64 t, .int .i64 r, .int .i64 k, .int .i64 a0, .int .i64 a1, .int .i64 i0, .int .i64 i1, .int .i64 t0, .int .i64 t1, .string nm, .string nw, .int .i64 off, .string dt] 50 (0, 0))] W_) (K2.out.alloc _) (fun v0 hK => ?_)
  have J0 := Hd.mk hK
  clear hK
  clear g0 g1 g2 g3 g4 g5 g6 g7 g8 g9 g10 g11 g12
  clear z0 z1
  clear l0 l1
  have z0 := cell_of_row v0 _ 0 _ _ _ (J0.out.get 1 rfl)
  have z1 := cell_of_row v0 _ 1 _ _ _ (J0.out.get 1 rfl)
  have g0 := cell_of_row v0 _ 0 _ _ _ (J0.out.get 2 rfl)
  have g1 := cell_of_row v0 _ 1 _ _ _ (J0.out.get 2 rfl)
  have g2 := cell_of_row v0 _ 2 _ _ _ (J0.out.get 2 rfl)
  have g3 := cell_of_row v0 _ 3 _ _ _ (J0.out.get 2 rfl)
  have g4 := cell_of_row v0 _ 4 _ _ _ (J0.out.get 2 rfl)
  have g5 := cell_of_row v0 _ 5 _ _ _ (J0.out.get 2 rfl)
  have g6 := cell_of_row v0 _ 6 _ _ _ (J0.out.get 2 rfl)
  have g7 := cell_of_row v0 _ 7 _ _ _ (J0.out.get 2 rfl)
  have g8 := cell_of_row v0 _ 8 _ _ _ (J0.out.get 2 rfl)
  have g9 := cell_of_row v0 _ 9 _ _ _ (J0.out.get 2 rfl)
  have g10 := cell_of_row v0 _ 10 _ _ _ (J0.out.get 2 rfl)
  have g11 := cell_of_row v0 _ 11 _ _ _ (J0.out.get 2 rfl)
  have g12 := cell_of_row v0 _ 12 _ _ _ (J0.out.get 2 rfl)
  have l0 := J0.out.lt 1 rfl
  have l1 := J0.out.lt 2 rfl
  go_upto_region 8 with (fail)
  refine world_gen (fun W_ => Holds w [(v0.heap.size, .cells #[.int .i64 t, .int .i64 r, .int .i64 k, .int .i64 a0, .int .i64 a1, .int .i64 s0, .int .i64 s1, .int .i64 t0, .int .i64 t1, .string nm, .string nw, .int .i64 off, .string dt] 50 (0, 0)), (w2.heap.size, .cells #[.int .i64 t, .int .i64 r, .int .i64 k, .int .i64 a0, .int .i64 a1, .int .i64 i0, .int .i64 i1, .int .i64 s0, .int .i64 s1, .string nm, .string nw, .int .i64 off, .string dt] 50 (0, 0)), (w.heap.size + 1, .cells #[.int .i64 s0, .int .i64 s1] 48 (0, 0)), (w.heap.size, .cells #[.int .i64 t, .int .i64 r, .int .i64 k, .int .i64 a0, .int .i64 a1, .int .i64 i0, .int .i64 i1, .int .i64 t0, .int .i64 t1, .string nm, .string nw, .int .i64 off, .string dt] 50 (0, 0))] W_) (J0.out.alloc _) (fun v1 hK => ?_)
  have J1 := Hd.mk hK
  clear hK
  clear g0 g1 g2 g3 g4 g5 g6 g7 g8 g9 g10 g11 g12
  clear z0 z1
  clear l0 l1
  have z0 := cell_of_row v1 _ 0 _ _ _ (J1.out.get 2 rfl)
  have z1 := cell_of_row v1 _ 1 _ _ _ (J1.out.get 2 rfl)
  have g0 := cell_of_row v1 _ 0 _ _ _ (J1.out.get 3 rfl)
  have g1 := cell_of_row v1 _ 1 _ _ _ (J1.out.get 3 rfl)
  have g2 := cell_of_row v1 _ 2 _ _ _ (J1.out.get 3 rfl)
  have g3 := cell_of_row v1 _ 3 _ _ _ (J1.out.get 3 rfl)
  have g4 := cell_of_row v1 _ 4 _ _ _ (J1.out.get 3 rfl)
  have g5 := cell_of_row v1 _ 5 _ _ _ (J1.out.get 3 rfl)
  have g6 := cell_of_row v1 _ 6 _ _ _ (J1.out.get 3 rfl)
  have g7 := cell_of_row v1 _ 7 _ _ _ (J1.out.get 3 rfl)
  have g8 := cell_of_row v1 _ 8 _ _ _ (J1.out.get 3 rfl)
  have g9 := cell_of_row v1 _ 9 _ _ _ (J1.out.get 3 rfl)
  have g10 := cell_of_row v1 _ 10 _ _ _ (J1.out.get 3 rfl)
  have g11 := cell_of_row v1 _ 11 _ _ _ (J1.out.get 3 rfl)
  have g12 := cell_of_row v1 _ 12 _ _ _ (J1.out.get 3 rfl)
  have l0 := J1.out.lt 2 rfl
  have l1 := J1.out.lt 3 rfl
  go_upto_region 10 with (fail)
  refine world_gen (fun W_ => Holds w [(v1.heap.size, .cells #[.int .i64 t, .int .i64 r, .int .i64 k, .int .i64 a0, .int .i64 a1, .int .i64 i0, .int .i64 i1, .int .i64 t0, .int .i64 t1, .string nm, .string nw, .int .i64 off, .string (dt ++ ⟨#[120]⟩)] 50 (0, 0)), (v0.heap.size, .cells #[.int .i64 t, .int .i64 r, .int .i64 k, .int .i64 a0, .int .i64 a1, .int .i64 s0, .int .i64 s1, .int .i64 t0, .int .i64 t1, .string nm, .string nw, .int .i64 off, .string dt] 50 (0, 0)), (w2.heap.size, .cells #[.int .i64 t, .int .i64 r, .int .i64 k, .int .i64 a0, .int .i64 a1, .int .i64 i0, .int .i64 i1, .int .i64 s0, .int .i64 s1, .string nm, .string nw, .int .i64 off, .string dt] 50 (0, 0)), (w.heap.size + 1, .cells #[.int .i64 s0, .int .i64 s1] 48 (0, 0)), (w.heap.size, .cells #[.int .i64 t, .int .i64 r, .int .i64 k, .int .i64 a0, .int .i64 a1, .int .i64 i0, .int .i64 i1, .int .i64 t0, .int .i64 t1, .string nm, .string nw, .int .i64 off, .string dt] 50 (0, 0))] W_) (J1.out.alloc _) (fun v2 hK => ?_)
  have J2 := Hd.mk hK
  clear hK
  clear g0 g1 g2 g3 g4 g5 g6 g7 g8 g9 g10 g11 g12
  clear z0 z1
  clear l0 l1
  have z0 := cell_of_row v2 _ 0 _ _ _ (J2.out.get 3 rfl)
  have z1 := cell_of_row v2 _ 1 _ _ _ (J2.out.get 3 rfl)
  have g0 := cell_of_row v2 _ 0 _ _ _ (J2.out.get 4 rfl)
  have g1 := cell_of_row v2 _ 1 _ _ _ (J2.out.get 4 rfl)
  have g2 := cell_of_row v2 _ 2 _ _ _ (J2.out.get 4 rfl)
  have g3 := cell_of_row v2 _ 3 _ _ _ (J2.out.get 4 rfl)
  have g4 := cell_of_row v2 _ 4 _ _ _ (J2.out.get 4 rfl)
  have g5 := cell_of_row v2 _ 5 _ _ _ (J2.out.get 4 rfl)
  have g6 := cell_of_row v2 _ 6 _ _ _ (J2.out.get 4 rfl)
  have g7 := cell_of_row v2 _ 7 _ _ _ (J2.out.get 4 rfl)
  have g8 := cell_of_row v2 _ 8 _ _ _ (J2.out.get 4 rfl)
  have g9 := cell_of_row v2 _ 9 _ _ _ (J2.out.get 4 rfl)
  have g10 := cell_of_row v2 _ 10 _ _ _ (J2.out.get 4 rfl)
  have g11 := cell_of_row v2 _ 11 _ _ _ (J2.out.get 4 rfl)
  have g12 := cell_of_row v2 _ 12 _ _ _ (J2.out.get 4 rfl)
  have l0 := J2.out.lt 3 rfl
  have l1 := J2.out.lt 4 rfl
  go_upto_region 12 with (fail)
  refine world_gen (fun W_ => Holds w [(v2.heap.size, .cells #[.int .i64 t, .int .i64 r, .int .i64 k, .int .i64 a0, .int .i64 a1, .int .i64 i0, .int .i64 i1, .int .i64 t0, .int .i64 t1, .string nm, .string nw, .int .i64 (off + 1 + 4095), .string dt] 50 (0, 0)), (v1.heap.size, .cells #[.int .i64 t, .int .i64 r, .int .i64 k, .int .i64 a0, .int .i64 a1, .int .i64 i0, .int .i64 i1, .int .i64 t0, .int .i64 t1, .string nm, .string nw, .int .i64 off, .string (dt ++ ⟨#[120]⟩)] 50 (0, 0)), (v0.heap.size, .cells #[.int .i64 t, .int .i64 r, .int .i64 k, .int .i64 a0, .int .i64 a1, .int .i64 s0, .int .i64 s1, .int .i64 t0, .int .i64 t1, .string nm, .string nw, .int .i64 off, .string dt] 50 (0, 0)), (w2.heap.size, .cells #[.int .i64 t, .int .i64 r, .int .i64 k, .int .i64 a0, .int .i64 a1, .int .i64 i0, .int .i64 i1, .int .i64 s0, .int .i64 s1, .string nm, .string nw, .int .i64 off, .string dt] 50 (0, 0)), (w.heap.size + 1, .cells #[.int .i64 s0, .int .i64 s1] 48 (0, 0)), (w.heap.size, .cells #[.int .i64 t, .int .i64 r, .int .i64 k, .int .i64 a0, .int .i64 a1, .int .i64 i0, .int .i64 i1, .int .i64 t0, .int .i64 t1, .string nm, .string nw, .int .i64 off, .string dt] 50 (0, 0))] W_) (J2.out.alloc _) (fun v3 hK => ?_)
  have J3 := Hd.mk hK
  clear hK
  clear g0 g1 g2 g3 g4 g5 g6 g7 g8 g9 g10 g11 g12
  clear z0 z1
  clear l0 l1
  have z0 := cell_of_row v3 _ 0 _ _ _ (J3.out.get 4 rfl)
  have z1 := cell_of_row v3 _ 1 _ _ _ (J3.out.get 4 rfl)
  have g0 := cell_of_row v3 _ 0 _ _ _ (J3.out.get 5 rfl)
  have g1 := cell_of_row v3 _ 1 _ _ _ (J3.out.get 5 rfl)
  have g2 := cell_of_row v3 _ 2 _ _ _ (J3.out.get 5 rfl)
  have g3 := cell_of_row v3 _ 3 _ _ _ (J3.out.get 5 rfl)
  have g4 := cell_of_row v3 _ 4 _ _ _ (J3.out.get 5 rfl)
  have g5 := cell_of_row v3 _ 5 _ _ _ (J3.out.get 5 rfl)
  have g6 := cell_of_row v3 _ 6 _ _ _ (J3.out.get 5 rfl)
  have g7 := cell_of_row v3 _ 7 _ _ _ (J3.out.get 5 rfl)
  have g8 := cell_of_row v3 _ 8 _ _ _ (J3.out.get 5 rfl)
  have g9 := cell_of_row v3 _ 9 _ _ _ (J3.out.get 5 rfl)
  have g10 := cell_of_row v3 _ 10 _ _ _ (J3.out.get 5 rfl)
  have g11 := cell_of_row v3 _ 11 _ _ _ (J3.out.get 5 rfl)
  have g12 := cell_of_row v3 _ 12 _ _ _ (J3.out.get 5 rfl)
  have l0 := J3.out.lt 4 rfl
  have l1 := J3.out.lt 5 rfl
  go_upto_region 14 with (fail)
  refine world_gen (fun W_ => Holds w [(v3.heap.size, .cells #[.int .i64 t, .int .i64 r, .int .i64 k, .int .i64 a0, .int .i64 a1, .int .i64 i0, .int .i64 i1, .int .i64 t0, .int .i64 t1, .string nm, .string (nw ++ ⟨#[47]⟩), .int .i64 off, .string dt] 50 (0, 0)), (v2.heap.size, .cells #[.int .i64 t, .int .i64 r, .int .i64 k, .int .i64 a0, .int .i64 a1, .int .i64 i0, .int .i64 i1, .int .i64 t0, .int .i64 t1, .string nm, .string nw, .int .i64 (off + 1 + 4095), .string dt] 50 (0, 0)), (v1.heap.size, .cells #[.int .i64 t, .int .i64 r, .int .i64 k, .int .i64 a0, .int .i64 a1, .int .i64 i0, .int .i64 i1, .int .i64 t0, .int .i64 t1, .string nm, .string nw, .int .i64 off, .string (dt ++ ⟨#[120]⟩)] 50 (0, 0)), (v0.heap.size, .cells #[.int .i64 t, .int .i64 r, .int .i64 k, .int .i64 a0, .int .i64 a1, .int .i64 s0, .int .i64 s1, .int .i64 t0, .int .i64 t1, .string nm, .string nw, .int .i64 off, .string dt] 50 (0, 0)), (w2.heap.size, .cells #[.int .i64 t, .int .i64 r, .int .i64 k, .int .i64 a0, .int .i64 a1, .int .i64 i0, .int .i64 i1, .int .i64 s0, .int .i64 s1, .string nm, .string nw, .int .i64 off, .string dt] 50 (0, 0)), (w.heap.size + 1, .cells #[.int .i64 s0, .int .i64 s1] 48 (0, 0)), (w.heap.size, .cells #[.int .i64 t, .int .i64 r, .int .i64 k, .int .i64 a0, .int .i64 a1, .int .i64 i0, .int .i64 i1, .int .i64 t0, .int .i64 t1, .string nm, .string nw, .int .i64 off, .string dt] 50 (0, 0))] W_) (J3.out.alloc _) (fun v4 hK => ?_)
  have J4 := Hd.mk hK
  clear hK
  clear g0 g1 g2 g3 g4 g5 g6 g7 g8 g9 g10 g11 g12
  clear z0 z1
  clear l0 l1
  have z0 := cell_of_row v4 _ 0 _ _ _ (J4.out.get 5 rfl)
  have z1 := cell_of_row v4 _ 1 _ _ _ (J4.out.get 5 rfl)
  have g0 := cell_of_row v4 _ 0 _ _ _ (J4.out.get 6 rfl)
  have g1 := cell_of_row v4 _ 1 _ _ _ (J4.out.get 6 rfl)
  have g2 := cell_of_row v4 _ 2 _ _ _ (J4.out.get 6 rfl)
  have g3 := cell_of_row v4 _ 3 _ _ _ (J4.out.get 6 rfl)
  have g4 := cell_of_row v4 _ 4 _ _ _ (J4.out.get 6 rfl)
  have g5 := cell_of_row v4 _ 5 _ _ _ (J4.out.get 6 rfl)
  have g6 := cell_of_row v4 _ 6 _ _ _ (J4.out.get 6 rfl)
  have g7 := cell_of_row v4 _ 7 _ _ _ (J4.out.get 6 rfl)
  have g8 := cell_of_row v4 _ 8 _ _ _ (J4.out.get 6 rfl)
  have g9 := cell_of_row v4 _ 9 _ _ _ (J4.out.get 6 rfl)
  have g10 := cell_of_row v4 _ 10 _ _ _ (J4.out.get 6 rfl)
  have g11 := cell_of_row v4 _ 11 _ _ _ (J4.out.get 6 rfl)
  have g12 := cell_of_row v4 _ 12 _ _ _ (J4.out.get 6 rfl)
  have l0 := J4.out.lt 5 rfl
  have l1 := J4.out.lt 6 rfl
  go_upto_region 16 with (fail)
  refine world_gen (fun W_ => Holds w [(v4.heap.size, .cells #[.int .i64 0, .int .i64 0, .int .i64 k, .int .i64 a0, .int .i64 a1, .int .i64 i0, .int .i64 i1, .int .i64 t0, .int .i64 t1, .string nm, .string nw, .int .i64 off, .string dt] 50 (0, 0)), (v3.heap.size, .cells #[.int .i64 t, .int .i64 r, .int .i64 k, .int .i64 a0, .int .i64 a1, .int .i64 i0, .int .i64 i1, .int .i64 t0, .int .i64 t1, .string nm, .string (nw ++ ⟨#[47]⟩), .int .i64 off, .string dt] 50 (0, 0)), (v2.heap.size, .cells #[.int .i64 t, .int .i64 r, .int .i64 k, .int .i64 a0, .int .i64 a1, .int .i64 i0, .int .i64 i1, .int .i64 t0, .int .i64 t1, .string nm, .string nw, .int .i64 (off + 1 + 4095), .string dt] 50 (0, 0)), (v1.heap.size, .cells #[.int .i64 t, .int .i64 r, .int .i64 k, .int .i64 a0, .int .i64 a1, .int .i64 i0, .int .i64 i1, .int .i64 t0, .int .i64 t1, .string nm, .string nw, .int .i64 off, .string (dt ++ ⟨#[120]⟩)] 50 (0, 0)), (v0.heap.size, .cells #[.int .i64 t, .int .i64 r, .int .i64 k, .int .i64 a0, .int .i64 a1, .int .i64 s0, .int .i64 s1, .int .i64 t0, .int .i64 t1, .string nm, .string nw, .int .i64 off, .string dt] 50 (0, 0)), (w2.heap.size, .cells #[.int .i64 t, .int .i64 r, .int .i64 k, .int .i64 a0, .int .i64 a1, .int .i64 i0, .int .i64 i1, .int .i64 s0, .int .i64 s1, .string nm, .string nw, .int .i64 off, .string dt] 50 (0, 0)), (w.heap.size + 1, .cells #[.int .i64 s0, .int .i64 s1] 48 (0, 0)), (w.heap.size, .cells #[.int .i64 t, .int .i64 r, .int .i64 k, .int .i64 a0, .int .i64 a1, .int .i64 i0, .int .i64 i1, .int .i64 t0, .int .i64 t1, .string nm, .string nw, .int .i64 off, .string dt] 50 (0, 0))] W_) (J4.out.alloc _) (fun v5 hK => ?_)
  have J5 := Hd.mk hK
  clear hK
  clear g0 g1 g2 g3 g4 g5 g6 g7 g8 g9 g10 g11 g12
  clear z0 z1
  clear l0 l1
  have hk := HK.out
  have HA := Hd.mk (HA0.out (by omega))
  have HB := Hd.mk (HB0.out (by omega))
  have HC := Hd.mk (HC0.out (by omega) (by omega))
  have e7 : (k == 7) = false := by first | rfl | (rw [beq_eq_false_iff_ne]; omega) | (rw [beq_iff_eq]; omega)
  have e3 : (k == 3) = false := by first | rfl | (rw [beq_eq_false_iff_ne]; omega) | (rw [beq_iff_eq]; omega)
  have e8 : (k == 8) = false := by first | rfl | (rw [beq_eq_false_iff_ne]; omega) | (rw [beq_iff_eq]; omega)
  have kk4 : ¬ 4 ≤ k := by omega
  clear hk HK HA0 HB0 HC0
  have c2 := cell_of_row v5 _ 2 _ _ _ (J5.out.get 7 rfl)
  have g0 := cell_of_row v5 _ 0 _ _ _ (J5.out.get 5 rfl)
  have g1 := cell_of_row v5 _ 1 _ _ _ (J5.out.get 5 rfl)
  have g2 := cell_of_row v5 _ 2 _ _ _ (J5.out.get 5 rfl)
  have g3 := cell_of_row v5 _ 3 _ _ _ (J5.out.get 5 rfl)
  have g4 := cell_of_row v5 _ 4 _ _ _ (J5.out.get 5 rfl)
  have g5 := cell_of_row v5 _ 5 _ _ _ (J5.out.get 5 rfl)
  have g6 := cell_of_row v5 _ 6 _ _ _ (J5.out.get 5 rfl)
  have g7 := cell_of_row v5 _ 7 _ _ _ (J5.out.get 5 rfl)
  have g8 := cell_of_row v5 _ 8 _ _ _ (J5.out.get 5 rfl)
  have g9 := cell_of_row v5 _ 9 _ _ _ (J5.out.get 5 rfl)
  have g10 := cell_of_row v5 _ 10 _ _ _ (J5.out.get 5 rfl)
  have g11 := cell_of_row v5 _ 11 _ _ _ (J5.out.get 5 rfl)
  have g12 := cell_of_row v5 _ 12 _ _ _ (J5.out.get 5 rfl)
  go_wp2_with fail
  refine (HA.out _).mono ?_; rintro e x11 ⟨rfl, hb⟩
  have K11 := Hd.mk (J5.out.call hb)
  clear hb c2
  clear g0 g1 g2 g3 g4 g5 g6 g7 g8 g9 g10 g11 g12
  have c2 := cell_of_row x11 _ 2 _ _ _ (K11.out.get 7 rfl)
  have g0 := cell_of_row x11 _ 0 _ _ _ (K11.out.get 4 rfl)
  have g1 := cell_of_row x11 _ 1 _ _ _ (K11.out.get 4 rfl)
  have g2 := cell_of_row x11 _ 2 _ _ _ (K11.out.get 4 rfl)
  have g3 := cell_of_row x11 _ 3 _ _ _ (K11.out.get 4 rfl)
  have g4 := cell_of_row x11 _ 4 _ _ _ (K11.out.get 4 rfl)
  have g5 := cell_of_row x11 _ 5 _ _ _ (K11.out.get 4 rfl)
  have g6 := cell_of_row x11 _ 6 _ _ _ (K11.out.get 4 rfl)
  have g7 := cell_of_row x11 _ 7 _ _ _ (K11.out.get 4 rfl)
  have g8 := cell_of_row x11 _ 8 _ _ _ (K11.out.get 4 rfl)
  have g9 := cell_of_row x11 _ 9 _ _ _ (K11.out.get 4 rfl)
  have g10 := cell_of_row x11 _ 10 _ _ _ (K11.out.get 4 rfl)
  have g11 := cell_of_row x11 _ 11 _ _ _ (K11.out.get 4 rfl)
  have g12 := cell_of_row x11 _ 12 _ _ _ (K11.out.get 4 rfl)
  go_wp2_with fail
  refine (HB.out _).mono ?_; rintro e x12 ⟨rfl, hb⟩
  have K12 := Hd.mk (K11.out.call hb)
  clear hb c2
  clear g0 g1 g2 g3 g4 g5 g6 g7 g8 g9 g10 g11 g12
  have c2 := cell_of_row x12 _ 2 _ _ _ (K12.out.get 7 rfl)
  have g0 := cell_of_row x12 _ 0 _ _ _ (K12.out.get 3 rfl)
  have g1 := cell_of_row x12 _ 1 _ _ _ (K12.out.get 3 rfl)
  have g2 := cell_of_row x12 _ 2 _ _ _ (K12.out.get 3 rfl)
  have g3 := cell_of_row x12 _ 3 _ _ _ (K12.out.get 3 rfl)
  have g4 := cell_of_row x12 _ 4 _ _ _ (K12.out.get 3 rfl)
  have g5 := cell_of_row x12 _ 5 _ _ _ (K12.out.get 3 rfl)
  have g6 := cell_of_row x12 _ 6 _ _ _ (K12.out.get 3 rfl)
  have g7 := cell_of_row x12 _ 7 _ _ _ (K12.out.get 3 rfl)
  have g8 := cell_of_row x12 _ 8 _ _ _ (K12.out.get 3 rfl)
  have g9 := cell_of_row x12 _ 9 _ _ _ (K12.out.get 3 rfl)
  have g10 := cell_of_row x12 _ 10 _ _ _ (K12.out.get 3 rfl)
  have g11 := cell_of_row x12 _ 11 _ _ _ (K12.out.get 3 rfl)
  have g12 := cell_of_row x12 _ 12 _ _ _ (K12.out.get 3 rfl)
  go_wp2_with fail
  refine (HC.out _).mono ?_; rintro e x13 ⟨rfl, hb⟩
  have K13 := Hd.mk (K12.out.call hb)
  clear hb c2
  clear g0 g1 g2 g3 g4 g5 g6 g7 g8 g9 g10 g11 g12
  have c2 := cell_of_row x13 _ 2 _ _ _ (K13.out.get 7 rfl)
  have g0 := cell_of_row x13 _ 0 _ _ _ (K13.out.get 2 rfl)
  have g1 := cell_of_row x13 _ 1 _ _ _ (K13.out.get 2 rfl)
  have g2 := cell_of_row x13 _ 2 _ _ _ (K13.out.get 2 rfl)
  have g3 := cell_of_row x13 _ 3 _ _ _ (K13.out.get 2 rfl)
  have g4 := cell_of_row x13 _ 4 _ _ _ (K13.out.get 2 rfl)
  have g5 := cell_of_row x13 _ 5 _ _ _ (K13.out.get 2 rfl)
  have g6 := cell_of_row x13 _ 6 _ _ _ (K13.out.get 2 rfl)
  have g7 := cell_of_row x13 _ 7 _ _ _ (K13.out.get 2 rfl)
  have g8 := cell_of_row x13 _ 8 _ _ _ (K13.out.get 2 rfl)
  have g9 := cell_of_row x13 _ 9 _ _ _ (K13.out.get 2 rfl)
  have g10 := cell_of_row x13 _ 10 _ _ _ (K13.out.get 2 rfl)
  have g11 := cell_of_row x13 _ 11 _ _ _ (K13.out.get 2 rfl)
  have g12 := cell_of_row x13 _ 12 _ _ _ (K13.out.get 2 rfl)
  go_wp2_with fail
  refine (HD.out _).mono ?_; rintro e x14 ⟨rfl, hb⟩
  have K14 := Hd.mk (K13.out.call hb)
  clear hb c2
  clear g0 g1 g2 g3 g4 g5 g6 g7 g8 g9 g10 g11 g12
  have c2 := cell_of_row x14 _ 2 _ _ _ (K14.out.get 7 rfl)
  have g0 := cell_of_row x14 _ 0 _ _ _ (K14.out.get 1 rfl)
  have g1 := cell_of_row x14 _ 1 _ _ _ (K14.out.get 1 rfl)
  have g2 := cell_of_row x14 _ 2 _ _ _ (K14.out.get 1 rfl)
  have g3 := cell_of_row x14 _ 3 _ _ _ (K14.out.get 1 rfl)
  have g4 := cell_of_row x14 _ 4 _ _ _ (K14.out.get 1 rfl)
  have g5 := cell_of_row x14 _ 5 _ _ _ (K14.out.get 1 rfl)
  have g6 := cell_of_row x14 _ 6 _ _ _ (K14.out.get 1 rfl)
  have g7 := cell_of_row x14 _ 7 _ _ _ (K14.out.get 1 rfl)
  have g8 := cell_of_row x14 _ 8 _ _ _ (K14.out.get 1 rfl)
  have g9 := cell_of_row x14 _ 9 _ _ _ (K14.out.get 1 rfl)
  have g10 := cell_of_row x14 _ 10 _ _ _ (K14.out.get 1 rfl)
  have g11 := cell_of_row x14 _ 11 _ _ _ (K14.out.get 1 rfl)
  have g12 := cell_of_row x14 _ 12 _ _ _ (K14.out.get 1 rfl)
  go_wp2_with fail
  refine (HE.out _).mono ?_; rintro e x15 ⟨rfl, hb⟩
  have K15 := Hd.mk (K14.out.call hb)
  clear hb c2
  clear g0 g1 g2 g3 g4 g5 g6 g7 g8 g9 g10 g11 g12
  have c2 := cell_of_row x15 _ 2 _ _ _ (K15.out.get 7 rfl)
  have g0 := cell_of_row x15 _ 0 _ _ _ (K15.out.get 0 rfl)
  have g1 := cell_of_row x15 _ 1 _ _ _ (K15.out.get 0 rfl)
  have g2 := cell_of_row x15 _ 2 _ _ _ (K15.out.get 0 rfl)
  have g3 := cell_of_row x15 _ 3 _ _ _ (K15.out.get 0 rfl)
  have g4 := cell_of_row x15 _ 4 _ _ _ (K15.out.get 0 rfl)
  have g5 := cell_of_row x15 _ 5 _ _ _ (K15.out.get 0 rfl)
  have g6 := cell_of_row x15 _ 6 _ _ _ (K15.out.get 0 rfl)
  have g7 := cell_of_row x15 _ 7 _ _ _ (K15.out.get 0 rfl)
  have g8 := cell_of_row x15 _ 8 _ _ _ (K15.out.get 0 rfl)
  have g9 := cell_of_row x15 _ 9 _ _ _ (K15.out.get 0 rfl)
  have g10 := cell_of_row x15 _ 10 _ _ _ (K15.out.get 0 rfl)
  have g11 := cell_of_row x15 _ 11 _ _ _ (K15.out.get 0 rfl)
  have g12 := cell_of_row x15 _ 12 _ _ _ (K15.out.get 0 rfl)
  go_wp2_with fail
  refine (HF.out _).mono ?_; rintro e x16 ⟨rfl, hb⟩
  have K16 := Hd.mk (K15.out.call hb)
  clear hb c2
  clear g0 g1 g2 g3 g4 g5 g6 g7 g8 g9 g10 g11 g12
  have c2 := cell_of_row x16 _ 2 _ _ _ (K16.out.get 7 rfl)
  go_wp2_with fail
  go_ret
  exact ⟨rfl, K16.out.2⟩
end Go.Proofs.Ytcekecpbjmfbhaa.opFields
