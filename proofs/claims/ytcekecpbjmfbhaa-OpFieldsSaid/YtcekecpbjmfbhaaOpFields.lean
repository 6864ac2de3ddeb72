/- The law OpFields: the walk. -/
import Derived.Test.YtcekecpbjmfbhaaOpMay2
import Derived.Test.YtcekecpbjmfbhaaOpOpen
import Derived.Test.YtcekecpbjmfbhaaOpFieldsA
import Derived.Test.YtcekecpbjmfbhaaOpFieldsB
import Derived.Test.YtcekecpbjmfbhaaOpFieldsC
import Derived.Test.YtcekecpbjmfbhaaOpFieldsD
import Derived.Test.YtcekecpbjmfbhaaOpFieldsE
namespace Go.Proofs.Ytcekecpbjmfbhaa.opFields
open Go.RowKit Go.Proofs.YtcekecpbjmfbhaaW.PrintWords Go.Proofs.YtcekecpbjmfbhaaW.PrintLast Go.Proofs.YtcekecpbjmfbhaaW.PrintMore
set_option linter.unusedVariables false
set_option linter.unusedSimpArgs false
attribute [local go_sem high] eqStamp

set_option maxHeartbeats 4000000 in
set_option maxRecDepth 100000 in
theorem fields_idle (t r k a0 a1 i0 i1 t0 t1 : Int) (nm nw : ByteArray) (off : Int) (dt : ByteArray) (s0 s1 : Int) (hd : dt.size ≤ 140737488355328) (h : mayO t r k a0 a1 i0 i1 t0 t1 nm nw off dt = false ∨ isZ s0 s1 = true) (w : World) :
    Calls Try.prog 8 #[.agg #[.int .i64 t, .int .i64 r, .int .i64 k, .int .i64 a0, .int .i64 a1, .int .i64 i0, .int .i64 i1, .int .i64 t0, .int .i64 t1, .string nm, .string nw, .int .i64 off, .string dt], .agg #[.int .i64 s0, .int .i64 s1]] w fun e w' => e = .returned (.bool true) ∧ Below w.heap.size w w' := by
  have HS := Hd.mk op_shown
  have HM := Hd.mk (op_May t r k a0 a1 i0 i1 t0 t1 nm nw off dt hd)
  have K0 := Hd.mk (Holds.start2 w (.cells #[.int .i64 t, .int .i64 r, .int .i64 k, .int .i64 a0, .int .i64 a1, .int .i64 i0, .int .i64 i1, .int .i64 t0, .int .i64 t1, .string nm, .string nw, .int .i64 off, .string dt] 50 (0, 0)) (.cells #[.int .i64 s0, .int .i64 s1] 48 (0, 0)))
  cases hm : mayO t r k a0 a1 i0 i1 t0 t1 nm nw off dt with
  | false =>
    rw [hm] at HM
    clear hm h
    go_enter Try.func8, Try.ntmps8
    go_wp2_with fail
    refine world_gen_calls _ K0.out (fun W hK => ?_)
    have K0 := Hd.mk hK
    clear hK
    refine (HS.out _).mono ?_; rintro e w1 ⟨rfl, hb1⟩
    have K1 := Hd.mk (K0.out.call hb1)
    clear hb1 K0
    have g0 := cell_of_row w1 _ 0 _ _ _ (K1.out.get 1 rfl)
    have g1 := cell_of_row w1 _ 1 _ _ _ (K1.out.get 1 rfl)
    have g2 := cell_of_row w1 _ 2 _ _ _ (K1.out.get 1 rfl)
    have g3 := cell_of_row w1 _ 3 _ _ _ (K1.out.get 1 rfl)
    have g4 := cell_of_row w1 _ 4 _ _ _ (K1.out.get 1 rfl)
    have g5 := cell_of_row w1 _ 5 _ _ _ (K1.out.get 1 rfl)
    have g6 := cell_of_row w1 _ 6 _ _ _ (K1.out.get 1 rfl)
    have g7 := cell_of_row w1 _ 7 _ _ _ (K1.out.get 1 rfl)
    have g8 := cell_of_row w1 _ 8 _ _ _ (K1.out.get 1 rfl)
    have g9 := cell_of_row w1 _ 9 _ _ _ (K1.out.get 1 rfl)
    have g10 := cell_of_row w1 _ 10 _ _ _ (K1.out.get 1 rfl)
    have g11 := cell_of_row w1 _ 11 _ _ _ (K1.out.get 1 rfl)
    have g12 := cell_of_row w1 _ 12 _ _ _ (K1.out.get 1 rfl)
    go_wp2_with fail
    refine (HM.out _).mono ?_; rintro e w2 ⟨rfl, hb2⟩
    have K2 := Hd.mk (K1.out.call hb2)
    clear hb2 K1
    clear g0 g1 g2 g3 g4 g5 g6 g7 g8 g9 g10 g11 g12
    go_wp2_with fail
    go_ret
    exact ⟨rfl, K2.out.2⟩
  | true =>
    rw [hm] at HM h
    have hz : (s0 == 0 && s1 == 0) = true := by rcases h with h | h; cases h; exact h
    clear hm h
    go_enter Try.func8, Try.ntmps8
    go_wp2_with fail
    refine world_gen_calls _ K0.out (fun W hK => ?_)
    have K0 := Hd.mk hK
    clear hK
    refine (HS.out _).mono ?_; rintro e w1 ⟨rfl, hb1⟩
    have K1 := Hd.mk (K0.out.call hb1)
    clear hb1 K0
    have g0 := cell_of_row w1 _ 0 _ _ _ (K1.out.get 1 rfl)
    have g1 := cell_of_row w1 _ 1 _ _ _ (K1.out.get 1 rfl)
    have g2 := cell_of_row w1 _ 2 _ _ _ (K1.out.get 1 rfl)
    have g3 := cell_of_row w1 _ 3 _ _ _ (K1.out.get 1 rfl)
    have g4 := cell_of_row w1 _ 4 _ _ _ (K1.out.get 1 rfl)
    have g5 := cell_of_row w1 _ 5 _ _ _ (K1.out.get 1 rfl)
    have g6 := cell_of_row w1 _ 6 _ _ _ (K1.out.get 1 rfl)
    have g7 := cell_of_row w1 _ 7 _ _ _ (K1.out.get 1 rfl)
    have g8 := cell_of_row w1 _ 8 _ _ _ (K1.out.get 1 rfl)
    have g9 := cell_of_row w1 _ 9 _ _ _ (K1.out.get 1 rfl)
    have g10 := cell_of_row w1 _ 10 _ _ _ (K1.out.get 1 rfl)
    have g11 := cell_of_row w1 _ 11 _ _ _ (K1.out.get 1 rfl)
    have g12 := cell_of_row w1 _ 12 _ _ _ (K1.out.get 1 rfl)
    go_wp2_with fail
    refine (HM.out _).mono ?_; rintro e w2 ⟨rfl, hb2⟩
    have K2 := Hd.mk (K1.out.call hb2)
    clear hb2 K1
    clear g0 g1 g2 g3 g4 g5 g6 g7 g8 g9 g10 g11 g12
    have g0 := cell_of_row w2 _ 0 _ _ _ (K2.out.get 0 rfl)
    have g1 := cell_of_row w2 _ 1 _ _ _ (K2.out.get 0 rfl)
    go_wp2_with fail
    go_ret
    exact ⟨rfl, K2.out.2⟩
theorem law_OpFields {v u : Value} {t r k a0 a1 i0 i1 t0 t1 : Int} {nm nw : ByteArray} {off : Int} {dt : ByteArray} {s0 s1 : Int} (hv : IsOp v t r k a0 a1 i0 i1 t0 t1 nm nw off dt) (hu : IsStamp u s0 s1) (w : World) :
    Calls Try.prog 8 #[v, u] w fun e w' => e = .returned (.bool true) ∧ Below w.heap.size w w' := by
  have hdt := hv.2.2.2
  obtain ⟨rfl, -⟩ := hv
  obtain ⟨rfl, -⟩ := hu
  cases hm : mayO t r k a0 a1 i0 i1 t0 t1 nm nw off dt with
  | false => exact fields_idle _ _ _ _ _ _ _ _ _ _ _ _ _ _ _ hdt (.inl hm) w
  | true =>
    cases hz : isZ s0 s1 with
    | true => exact fields_idle _ _ _ _ _ _ _ _ _ _ _ _ _ _ _ hdt (.inr hz) w
    | false =>
      by_cases k7 : k = 7
      · exact fields_A _ _ _ _ _ _ _ _ _ _ _ _ _ _ _ hm hz k7 w
      · by_cases k3 : k = 3
        · exact fields_B _ _ _ _ _ _ _ _ _ _ _ _ _ _ _ hm hz k3 w
        · by_cases k8 : k = 8
          · exact fields_C _ _ _ _ _ _ _ _ _ _ _ _ _ _ _ hm hz k8 w
          · by_cases k4 : k < 4
            · exact fields_D _ _ _ _ _ _ _ _ _ _ _ _ _ _ _ hm hz ⟨k3, k4⟩ w
            · exact fields_E _ _ _ _ _ _ _ _ _ _ _ _ _ _ _ hm hz ⟨k7, k8, by omega⟩ w
end Go.Proofs.Ytcekecpbjmfbhaa.opFields
