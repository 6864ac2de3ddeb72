/- Whether an operation may be: the contract, and what follows. -/
import Derived.Test.YtcekecpbjmfbhaaOpMay
namespace Go.Proofs.Ytcekecpbjmfbhaa
open Go.RowKit Go.Proofs.YtcekecpbjmfbhaaW.PrintWords Go.Proofs.YtcekecpbjmfbhaaW.PrintLast Go.Proofs.YtcekecpbjmfbhaaW.PrintMore
set_option linter.unusedVariables false
set_option linter.unusedSimpArgs false

/-- Whether an operation may be. -/
def mayO (t r k a0 a1 i0 i1 t0 t1 : Int) (nm nw : ByteArray) (off : Int) (dt : ByteArray) : Bool :=
  rowsOk (fieldsN k) [(1, mayS a0 a1, isZ a0 a1), (2, mayS i0 i1, isZ i0 i1), (4, mayS t0 t1, isZ t0 t1), (8, nameB nm, isE nm), (16, nameB nw, isE nw), (32, true, off == 0), (64, true, isE dt)] && decide (fieldsN k ≠ 0) && mayS t r && !isZ t r && dataB k off dt
theorem fieldsN_lt (k : Int) : fieldsN k < 128 := by
  unfold fieldsN
  repeat' split
  all_goals decide
theorem op_May (t r k a0 a1 i0 i1 t0 t1 : Int) (nm nw : ByteArray) (off : Int) (dt : ByteArray) (hd : dt.size ≤ 140737488355328) (w : World) :
    Calls Try.prog 25 #[.agg #[.int .i64 t, .int .i64 r, .int .i64 k, .int .i64 a0, .int .i64 a1, .int .i64 i0, .int .i64 i1, .int .i64 t0, .int .i64 t1, .string nm, .string nw, .int .i64 off, .string dt]] w fun e w' => e = .returned (.bool (mayO t r k a0 a1 i0 i1 t0 t1 nm nw off dt)) ∧ Below w.heap.size w w' :=
  May_walk t r k a0 a1 i0 i1 t0 t1 off nm nw dt (fieldsN k) (fieldsN_lt k) (mayS a0 a1) (mayS i0 i1) (mayS t0 t1) (nameB nm) (nameB nw) (mayS t r) (dataB k off dt) w _ ⟨rfl⟩ ⟨op_fields k⟩ ⟨stamp_May a0 a1⟩ ⟨stamp_May i0 i1⟩ ⟨stamp_May t0 t1⟩ ⟨op_Name nm⟩ ⟨op_Name nw⟩ ⟨stamp_May t r⟩ ⟨op_data t r k a0 a1 i0 i1 t0 t1 off nm nw dt hd⟩
theorem k_cases (k : Int) : k = 1 ∨ k = 2 ∨ k = 3 ∨ k = 4 ∨ k = 5 ∨ k = 6 ∨ k = 7 ∨ k = 8 ∨ k = 9 ∨ k = 10 ∨ fieldsN k = 0 := by
  by_cases h : 1 ≤ k ∧ k ≤ 10
  · omega
  · repeat (refine .inr ?_)
    unfold fieldsN
    repeat rw [if_neg (by omega)]
section
variable {t r k a0 a1 i0 i1 t0 t1 : Int} {nm nw : ByteArray} {off : Int} {dt : ByteArray}
theorem mayO_zero (h : fieldsN k = 0) : mayO t r k a0 a1 i0 i1 t0 t1 nm nw off dt = false := by unfold mayO; rw [h]; simp
theorem mayO_To (hk : k ≠ 7) (h : isZ t0 t1 = false) : mayO t r k a0 a1 i0 i1 t0 t1 nm nw off dt = false := by
  rcases k_cases k with rfl | rfl | rfl | rfl | rfl | rfl | rfl | rfl | rfl | rfl | h0
  all_goals first | exact absurd rfl hk | exact mayO_zero h0 | simp [mayO, fieldsN, rowsOk, rowOk, h]
theorem mayO_Ino (hk : k < 4) (h : isZ i0 i1 = false) : mayO t r k a0 a1 i0 i1 t0 t1 nm nw off dt = false := by
  rcases k_cases k with rfl | rfl | rfl | rfl | rfl | rfl | rfl | rfl | rfl | rfl | h0
  all_goals first | exact absurd hk (by decide) | exact mayO_zero h0 | simp [mayO, fieldsN, rowsOk, rowOk, h]
theorem mayO_Data (hk : k ≠ 3) (hk2 : k ≠ 8) (h : isE dt = false) : mayO t r k a0 a1 i0 i1 t0 t1 nm nw off dt = false := by
  rcases k_cases k with rfl | rfl | rfl | rfl | rfl | rfl | rfl | rfl | rfl | rfl | h0
  all_goals first | exact absurd rfl hk | exact absurd rfl hk2 | exact mayO_zero h0 | simp [mayO, fieldsN, rowsOk, rowOk, h]
theorem mayO_Off (h : mayO t r k a0 a1 i0 i1 t0 t1 nm nw off dt = true) : (0 ≤ off ∧ off ≤ 4095) ∧ dt.size ≤ 64 ∧ ∀ off', 4096 ≤ off' → mayO t r k a0 a1 i0 i1 t0 t1 nm nw off' dt = false := by
  have he : isE dt = true → dt.size ≤ 64 := fun h => by have := of_decide_eq_true h; omega
  rcases k_cases k with rfl | rfl | rfl | rfl | rfl | rfl | rfl | rfl | rfl | rfl | h0
  all_goals first
    | (rw [mayO_zero h0] at h; cases h)
    | (simp [mayO, fieldsN, rowsOk, rowOk, dataB] at h ⊢; refine ⟨by omega, by first | exact he (by simp_all) | omega, fun off' ho => ?_⟩; intros; omega)
theorem mayO_New (h : nameB nw = false) (h2 : isE nw = false) : mayO t r k a0 a1 i0 i1 t0 t1 nm nw off dt = false := by
  rcases k_cases k with rfl | rfl | rfl | rfl | rfl | rfl | rfl | rfl | rfl | rfl | h0
  all_goals first | exact mayO_zero h0 | simp [mayO, fieldsN, rowsOk, rowOk, h, h2]
theorem mayO_Stamp (h : isZ t r = true) : mayO t r k a0 a1 i0 i1 t0 t1 nm nw off dt = false := by unfold mayO; rw [h]; simp
theorem mayO_name (h : mayO t r k a0 a1 i0 i1 t0 t1 nm nw off dt = true) : nm.size ≤ 8 ∧ nw.size ≤ 8 := by
  have e : ∀ s, nameB s = true → s.size ≤ 8 := fun s h => by
    unfold nameB at h; simp at h; exact h.1.2.1
  have z : ∀ s, isE s = true → s.size ≤ 8 := fun s h => by have := of_decide_eq_true h; omega
  rcases k_cases k with rfl | rfl | rfl | rfl | rfl | rfl | rfl | rfl | rfl | rfl | h0
  all_goals first
    | (rw [mayO_zero h0] at h; cases h)
    | (simp [mayO, fieldsN, rowsOk, rowOk] at h; exact ⟨by first | exact e nm (by simp_all) | exact z nm (by simp_all), by first | exact e nw (by simp_all) | exact z nw (by simp_all)⟩)
end
theorem name_slash (s : ByteArray) : nameB (s ++ ⟨#[47]⟩) = false := by
  unfold nameB
  have : cleanB (s ++ (⟨#[47]⟩ : ByteArray)).data.toList = false := by
    have e : (s ++ (⟨#[47]⟩ : ByteArray)).data.toList = s.data.toList ++ [47] := by simp
    rw [e]; unfold cleanB; simp
  rw [this, Bool.and_false]
theorem isE_snoc (s : ByteArray) (x : UInt8) : isE (s ++ ⟨#[x]⟩) = false := by
  unfold isE
  rw [decide_eq_false]
  have : (s ++ (⟨#[x]⟩ : ByteArray)).size = s.size + 1 := by rw [ByteArray.size_append]; rfl
  omega
set_option maxHeartbeats 1000000 in
set_option maxRecDepth 100000 in
theorem op_shown (w : World) : Calls Try.prog 24 #[] w fun e w' => e = .returned (.bool true) ∧ Below w.heap.size w w' := by
  have e1 : mayO 1 0 1 0 0 0 0 0 0 ⟨#[97, 47, 98]⟩ ⟨#[]⟩ 0 ⟨#[]⟩ = false := by decide +kernel
  have e2 : mayO 1 0 1 0 0 0 0 0 0 ⟨#[97, 98]⟩ ⟨#[]⟩ 0 ⟨#[]⟩ = true := by decide +kernel
  have H1 := Hd.mk (op_May 1 0 1 0 0 0 0 0 0 ⟨#[97, 47, 98]⟩ ⟨#[]⟩ 0 ⟨#[]⟩ (by decide))
  have H2 := Hd.mk (op_May 1 0 1 0 0 0 0 0 0 ⟨#[97, 98]⟩ ⟨#[]⟩ 0 ⟨#[]⟩ (by decide))
  rw [e1] at H1
  rw [e2] at H2
  have H3 := Hd.mk (op_Makes 1 0 1 0 0 0 0 0 0 0 ⟨#[97, 98]⟩ ⟨#[]⟩ ⟨#[]⟩)
  rw [show makesN 1 = 1 from rfl] at H3
  have K0 := Hd.mk (Holds.start2 w (.cells #[.int .i64 1, .int .i64 0, .int .i64 1, .int .i64 0, .int .i64 0, .int .i64 0, .int .i64 0, .int .i64 0, .int .i64 0, .string ⟨#[97, 47, 98]⟩, .string ⟨#[]⟩, .int .i64 0, .string ⟨#[]⟩] 50 (0, 0)) (.cells #[.int .i64 1, .int .i64 0, .int .i64 1, .int .i64 0, .int .i64 0, .int .i64 0, .int .i64 0, .int .i64 0, .int .i64 0, .string ⟨#[97, 98]⟩, .string ⟨#[]⟩, .int .i64 0, .string ⟨#[]⟩] 50 (0, 0)))
  clear e1 e2
  go_enter Try.func24, Try.ntmps24
  go_wp2_with fail
  refine world_gen_calls _ K0.out (fun W hK => ?_)
  have K0 := Hd.mk hK
  clear hK
  refine (H1.out _).mono ?_; rintro e w1 ⟨rfl, hb1⟩
  have K1 := Hd.mk (K0.out.call hb1)
  clear hb1 K0 H1
  have g0 := cell_of_row w1 _ 0 _ _ _ (K1.out.get 0 rfl)
  have g1 := cell_of_row w1 _ 1 _ _ _ (K1.out.get 0 rfl)
  have g2 := cell_of_row w1 _ 2 _ _ _ (K1.out.get 0 rfl)
  have g3 := cell_of_row w1 _ 3 _ _ _ (K1.out.get 0 rfl)
  have g4 := cell_of_row w1 _ 4 _ _ _ (K1.out.get 0 rfl)
  have g5 := cell_of_row w1 _ 5 _ _ _ (K1.out.get 0 rfl)
  have g6 := cell_of_row w1 _ 6 _ _ _ (K1.out.get 0 rfl)
  have g7 := cell_of_row w1 _ 7 _ _ _ (K1.out.get 0 rfl)
  have g8 := cell_of_row w1 _ 8 _ _ _ (K1.out.get 0 rfl)
  have g9 := cell_of_row w1 _ 9 _ _ _ (K1.out.get 0 rfl)
  have g10 := cell_of_row w1 _ 10 _ _ _ (K1.out.get 0 rfl)
  have g11 := cell_of_row w1 _ 11 _ _ _ (K1.out.get 0 rfl)
  have g12 := cell_of_row w1 _ 12 _ _ _ (K1.out.get 0 rfl)
  go_wp2_with fail
  refine (H2.out _).mono ?_; rintro e w2 ⟨rfl, hb2⟩
  have K2 := Hd.mk (K1.out.call hb2)
  clear hb2 K1
  clear g0 g1 g2 g3 g4 g5 g6 g7 g8 g9 g10 g11 g12
  have g0 := cell_of_row w2 _ 0 _ _ _ (K2.out.get 0 rfl)
  have g1 := cell_of_row w2 _ 1 _ _ _ (K2.out.get 0 rfl)
  have g2 := cell_of_row w2 _ 2 _ _ _ (K2.out.get 0 rfl)
  have g3 := cell_of_row w2 _ 3 _ _ _ (K2.out.get 0 rfl)
  have g4 := cell_of_row w2 _ 4 _ _ _ (K2.out.get 0 rfl)
  have g5 := cell_of_row w2 _ 5 _ _ _ (K2.out.get 0 rfl)
  have g6 := cell_of_row w2 _ 6 _ _ _ (K2.out.get 0 rfl)
  have g7 := cell_of_row w2 _ 7 _ _ _ (K2.out.get 0 rfl)
  have g8 := cell_of_row w2 _ 8 _ _ _ (K2.out.get 0 rfl)
  have g9 := cell_of_row w2 _ 9 _ _ _ (K2.out.get 0 rfl)
  have g10 := cell_of_row w2 _ 10 _ _ _ (K2.out.get 0 rfl)
  have g11 := cell_of_row w2 _ 11 _ _ _ (K2.out.get 0 rfl)
  have g12 := cell_of_row w2 _ 12 _ _ _ (K2.out.get 0 rfl)
  go_wp2_with fail
  refine (H3.out _).mono ?_; rintro e w3 ⟨rfl, hb3⟩
  have K3 := Hd.mk (K2.out.call hb3)
  clear hb3 K2
  clear g0 g1 g2 g3 g4 g5 g6 g7 g8 g9 g10 g11 g12
  go_wp2_with fail
  go_ret
  exact ⟨rfl, K3.out.2⟩
end Go.Proofs.Ytcekecpbjmfbhaa
