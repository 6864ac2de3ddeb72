/- thimblelaw06.shown: true. -/
import Derived.Test.YtcekecpbjmfbhaaFrameLaid
namespace Go.Proofs.Ytcekecpbjmfbhaa
open Go.RowKit Go.Proofs.YtcekecpbjmfbhaaW.PrintWords Go.Proofs.YtcekecpbjmfbhaaW.PrintLast Go.Proofs.YtcekecpbjmfbhaaW.PrintMore Pk Cr
set_option linter.unusedVariables false
set_option linter.unusedSimpArgs false

theorem tkF_short : tkF [2, 97, 98] = none := by decide +kernel
theorem shown_put : (putF [97, 98]).length = 7 ∧ (putF [97, 98]).take 3 = [2, 97, 98] := by decide +kernel
set_option maxHeartbeats 1000000 in
set_option maxRecDepth 100000 in
theorem frame_shown (w : World) : Calls Try.prog 14 #[] w fun e w' => e = .returned (.bool true) ∧ Below w.heap.size w w' := by
  have HP := frame_Put ⟨#[97, 98]⟩ (by decide)
  have e : ptV [97, 98] = .tuple #[.string ⟨(putF [97, 98]).toArray⟩, .int .i64 0] := if_pos (by decide)
  have e0 : (⟨#[97, 98]⟩ : ByteArray).data.toList = [97, 98] := rfl
  rw [e0, e] at HP
  have HP := Hd.mk HP
  have hsz : (⟨(putF [97, 98]).toArray⟩ : ByteArray).size = 7 := by rw [size_of]; exact shown_put.1
  have hx : (⟨(putF [97, 98]).toArray⟩ : ByteArray).extract 0 3 = ⟨#[2, 97, 98]⟩ := by rw [take_bytes]; show (⟨((putF [97, 98]).take 3).toArray⟩ : ByteArray) = _; rw [shown_put.2]
  have hcat : (⟨(putF [97, 98]).toArray⟩ : ByteArray) ++ ⟨#[2, 97, 98]⟩ = ⟨(putF [97, 98] ++ [2, 97, 98]).toArray⟩ := mk_append _ [2, 97, 98]
  have hall : allF (putF [97, 98] ++ [2, 97, 98]) = ([[97, 98]], [2, 97, 98]) := by
    have := allF_laid [[97, 98]] (by simp) [2, 97, 98]
    rw [laidF_one, allF_none tkF_short] at this
    exact this
  have HA : Hd (∀ w, Calls Try.prog 19 #[.string (⟨(putF [97, 98]).toArray⟩ ++ ⟨#[2, 97, 98]⟩)] w fun e w' => ∃ A cap, e = .returned (.tuple #[.slice (some A) 1 cap, .int .i64 7]) ∧ w'.cell? (A.add 0) = some (.string ⟨#[97, 98]⟩) ∧ Below w.heap.size w w') := ⟨fun w => by
    have h := frame_All (⟨(putF [97, 98]).toArray⟩ ++ ⟨#[2, 97, 98]⟩) (by rw [size_app, hsz]; decide) w
    refine h.mono ?_
    rintro e w' ⟨v, rfl, ho, hb⟩
    rw [hcat, mk_list, hall] at ho
    obtain ⟨A, cap, rfl, h1, h2, h3⟩ := ho.texts
    obtain ⟨a, rfl, hc⟩ := h3 0 ⟨#[97, 98]⟩ rfl
    refine ⟨a, cap, ?_, hc, hb⟩
    rw [hcat, mk_list, hall, size_of, List.length_append, shown_put.1]
    rfl⟩
  have hq1 : ((7 : Nat) : Int) = 7 := rfl
  clear e e0 hcat hall
  generalize (⟨(putF [97, 98]).toArray⟩ : ByteArray) = P at *
  have HS := Hd.mk hsz
  have hs1 : (P.size : Int) = 7 := by omega
  go_enter Try.func14, Try.ntmps14
  go_wp2_with fail
  refine (HP.out _).mono ?_; rintro e w1 ⟨rfl, hb1⟩
  go_wp2_with fail
  refine (HA.out _).mono ?_; rintro e w2 ⟨A, cap, rfl, hc, hb2⟩
  have hc' : w2.cell? A = some (.string ⟨#[97, 98]⟩) := by have e : A.add 0 = A := (by unfold Addr.add; split <;> simp_all); rw [e] at hc; exact hc
  clear hc
  go_wp2_with fail
  go_ret
  exact ⟨rfl, below_step hb1 hb2⟩
end Go.Proofs.Ytcekecpbjmfbhaa
