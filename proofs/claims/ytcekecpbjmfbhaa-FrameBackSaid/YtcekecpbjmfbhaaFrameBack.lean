/- The law FrameBack: the walk. -/
import Derived.Test.YtcekecpbjmfbhaaFrameShown
namespace Go.Proofs.Ytcekecpbjmfbhaa.frameBack
open Go.RowKit Go.Proofs.YtcekecpbjmfbhaaW.PrintWords Go.Proofs.YtcekecpbjmfbhaaW.PrintLast Go.Proofs.YtcekecpbjmfbhaaW.PrintMore Pk Cr
set_option linter.unusedVariables false
set_option linter.unusedSimpArgs false

set_option maxHeartbeats 4000000 in
set_option maxRecDepth 100000 in
theorem law_FrameBack (s : ByteArray) (hs : s.size ≤ 140737488351232) (w : World) :
    Calls Try.prog 6 #[.string s] w fun e w' => e = .returned (.bool true) ∧ Below w.heap.size w w' := by
  have HS := Hd.mk frame_shown
  by_cases h1 : 2000 < s.size
  · have g1 : (2000 : Int) < (s.size : Int) := by omega
    clear hs
    go_enter Try.func6, Try.ntmps6
    go_wp2_with fail
    refine (HS.out _).mono ?_; rintro e w1 ⟨rfl, hb1⟩
    go_wp2_with fail
    go_ret
    exact ⟨rfl, hb1⟩
  · have g1 : ¬ (2000 : Int) < (s.size : Int) := by omega
    obtain ⟨k1, k2, k3⟩ := allF_back s.data.toList
    have HA := frame_All s (by omega)
    generalize (allF s.data.toList).1 = L at *
    generalize (allF s.data.toList).2 = R at *
    have hl : s.size = (laidF L).length + R.length := by
      have : s.data.toList.length = s.size := rfl
      rw [← this, k1, List.length_append]
    have x1 : s.extract 0 (s.size - R.length) = ⟨(laidF L).toArray⟩ := take_str k1
    have x2 : s.extract (s.size - R.length) s.size = ⟨R.toArray⟩ := by
      rw [drop_bytes, k1, hl, Nat.add_sub_cancel, List.drop_left]
    have HT : Hd (∀ w, Calls Try.prog 17 #[.string (s.extract (s.size - R.length) s.size)] w fun e w' => e = .returned (.tuple #[.string ⟨#[]⟩, .string ⟨#[]⟩, .int .i64 2]) ∧ Below w.heap.size w w') := ⟨fun w => by
      have := frame_Take (s.extract (s.size - R.length) s.size) (by rw [x2, size_of]; omega) w
      rw [x2, mk_list, k2] at this
      rw [x2]
      exact this⟩
    have HL : Hd (∀ (v : Value) (w : World), AreTexts w v (strs L) → Calls Try.prog 23 #[v] w fun e w' => ∃ vE, e = .returned (.tuple #[.string (s.extract 0 (s.size - R.length)), vE]) ∧ Below w.heap.size w w') := ⟨fun v w hv => by
      have hc := laid_count L
      have := law_laid hv (fun x hx => by
        obtain ⟨b, hb, rfl⟩ := List.mem_map.1 hx
        rw [size_of]
        exact k3 b hb) (by rw [lists_strs]; omega) (by rw [strs_len]; omega)
      refine this.mono ?_
      rintro e w' ⟨vE, rfl, -, hb⟩
      exact ⟨vE, by rw [lists_strs, x1], hb⟩⟩
    have HA := Hd.mk HA
    have hm : s.size - R.length ≤ s.size := Nat.sub_le _ _
    clear x1 x2 k1 k2 k3 hl hs h1
    generalize s.size - R.length = m at *
    have d1 : decide ((m : Int) < 0) = false := decide_eq_false (by omega)
    have d2 : decide (s.size < m) = false := decide_eq_false (by omega)
    have d3 : ¬ (s.size < m) := by omega
    go_enter Try.func6, Try.ntmps6
    go_wp2_with fail
    refine (HS.out _).mono ?_; rintro e w1 ⟨rfl, hb1⟩
    clear HS
    go_wp2_with fail
    refine (HA.out _).mono ?_; rintro e w2 ⟨v, rfl, ho, hb2⟩
    have hb2 := below_step hb1 hb2
    have ht := ho.texts
    clear HA hb1 ho
    go_wp2_with fail
    refine (HL.out _ _ ht).mono ?_; rintro e w3 ⟨vE, rfl, hb3⟩
    have hb3 := below_step hb2 hb3
    clear HL hb2 ht
    go_wp2_with fail
    refine (HT.out _).mono ?_; rintro e w4 ⟨rfl, hb4⟩
    have hb4 := below_step hb3 hb4
    clear HT hb3
    go_wp2_with fail
    go_ret
    exact ⟨rfl, hb4⟩
end Go.Proofs.Ytcekecpbjmfbhaa.frameBack
