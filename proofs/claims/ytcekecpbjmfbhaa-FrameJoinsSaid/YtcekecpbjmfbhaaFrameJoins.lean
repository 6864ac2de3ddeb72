/- The law FrameJoins: the walk. -/
import Derived.Test.YtcekecpbjmfbhaaFrameShown
import Derived.Test.YtcekecpbjmfbhaaTextsOpen
namespace Go.Proofs.Ytcekecpbjmfbhaa.frameJoins
open Go.RowKit Go.Proofs.YtcekecpbjmfbhaaW.PrintWords Go.Proofs.YtcekecpbjmfbhaaW.PrintLast Go.Proofs.YtcekecpbjmfbhaaW.PrintMore Pk Cr
set_option linter.unusedVariables false
set_option linter.unusedSimpArgs false

set_option maxHeartbeats 4000000 in
set_option maxRecDepth 100000 in
theorem law_FrameJoins {va : Value} {l : List ByteArray} {w : World} (ha : AreTexts w va l) (s : ByteArray) (hs : s.size ≤ 140737488351232) :
    Calls Try.prog 7 #[va, .string s] w fun e w' => e = .returned (.bool true) ∧ Below w.heap.size w w' := by
  have HS := Hd.mk frame_shown
  have HF := Hd.mk (fun (w' : World) (h : Below w.heap.size w w') => law_few (ha.keep h))
  have HA := Hd.mk ha
  obtain ⟨A, cap, rfl, -⟩ := ha
  cases hf : fewB l with
  | false =>
    rw [hf] at HF
    clear hs
    go_enter Try.func7, Try.ntmps7
    go_wp2_with fail
    refine (HS.out _).mono ?_; rintro e w1 ⟨rfl, hb1⟩
    go_wp2_with fail
    refine (HF.out _ hb1).mono ?_; rintro e w2 ⟨rfl, hb2⟩
    go_wp2_with fail
    go_ret
    exact ⟨rfl, below_step hb1 hb2⟩
  | true =>
    rw [hf] at HF
    by_cases h1 : 2000 < s.size
    · have g1 : (2000 : Int) < (s.size : Int) := by omega
      have d1 : decide ((2000 : Int) < (s.size : Int)) = true := decide_eq_true g1
      clear hs
      go_enter Try.func7, Try.ntmps7
      go_wp2_with fail
      refine (HS.out _).mono ?_; rintro e w1 ⟨rfl, hb1⟩
      go_wp2_with fail
      refine (HF.out _ hb1).mono ?_; rintro e w2 ⟨rfl, hb2⟩
      go_wp2_with fail
      go_ret
      exact ⟨rfl, below_step hb1 hb2⟩
    · have g1 : ¬ (2000 : Int) < (s.size : Int) := by omega
      have d1 : decide ((2000 : Int) < (s.size : Int)) = false := decide_eq_false g1
      obtain ⟨f1, f2, f3, f4⟩ := few_laid hf
      have HL : Hd (∀ (w' : World), Below w.heap.size w w' → Calls Try.prog 23 #[.slice A l.length cap] w' fun e w'' => ∃ vE, e = .returned (.tuple #[.string ⟨(laidF (lists l)).toArray⟩, vE]) ∧ Below w'.heap.size w' w'') := ⟨fun w' h => by
        refine (law_laid (HA.out.keep h) (fun x hx => by have := f2 x hx; omega) (by omega) (by omega)).mono ?_
        rintro e w'' ⟨vE, rfl, -, hb⟩
        exact ⟨vE, rfl, hb⟩⟩
      have hz : (⟨(laidF (lists l)).toArray⟩ : ByteArray).size = (laidF (lists l)).length := size_of _
      have hcat : ((⟨(laidF (lists l)).toArray⟩ : ByteArray) ++ s).data.toList = laidF (lists l) ++ s.data.toList := by rw [append_list]
      have hall := allF_laid (lists l) f3 s.data.toList
      have hle : (allF s.data.toList).2.length ≤ s.size := left_le s.data.toList
      have HA1 := frame_All ((⟨(laidF (lists l)).toArray⟩ : ByteArray) ++ s) (by rw [size_app, hz]; omega)
      rw [hcat, hall, strs_app, strs_lists] at HA1
      simp only at HA1
      have e1 : ((((⟨(laidF (lists l)).toArray⟩ : ByteArray) ++ s).size - (allF s.data.toList).2.length : Nat) : Int) = (((⟨(laidF (lists l)).toArray⟩ : ByteArray).size : Int) + ((s.size - (allF s.data.toList).2.length : Nat) : Int)) := by rw [size_app]; omega
      rw [e1] at HA1
      have HA1 := Hd.mk HA1
      have HA2 := Hd.mk (frame_All s (by omega))
      have hcnt : (strs (allF s.data.toList).1).length ≤ 2000 := by
        rw [strs_len]
        have h1 := (allF_back s.data.toList).1
        have h2 := congrArg List.length h1
        rw [List.length_append] at h2
        have h3 := laid_count (allF s.data.toList).1
        have : s.data.toList.length = s.size := rfl
        omega
      have HC := Hd.mk (⟨hcnt, f1⟩ : _ ∧ _)
      have hsum : (⟨(laidF (lists l)).toArray⟩ : ByteArray).size + s.size ≤ 9223372036854775807 := by omega
      have hsz2 : ((⟨(laidF (lists l)).toArray⟩ : ByteArray).size : Int) ≤ 4280 := by omega
      have hm2 : ((s.size - (allF s.data.toList).2.length : Nat) : Int) ≤ 2000 := by omega
      have hm0 : (0 : Int) ≤ ((s.size - (allF s.data.toList).2.length : Nat) : Int) := by omega
      clear hz hcat hall hle e1 hcnt f1 f2 f3 f4 hf hs h1
      generalize (⟨(laidF (lists l)).toArray⟩ : ByteArray) = P at *
      generalize ((s.size - (allF s.data.toList).2.length : Nat) : Int) = m at *
      generalize strs (allF s.data.toList).1 = Y at *
      have hw : wrap64 ((P.size : Int) + m) = (P.size : Int) + m := by unfold wrap64; omega
      clear hsz2 hm2 hm0
      go_enter Try.func7, Try.ntmps7
      go_wp2_with fail
      refine (HS.out _).mono ?_; rintro e w1 ⟨rfl, hb1⟩
      clear HS
      go_wp2_with fail
      refine (HF.out _ hb1).mono ?_; rintro e w2 ⟨rfl, hb2⟩
      have hb2 := below_step hb1 hb2
      clear HF hb1
      go_wp2_with fail
      refine (HL.out _ hb2).mono ?_; rintro e w3 ⟨vE, rfl, hb3⟩
      have hb3 := below_step hb2 hb3
      clear HL hb2
      go_wp2_with fail
      refine (HA1.out _).mono ?_; rintro e w4 ⟨v1, rfl, ho1, hb4⟩
      have hb4 := below_step hb3 hb4
      have ht1 := ho1.texts
      clear HA1 hb3 ho1
      go_wp2_with fail
      refine (HA2.out _).mono ?_; rintro e w5 ⟨v2, rfl, ho2, hb5⟩
      have HT1 := Hd.mk (ht1.keep hb5)
      have HT2 := Hd.mk ho2.texts
      have HB5 := Hd.mk (below_step hb4 hb5)
      clear HA2 hb4 ho2 ht1 hb5
      go_wp2_with (first | ((with_reducible refine gate_dst (N := 42) rfl ?_); refine wpList_cat rfl _ _ rfl rfl w5.heap.size (.slice (some ⟨w5.heap.size, 0, none⟩) 0 0) [] rfl (OwnT.empty w5) (.slice A l.length cap) l rfl ((HA.out.keep HB5.out).keep ((Below.refl _ _).alloc (Nat.le_refl _) _)) (by have := HC.out.2; simp; omega) (by simp) ?_; intro v3 w6 g1 g2; have HB6 := Hd.mk ((OwnT.empty w5).grown g2 ((Below.refl _ w5).alloc (Nat.le_refl _) _) (by simp)); have HO3 := Hd.mk g1) | ((with_reducible refine gate_dst (N := 44) rfl ?_); refine wpList_cat rfl _ _ rfl rfl w5.heap.size v3 ([] ++ l) rfl HO3.out v2 Y rfl (HT2.out.keep HB6.out) (by have := HC.out; simp; omega) HB6.out.size ?_; intro v4 w7 g3 g4; have HB7 := Hd.mk (HO3.out.grown g4 HB6.out HB6.out.size); have HO4 := Hd.mk g3))
      have HX := Hd.mk (ref_Texts (HT1.out.keep HB7.out) HO4.out.texts)
      rw [List.nil_append, decide_eq_true rfl] at HX
      refine (HX.out).mono ?_; rintro e w8 ⟨rfl, hb8⟩
      have hb8 := below_step (below_step HB5.out HB7.out) hb8
      clear HX
      go_wp2_with fail
      go_ret
      exact ⟨rfl, hb8⟩
end Go.Proofs.Ytcekecpbjmfbhaa.frameJoins
