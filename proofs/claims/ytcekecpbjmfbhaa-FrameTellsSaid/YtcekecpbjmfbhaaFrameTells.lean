/- The law FrameTells: the walk. -/
import Derived.Test.YtcekecpbjmfbhaaFrameShown
namespace Go.Proofs.Ytcekecpbjmfbhaa.frameTells
open Go.RowKit Go.Proofs.YtcekecpbjmfbhaaW.PrintWords Go.Proofs.YtcekecpbjmfbhaaW.PrintLast Go.Proofs.YtcekecpbjmfbhaaW.PrintMore Pk Cr
set_option linter.unusedVariables false
set_option linter.unusedSimpArgs false

theorem txV_form (o : Option (List UInt8 × List UInt8)) : ∃ (a b : ByteArray) (n : Int), txV o = .tuple #[.string a, .string b, .int .i64 n] := by
  cases o with
  | none => exact ⟨_, _, _, rfl⟩
  | some p => exact ⟨_, _, _, rfl⟩
set_option maxHeartbeats 4000000 in
set_option maxRecDepth 100000 in
theorem law_FrameTells (body : ByteArray) (hb : body.size ≤ 140737488351232) (s : ByteArray) (hs : s.size ≤ 140737488351232) (w : World) :
    Calls Try.prog 3 #[.string body, .string s] w fun e w' => e = .returned (.bool true) ∧ Below w.heap.size w w' := by
  have HS := Hd.mk frame_shown
  by_cases h1 : 2000 < body.size
  · have g1 : (2000 : Int) < (body.size : Int) := by omega
    clear hb hs
    go_enter Try.func3, Try.ntmps3
    go_wp2_with fail
    refine (HS.out _).mono ?_; rintro e w1 ⟨rfl, hb1⟩
    go_wp2_with fail
    go_ret
    exact ⟨rfl, hb1⟩
  · by_cases h2 : 2000 < s.size
    · have g1 : ¬ (2000 : Int) < (body.size : Int) := by omega
      have g2 : (2000 : Int) < (s.size : Int) := by omega
      have d1 : decide ((2000 : Int) < (body.size : Int)) = false := decide_eq_false g1
      have d2 : decide ((2000 : Int) < (s.size : Int)) = true := decide_eq_true g2
      clear hb hs
      go_enter Try.func3, Try.ntmps3
      go_wp2_with fail
      refine (HS.out _).mono ?_; rintro e w1 ⟨rfl, hb1⟩
      go_wp2_with fail
      go_ret
      exact ⟨rfl, hb1⟩
    · have g1 : ¬ (2000 : Int) < (body.size : Int) := by omega
      have g2 : ¬ (2000 : Int) < (s.size : Int) := by omega
      have d1 : decide ((2000 : Int) < (body.size : Int)) = false := decide_eq_false g1
      have d2 : decide ((2000 : Int) < (s.size : Int)) = false := decide_eq_false g2
      have e : ptV body.data.toList = .tuple #[.string ⟨(putF body.data.toList).toArray⟩, .int .i64 0] := if_pos (by show body.size ≤ 65536; omega)
      have HP1 := frame_Put body hb
      have HP2 := ref_FPut body hb
      rw [e] at HP1 HP2
      obtain ⟨ta, tb, tn, et⟩ := txV_form (tkF s.data.toList)
      have HT1 := frame_Take s hs
      have HT2 := ref_FTake s hs
      rw [et] at HT1 HT2
      have HP1 := Hd.mk HP1
      have HP2 := Hd.mk HP2
      have HT1 := Hd.mk HT1
      have HT2 := Hd.mk HT2
      have HA1 := Hd.mk (frame_All s (by omega))
      have HA2 := Hd.mk (ref_FAll s (by omega))
      clear e et hb hs
      generalize (⟨(putF body.data.toList).toArray⟩ : ByteArray) = P at *
      generalize ((s.size - (allF s.data.toList).2.length : Nat) : Int) = nn at *
      generalize strs (allF s.data.toList).1 = L at *
      go_enter Try.func3, Try.ntmps3
      go_wp2_with fail
      refine (HS.out _).mono ?_; rintro e w1 ⟨rfl, hb1⟩
      clear HS
      go_wp2_with fail
      refine (HP1.out _).mono ?_; rintro e w2 ⟨rfl, hb2⟩
      have hb2 := below_step hb1 hb2
      clear HP1 hb1
      go_wp2_with fail
      refine (HP2.out _).mono ?_; rintro e w3 ⟨rfl, hb3⟩
      have hb3 := below_step hb2 hb3
      clear HP2 hb2
      go_wp2_with fail
      refine (HT1.out _).mono ?_; rintro e w4 ⟨rfl, hb4⟩
      have hb4 := below_step hb3 hb4
      clear HT1 hb3
      go_wp2_with fail
      refine (HT2.out _).mono ?_; rintro e w5 ⟨rfl, hb5⟩
      have hb5 := below_step hb4 hb5
      clear HT2 hb4
      go_wp2_with fail
      refine (HA1.out _).mono ?_; rintro e w6 ⟨v1, rfl, ho1, hb6⟩
      have hb6' := below_step hb5 hb6
      have ht1 := ho1.texts
      clear HA1 hb5 ho1 hb6
      go_wp2_with fail
      refine (HA2.out _).mono ?_; rintro e w7 ⟨v2, rfl, ho2, hb7⟩
      have HX := Hd.mk (ref_Texts (ht1.keep hb7) ho2.texts)
      rw [decide_eq_true rfl] at HX
      have hb7 := below_step hb6' hb7
      clear HA2 hb6' ho2 ht1
      go_wp2_with fail
      refine (HX.out).mono ?_; rintro e w8 ⟨rfl, hb8⟩
      have hb8 := below_step hb7 hb8
      clear HX hb7
      go_wp2_with fail
      go_ret
      exact ⟨rfl, hb8⟩
end Go.Proofs.Ytcekecpbjmfbhaa.frameTells
