/- The law DiskNobody: the walk. -/
import Derived.Test.YtkjlakjihjfjdaaDkShown
import Derived.Test.YtkjlakjihjfjdaaDkNil
namespace Go.Proofs.Ytkjlakjihjfjdaa.diskNobody
open Go.RowKit Go.Proofs.YtkjlakjihjfjdaaW.PrintWords Go.Proofs.YtkjlakjihjfjdaaW.PrintLast Go.Proofs.YtkjlakjihjfjdaaW.PrintMore
set_option linter.unusedVariables false
set_option linter.unusedSimpArgs false

set_option maxHeartbeats 2000000 in
set_option maxRecDepth 100000 in
theorem walk (s : ByteArray) (keep : Int) (hs : s.size ≤ 300) (w : World) :
    Calls Try.prog 11 #[.string s, .int .i64 keep] w fun e w' => e = .returned (.bool true) ∧ Below w.heap.size w w' := by
  have HS := Hd.mk disk_shown
  have HB := Hd.mk hs
  have hs' : ¬ (300 : Int) < (s.size : Int) := by omega
  have nSync := Hd.mk nil_Sync
  have nCrash := Hd.mk (nil_Crash keep)
  have nAppend := Hd.mk (nil_Append s)
  have nSwitch := Hd.mk (nil_Switch s)
  have nSnap := Hd.mk nil_Snap
  have nLog := Hd.mk nil_Log
  have nSynced := Hd.mk nil_Synced
  have nFree := Hd.mk nil_Free
  have nCopy := Hd.mk nil_Copy
  have nNew := Hd.mk dS_New
  clear hs
  go_enter Try.func11, Try.ntmps11
  go_wp2_with fail
  refine (HS.out _).mono ?_; rintro e w1 ⟨rfl, h1⟩
  go_wp2_with fail
  refine (nSync.out _).mono ?_; rintro e w2 ⟨rfl, h2⟩
  have k2 := below_step h1 h2
  clear h1 h2
  go_wp2_with fail
  refine (nCrash.out _).mono ?_; rintro e w3 ⟨rfl, h3⟩
  have k3 := below_step k2 h3
  clear k2 h3
  have H3 := Hd.mk (nNew.out w 400 w3 k3)
  clear k3
  go_wp2_with fail
  refine H3.out.mono ?_; rintro e w4 ⟨b, rfl, h4⟩
  rw [show max (400 : Int) 0 = 400 from rfl] at h4
  have H4 := Hd.mk (dS_Copy h4 (by show 0 ≤ _; omega))
  have D4 := Hd.mk h4
  clear H3 h4
  go_wp2_with fail
  refine H4.out.mono ?_; rintro e w5 ⟨b2, rfl, h5⟩
  obtain ⟨T, hT1, hT2, h6⟩ := D4.out.apart h5.below
  have C := Hd.mk (fun w => h5.far (W'' := w) hT2)
  have B5 := Hd.mk (D4.out.step h5.below).below
  have HT := Hd.mk hT1
  have H6 := Hd.mk (dS_Append (x := ⟨#[]⟩) h6 s (by decide) (by have := HB.out; show ((0 : Nat) : Int) + ((0 : Nat) : Int) + _ ≤ _; omega) (by have := HB.out; show 0 + _ ≤ _; omega))
  rw [show (⟨#[]⟩ : ByteArray) ++ s = s from by apply ByteArray.ext; simp] at H6
  clear D4 H4 h5 hT1 hT2 h6
  go_wp2_with fail
  refine H6.out.mono ?_; rintro e w6 ⟨rfl, h7⟩
  have C6 := Hd.mk (C.out w6 h7.kept)
  have B6 := Hd.mk (B5.out.trans (h7.kept.mono HT.out).below)
  clear C B5 HT H6 h7
  go_wp2_with fail
  refine (nAppend.out _).mono ?_; rintro e w7 ⟨rfl, h7⟩
  have C7 := Hd.mk (C6.out.step h7)
  have B7 := Hd.mk (below_step B6.out h7)
  clear C6 B6 h7
  go_wp2_with fail
  refine (nSwitch.out _).mono ?_; rintro e w8 ⟨rfl, h8⟩
  have C8 := Hd.mk (C7.out.step h8)
  have B8 := Hd.mk (below_step B7.out h8)
  clear C7 B7 h8
  go_wp2_with fail
  refine (nSnap.out _).mono ?_; rintro e w9 ⟨rfl, h9⟩
  have C9 := Hd.mk (C8.out.step h9)
  have B9 := Hd.mk (below_step B8.out h9)
  clear C8 B8 h9
  go_wp2_with fail
  refine (nLog.out _).mono ?_; rintro e w10 ⟨rfl, h10⟩
  have C10 := Hd.mk (C9.out.step h10)
  have B10 := Hd.mk (below_step B9.out h10)
  clear C9 B9 h10
  go_wp2_with fail
  refine (nSynced.out _).mono ?_; rintro e w11 ⟨rfl, h11⟩
  have C11 := Hd.mk (C10.out.step h11)
  have B11 := Hd.mk (below_step B10.out h11)
  clear C10 B10 h11
  go_wp2_with fail
  refine (nFree.out _).mono ?_; rintro e w12 ⟨rfl, h12⟩
  have C12 := Hd.mk (C11.out.step h12)
  have B12 := Hd.mk (below_step B11.out h12)
  clear C11 B11 h12
  go_wp2_with fail
  refine (nCopy.out _).mono ?_; rintro e w13 ⟨rfl, h13⟩
  have C13 := Hd.mk (C12.out.step h13)
  have B13 := Hd.mk (below_step B12.out h13)
  clear C12 B12 h13
  go_wp2_with fail
  have HL := Hd.mk (dS_Log_ (x := ⟨#[]⟩) C13.out)
  refine HL.out.mono ?_; rintro e w14 ⟨rfl, h14⟩
  have C14 := Hd.mk (C13.out.step h14)
  have B14 := Hd.mk (below_step B13.out h14)
  clear C13 B13 h14 HL
  go_wp2_with fail
  have HF := Hd.mk (dS_Free_ (x := ⟨#[]⟩) C14.out (by decide) (by decide) (by decide))
  rw [show (400 : Int) - ((⟨#[]⟩ : ByteArray).size : Int) - ((⟨#[]⟩ : ByteArray).size : Int) = 400 from rfl] at HF
  refine HF.out.mono ?_; rintro e w15 ⟨rfl, h15⟩
  have B15 := Hd.mk (below_step B14.out h15)
  clear C14 B14 h15 HF
  go_wp2_with fail
  refine (nNew.out w (-1) w15 B15.out).mono ?_; rintro e w16 ⟨b3, rfl, h16⟩
  rw [show max (-1 : Int) 0 = 0 from rfl] at h16
  have HG := Hd.mk (dS_Free (x := ⟨#[]⟩) h16 (by decide) (by decide) (by decide))
  rw [show (0 : Int) - ((⟨#[]⟩ : ByteArray).size : Int) - ((⟨#[]⟩ : ByteArray).size : Int) = 0 from rfl] at HG
  clear h16 B15
  go_wp2_with fail
  refine HG.out.mono ?_; rintro e w17 ⟨rfl, h17⟩
  go_wp2_with fail
  go_ret
  exact ⟨rfl, h17.below⟩

set_option maxRecDepth 100000 in
theorem law_DiskNobody (s : ByteArray) (_ : s.size ≤ 140737488351232) (keep : Int) (_ : (Lit.int .i64 keep).wf = true) (w : World) :
    Calls Try.prog 11 #[.string s, .int .i64 keep] w fun e w' => e = .returned (.bool true) ∧ Below w.heap.size w w' := by
  by_cases hs : s.size ≤ 300
  · exact walk s keep hs w
  · have HS := Hd.mk disk_shown
    have hs' : (300 : Int) < (s.size : Int) := by omega
    clear hs
    go_enter Try.func11, Try.ntmps11
    go_wp2_with fail
    refine (HS.out _).mono ?_; rintro e w1 ⟨rfl, h1⟩
    go_wp2_with fail
    go_ret
    exact ⟨rfl, h1⟩
end Go.Proofs.Ytkjlakjihjfjdaa.diskNobody
