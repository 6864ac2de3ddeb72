/- The law DiskRoom: the walk. -/
import Derived.Test.YtkjlakjihjfjdaaDkShown
import Derived.Test.YtkjlakjihjfjdaaDkNil
import Derived.Test.YtkjlakjihjfjdaaEnds
namespace Go.Proofs.Ytkjlakjihjfjdaa.diskRoom
open Go.RowKit Go.Proofs.YtkjlakjihjfjdaaW.PrintWords Go.Proofs.YtkjlakjihjfjdaaW.PrintLast Go.Proofs.YtkjlakjihjfjdaaW.PrintMore
set_option linter.unusedVariables false
set_option linter.unusedSimpArgs false

set_option maxHeartbeats 2000000 in
set_option maxRecDepth 100000 in
theorem arm11 (room : Int) (h0 : 0 ≤ room) (h1 : room ≤ 255) (s t : ByteArray) (hsl : s.size ≤ 300) (htl : t.size ≤ 300) (hs : (s.size : Int) ≤ room) (ht : (((s.size : Nat) : Int) + (t.size : Int)) ≤ room) (w : World) :
    Calls Try.prog 6 #[.int .u8 room, .string s, .string t] w fun e w' => e = .returned (.bool true) ∧ Below w.heap.size w w' := by
  have HS := Hd.mk disk_shown
  have z0 : (⟨#[]⟩ : ByteArray).size = 0 := rfl
  have wr : IntKind.i64.wrap room = room := by rw [i64_w]; unfold wrap64; omega
  have HB := Hd.mk (⟨h0, h1, hsl, htl, hs, ht, z0⟩ : _ ∧ _ ∧ _ ∧ _ ∧ _ ∧ _ ∧ _)
  have hc0 : (⟨#[]⟩ : ByteArray) ++ t = t := by apply ByteArray.ext; simp
  have hm : max room 0 = room := by omega
  have HC := Hd.mk (⟨hc0, hm⟩ : _ ∧ _)
  have wr2 : wrap64 ((s.size : Int) + t.size) = (s.size : Int) + t.size := by unfold wrap64; omega
  have wr3 : wrap64 (room - s.size) = room - s.size := by unfold wrap64; omega
  have hsl' : ¬ (300 : Int) < (s.size : Int) := by omega
  have htl' : ¬ (300 : Int) < (t.size : Int) := by omega
  clear hsl htl hc0 hm
  go_enter Try.func6, Try.ntmps6
  go_wp2_with fail
  refine (HS.out _).mono ?_; rintro e w1 ⟨rfl, h1⟩
  have H1 := Hd.mk (dS_New w room w1 h1)
  rw [HC.out.2] at H1
  clear h1 HS
  go_wp2_with fail
  refine H1.out.mono ?_; rintro e w2 ⟨b, rfl, h2⟩
  have H2 := Hd.mk (dS_Append h2 s (by have := HB.out; omega) (by have := HB.out; omega) (by have := HB.out; omega))
  rw [show (⟨#[]⟩ : ByteArray) ++ s = s from by apply ByteArray.ext; simp] at H2
  clear h2 H1
  go_wp2_with fail
  refine H2.out.mono ?_; rintro e w3 ⟨rfl, h3⟩
  have H3 := Hd.mk (dS_Append h3 t (by have := HB.out; omega) (by have := HB.out; omega) (by have := HB.out; omega))
  clear h3 H2
  go_wp2_with fail
  refine H3.out.mono ?_; rintro e w4 ⟨rfl, h4⟩
  have H4 := Hd.mk (dS_Log h4)
  clear h4 H3
  go_wp2_with fail
  refine H4.out.mono ?_; rintro e w5 ⟨rfl, h5⟩
  have H5 := Hd.mk (dS_Switch h5 s (by have := HB.out; omega))
  clear h5 H4
  go_wp2_with fail
  refine H5.out.mono ?_; rintro e w6 ⟨rfl, h6⟩
  have H6 := Hd.mk (disk_Snap h6)
  clear h6 H5
  go_wp2_with fail
  refine H6.out.mono ?_; rintro e w7 ⟨rfl, h7⟩
  have H7 := Hd.mk (dS_Log (x := ⟨#[]⟩) h7)
  clear h7 H6
  go_wp2_with fail
  refine H7.out.mono ?_; rintro e w8 ⟨rfl, h8⟩
  have H8 := Hd.mk (disk_Synced h8)
  clear h8 H7
  go_wp2_with fail
  refine H8.out.mono ?_; rintro e w9 ⟨rfl, h9⟩
  have H9 := Hd.mk (dS_Free (x := ⟨#[]⟩) h9 (by have := HB.out; omega) (by have := HB.out; omega) (by have := HB.out; omega))
  rw [show room - (s.size : Int) - ((⟨#[]⟩ : ByteArray).size : Int) = room - (s.size : Int) from by have := HB.out; omega] at H9
  clear h9 H8
  go_wp2_with fail
  refine H9.out.mono ?_; rintro e wa ⟨rfl, ha⟩
  go_wp2_with fail
  go_ret
  exact ⟨rfl, ha.below⟩

set_option maxHeartbeats 2000000 in
set_option maxRecDepth 100000 in
theorem arm10 (room : Int) (h0 : 0 ≤ room) (h1 : room ≤ 255) (s t : ByteArray) (hsl : s.size ≤ 300) (htl : t.size ≤ 300) (hs : (s.size : Int) ≤ room) (ht : ¬ (((s.size : Nat) : Int) + (t.size : Int)) ≤ room) (w : World) :
    Calls Try.prog 6 #[.int .u8 room, .string s, .string t] w fun e w' => e = .returned (.bool true) ∧ Below w.heap.size w w' := by
  have HS := Hd.mk disk_shown
  have z0 : (⟨#[]⟩ : ByteArray).size = 0 := rfl
  have wr : IntKind.i64.wrap room = room := by rw [i64_w]; unfold wrap64; omega
  have HB := Hd.mk (⟨h0, h1, hsl, htl, hs, ht, z0⟩ : _ ∧ _ ∧ _ ∧ _ ∧ _ ∧ _ ∧ _)
  have hc0 : (⟨#[]⟩ : ByteArray) ++ t = t := by apply ByteArray.ext; simp
  have hm : max room 0 = room := by omega
  have HC := Hd.mk (⟨hc0, hm⟩ : _ ∧ _)
  have wr2 : wrap64 ((s.size : Int) + t.size) = (s.size : Int) + t.size := by unfold wrap64; omega
  have wr3 : wrap64 (room - s.size) = room - s.size := by unfold wrap64; omega
  have hsl' : ¬ (300 : Int) < (s.size : Int) := by omega
  have htl' : ¬ (300 : Int) < (t.size : Int) := by omega
  clear hsl htl hc0 hm
  go_enter Try.func6, Try.ntmps6
  go_wp2_with fail
  refine (HS.out _).mono ?_; rintro e w1 ⟨rfl, h1⟩
  have H1 := Hd.mk (dS_New w room w1 h1)
  rw [HC.out.2] at H1
  clear h1 HS
  go_wp2_with fail
  refine H1.out.mono ?_; rintro e w2 ⟨b, rfl, h2⟩
  have H2 := Hd.mk (dS_Append h2 s (by have := HB.out; omega) (by have := HB.out; omega) (by have := HB.out; omega))
  rw [show (⟨#[]⟩ : ByteArray) ++ s = s from by apply ByteArray.ext; simp] at H2
  clear h2 H1
  go_wp2_with fail
  refine H2.out.mono ?_; rintro e w3 ⟨rfl, h3⟩
  have H3 := Hd.mk (dS_Append_off h3 t (by have := HB.out; omega) (by have := HB.out; omega) (by have := HB.out; omega) (by have := HB.out; omega))
  clear h3 H2
  go_wp2_with fail
  refine H3.out.mono ?_; rintro e w4 ⟨rfl, h4⟩
  have H4 := Hd.mk (dS_Log h4)
  clear h4 H3
  go_wp2_with fail
  refine H4.out.mono ?_; rintro e w5 ⟨rfl, h5⟩
  have H5 := Hd.mk (dS_Switch h5 s (by have := HB.out; omega))
  clear h5 H4
  go_wp2_with fail
  refine H5.out.mono ?_; rintro e w6 ⟨rfl, h6⟩
  have H6 := Hd.mk (disk_Snap h6)
  clear h6 H5
  go_wp2_with fail
  refine H6.out.mono ?_; rintro e w7 ⟨rfl, h7⟩
  have H7 := Hd.mk (dS_Log (x := ⟨#[]⟩) h7)
  clear h7 H6
  go_wp2_with fail
  refine H7.out.mono ?_; rintro e w8 ⟨rfl, h8⟩
  have H8 := Hd.mk (disk_Synced h8)
  clear h8 H7
  go_wp2_with fail
  refine H8.out.mono ?_; rintro e w9 ⟨rfl, h9⟩
  have H9 := Hd.mk (dS_Free (x := ⟨#[]⟩) h9 (by have := HB.out; omega) (by have := HB.out; omega) (by have := HB.out; omega))
  rw [show room - (s.size : Int) - ((⟨#[]⟩ : ByteArray).size : Int) = room - (s.size : Int) from by have := HB.out; omega] at H9
  clear h9 H8
  go_wp2_with fail
  refine H9.out.mono ?_; rintro e wa ⟨rfl, ha⟩
  go_wp2_with fail
  go_ret
  exact ⟨rfl, ha.below⟩

set_option maxHeartbeats 2000000 in
set_option maxRecDepth 100000 in
theorem arm01 (room : Int) (h0 : 0 ≤ room) (h1 : room ≤ 255) (s t : ByteArray) (hsl : s.size ≤ 300) (htl : t.size ≤ 300) (hs : ¬ (s.size : Int) ≤ room) (ht : ((((0 : Nat) : Nat) : Int) + (t.size : Int)) ≤ room) (w : World) :
    Calls Try.prog 6 #[.int .u8 room, .string s, .string t] w fun e w' => e = .returned (.bool true) ∧ Below w.heap.size w w' := by
  have HS := Hd.mk disk_shown
  have z0 : (⟨#[]⟩ : ByteArray).size = 0 := rfl
  have wr : IntKind.i64.wrap room = room := by rw [i64_w]; unfold wrap64; omega
  have HB := Hd.mk (⟨h0, h1, hsl, htl, hs, ht, z0⟩ : _ ∧ _ ∧ _ ∧ _ ∧ _ ∧ _ ∧ _)
  have hc0 : (⟨#[]⟩ : ByteArray) ++ t = t := by apply ByteArray.ext; simp
  have hm : max room 0 = room := by omega
  have HC := Hd.mk (⟨hc0, hm⟩ : _ ∧ _)
  have wr2 : wrap64 ((s.size : Int) + t.size) = (s.size : Int) + t.size := by unfold wrap64; omega
  have wr3 : wrap64 (room - s.size) = room - s.size := by unfold wrap64; omega
  have hsl' : ¬ (300 : Int) < (s.size : Int) := by omega
  have htl' : ¬ (300 : Int) < (t.size : Int) := by omega
  clear hsl htl hm
  go_enter Try.func6, Try.ntmps6
  go_wp2_with fail
  refine (HS.out _).mono ?_; rintro e w1 ⟨rfl, h1⟩
  have H1 := Hd.mk (dS_New w room w1 h1)
  rw [HC.out.2] at H1
  clear h1 HS
  go_wp2_with fail
  refine H1.out.mono ?_; rintro e w2 ⟨b, rfl, h2⟩
  have H2 := Hd.mk (dS_Append_off h2 s (by have := HB.out; omega) (by have := HB.out; omega) (by have := HB.out; omega) (by have := HB.out; omega))
  clear h2 H1
  go_wp2_with fail
  refine H2.out.mono ?_; rintro e w3 ⟨rfl, h3⟩
  have H3 := Hd.mk (dS_Append h3 t (by have := HB.out; omega) (by have := HB.out; omega) (by have := HB.out; omega))
  rw [HC.out.1] at H3
  clear h3 H2
  go_wp2_with fail
  refine H3.out.mono ?_; rintro e w4 ⟨rfl, h4⟩
  have H4 := Hd.mk (dS_Log h4)
  clear h4 H3
  go_wp2_with fail
  refine H4.out.mono ?_; rintro e w5 ⟨rfl, h5⟩
  have H5 := Hd.mk (disk_Switch_off h5 s (by have := HB.out; omega))
  clear h5 H4
  go_wp2_with fail
  refine H5.out.mono ?_; rintro e w6 ⟨rfl, h6⟩
  have H6 := Hd.mk (disk_Snap h6)
  clear h6 H5
  go_wp2_with fail
  refine H6.out.mono ?_; rintro e w7 ⟨rfl, h7⟩
  have H7 := Hd.mk (dS_Log h7)
  clear h7 H6
  go_wp2_with fail
  refine H7.out.mono ?_; rintro e w8 ⟨rfl, h8⟩
  go_wp2_with fail
  go_ret
  exact ⟨rfl, h8.below⟩

set_option maxHeartbeats 2000000 in
set_option maxRecDepth 100000 in
theorem arm00 (room : Int) (h0 : 0 ≤ room) (h1 : room ≤ 255) (s t : ByteArray) (hsl : s.size ≤ 300) (htl : t.size ≤ 300) (hs : ¬ (s.size : Int) ≤ room) (ht : ¬ ((((0 : Nat) : Nat) : Int) + (t.size : Int)) ≤ room) (w : World) :
    Calls Try.prog 6 #[.int .u8 room, .string s, .string t] w fun e w' => e = .returned (.bool true) ∧ Below w.heap.size w w' := by
  have HS := Hd.mk disk_shown
  have z0 : (⟨#[]⟩ : ByteArray).size = 0 := rfl
  have wr : IntKind.i64.wrap room = room := by rw [i64_w]; unfold wrap64; omega
  have HB := Hd.mk (⟨h0, h1, hsl, htl, hs, ht, z0⟩ : _ ∧ _ ∧ _ ∧ _ ∧ _ ∧ _ ∧ _)
  have hc0 : (⟨#[]⟩ : ByteArray) ++ t = t := by apply ByteArray.ext; simp
  have hm : max room 0 = room := by omega
  have HC := Hd.mk (⟨hc0, hm⟩ : _ ∧ _)
  have wr2 : wrap64 ((s.size : Int) + t.size) = (s.size : Int) + t.size := by unfold wrap64; omega
  have wr3 : wrap64 (room - s.size) = room - s.size := by unfold wrap64; omega
  have hsl' : ¬ (300 : Int) < (s.size : Int) := by omega
  have htl' : ¬ (300 : Int) < (t.size : Int) := by omega
  clear hsl htl hc0 hm
  go_enter Try.func6, Try.ntmps6
  go_wp2_with fail
  refine (HS.out _).mono ?_; rintro e w1 ⟨rfl, h1⟩
  have H1 := Hd.mk (dS_New w room w1 h1)
  rw [HC.out.2] at H1
  clear h1 HS
  go_wp2_with fail
  refine H1.out.mono ?_; rintro e w2 ⟨b, rfl, h2⟩
  have H2 := Hd.mk (dS_Append_off h2 s (by have := HB.out; omega) (by have := HB.out; omega) (by have := HB.out; omega) (by have := HB.out; omega))
  clear h2 H1
  go_wp2_with fail
  refine H2.out.mono ?_; rintro e w3 ⟨rfl, h3⟩
  have H3 := Hd.mk (dS_Append_off h3 t (by have := HB.out; omega) (by have := HB.out; omega) (by have := HB.out; omega) (by have := HB.out; omega))
  clear h3 H2
  go_wp2_with fail
  refine H3.out.mono ?_; rintro e w4 ⟨rfl, h4⟩
  have H4 := Hd.mk (dS_Log h4)
  clear h4 H3
  go_wp2_with fail
  refine H4.out.mono ?_; rintro e w5 ⟨rfl, h5⟩
  have H5 := Hd.mk (disk_Switch_off h5 s (by have := HB.out; omega))
  clear h5 H4
  go_wp2_with fail
  refine H5.out.mono ?_; rintro e w6 ⟨rfl, h6⟩
  have H6 := Hd.mk (disk_Snap h6)
  clear h6 H5
  go_wp2_with fail
  refine H6.out.mono ?_; rintro e w7 ⟨rfl, h7⟩
  have H7 := Hd.mk (dS_Log (x := ⟨#[]⟩) h7)
  clear h7 H6
  go_wp2_with fail
  refine H7.out.mono ?_; rintro e w8 ⟨rfl, h8⟩
  go_wp2_with fail
  go_ret
  exact ⟨rfl, h8.below⟩

set_option maxRecDepth 100000 in
theorem law_DiskRoom (room : Int) (hw : (Lit.int .u8 room).wf = true) (s : ByteArray) (_ : s.size ≤ 140737488351232) (t : ByteArray) (_ : t.size ≤ 140737488351232) (w : World) :
    Calls Try.prog 6 #[.int .u8 room, .string s, .string t] w fun e w' => e = .returned (.bool true) ∧ Below w.heap.size w w' := by
  have HS := Hd.mk disk_shown
  obtain ⟨h0, h1⟩ : 0 ≤ room ∧ room ≤ 255 := by
    obtain ⟨n, rfl, hn⟩ := u8_of hw
    omega
  by_cases hs : s.size ≤ 300
  · by_cases ht : t.size ≤ 300
    · by_cases a : (s.size : Int) ≤ room
      · by_cases b : ((s.size : Nat) : Int) + (t.size : Int) ≤ room
        · exact arm11 room h0 h1 s t hs ht a b w
        · exact arm10 room h0 h1 s t hs ht a b w
      · by_cases b : ((0 : Nat) : Int) + (t.size : Int) ≤ room
        · exact arm01 room h0 h1 s t hs ht a b w
        · exact arm00 room h0 h1 s t hs ht a b w
    · have hs' : ¬ (300 : Int) < (s.size : Int) := by omega
      have ht' : (300 : Int) < (t.size : Int) := by omega
      clear ht hs
      go_enter Try.func6, Try.ntmps6
      go_wp2_with fail
      refine (HS.out _).mono ?_; rintro e w1 ⟨rfl, h1⟩
      go_wp2_with fail
      go_ret
      exact ⟨rfl, h1⟩
  · have hs' : (300 : Int) < (s.size : Int) := by omega
    clear hs
    go_enter Try.func6, Try.ntmps6
    go_wp2_with fail
    refine (HS.out _).mono ?_; rintro e w1 ⟨rfl, h1⟩
    go_wp2_with fail
    go_ret
    exact ⟨rfl, h1⟩
end Go.Proofs.Ytkjlakjihjfjdaa.diskRoom
