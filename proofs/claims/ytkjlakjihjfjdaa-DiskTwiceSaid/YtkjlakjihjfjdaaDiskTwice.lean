/- The law DiskTwice: the walk. -/
import Derived.Test.YtkjlakjihjfjdaaDiskShown
namespace Go.Proofs.Ytkjlakjihjfjdaa.diskTwice
open Go.RowKit Go.Proofs.YtkjlakjihjfjdaaW.PrintWords Go.Proofs.YtkjlakjihjfjdaaW.PrintLast Go.Proofs.YtkjlakjihjfjdaaW.PrintMore
set_option linter.unusedVariables false
set_option linter.unusedSimpArgs false

theorem str_size (l : List UInt8) : (⟨l.toArray⟩ : ByteArray).size = l.length := by simp [ByteArray.size]
theorem str_cat (l : List UInt8) (u : ByteArray) : (⟨(l ++ u.data.toList).toArray⟩ : ByteArray) = ⟨l.toArray⟩ ++ u := by apply ByteArray.ext; simp
theorem extract_take (l : List UInt8) (n : Nat) : (⟨l.toArray⟩ : ByteArray).extract 0 n = ⟨(l.take n).toArray⟩ := by
  apply ByteArray.ext
  simp
theorem ok400 {l : List UInt8} (h : l.length ≤ 400) : DiskOk ⟨#[]⟩ l 400 := ⟨by decide, by decide, by show ((0 : Nat) : Int) + _ ≤ _; omega, by omega⟩

set_option maxHeartbeats 2000000 in
set_option maxRecDepth 100000 in
theorem walk (s t u : ByteArray) (keep : Int) (hs : s.size ≤ 100) (ht : t.size ≤ 100) (hu : u.size ≤ 100) (w : World) :
    Calls Try.prog 3 #[.string s, .string t, .string u, .int .i64 keep] w fun e w' => e = .returned (.bool true) ∧ Below w.heap.size w w' := by
  have HS := Hd.mk disk_shown
  have HB := Hd.mk (⟨hs, ht, hu⟩ : _ ∧ _ ∧ _)
  have hsl : s.data.toList.length = s.size := rfl
  have htl : t.data.toList.length = t.size := rfl
  have hul : u.data.toList.length = u.size := rfl
  have HZ := Hd.mk (⟨hsl, htl, hul⟩ : _ ∧ _ ∧ _)
  clear hsl htl hul
  have e0 : ∀ x : ByteArray, x.size ≤ 100 → (x.size : Int) ≤ 400 - ((⟨#[]⟩ : ByteArray).size : Int) - (([] : List UInt8).length : Int) := by intro x hx; show (x.size : Int) ≤ 400 - ((0 : Nat) : Int) - ((0 : Nat) : Int); omega
  have z0 : ((⟨#[]⟩ : ByteArray).size : Int) = 0 := rfl
  have HE := Hd.mk (⟨e0, z0⟩ : _ ∧ _)
  clear e0 z0
  go_enter Try.func3, Try.ntmps3
  go_wp2_with fail
  refine (HS.out _).mono ?_; rintro e w0 ⟨rfl, h0⟩
  have H0 := Hd.mk (disk_New w 400 w0 h0)
  clear h0 HS
  go_wp2_with fail
  refine H0.out.mono ?_; rintro e w1 ⟨b, rfl, h1⟩
  have H1 := Hd.mk (disk_Append h1 (ok400 (by simp)) s (HE.out.1 s HB.out.1) (by have := HB.out.1; simp; omega))
  clear h1 H0
  go_wp2_with fail
  refine H1.out.mono ?_; rintro e w2 ⟨rfl, h2⟩
  rw [List.nil_append] at h2
  have H2 := Hd.mk (disk_Sync h2)
  clear h2 H1
  go_wp2_with fail
  refine H2.out.mono ?_; rintro e w3 ⟨rfl, h3⟩
  have H3 := Hd.mk (disk_Append h3 (ok400 (by have := HB.out.1; have := HZ.out.1; omega)) t (by have := HB.out; have := HZ.out; have := HE.out.2; omega) (by have := HB.out; have := HZ.out; omega))
  clear h3 H2
  go_wp2_with fail
  refine H3.out.mono ?_; rintro e w4 ⟨rfl, h4⟩
  obtain ⟨m, hm⟩ : ∃ m : Nat, (m : Int) = (s.data.toList.length : Int) + min (max keep 0) (((s.data.toList ++ t.data.toList).length : Int) - s.data.toList.length) := ⟨((s.data.toList.length : Int) + min (max keep 0) (((s.data.toList ++ t.data.toList).length : Int) - s.data.toList.length)).toNat, by rw [List.length_append]; omega⟩
  have hm1 : s.data.toList.length ≤ m ∧ m ≤ (s.data.toList ++ t.data.toList).length := by rw [List.length_append] at *; omega
  have H4 := Hd.mk (disk_Crash h4 (by rw [List.length_append]; omega) (by have := HB.out; have := HZ.out; rw [List.length_append]; omega) keep m hm)
  clear h4 H3
  have hL : Hd (((s.data.toList ++ t.data.toList).take m).length = m) := ⟨by rw [List.length_take]; omega⟩
  have hb1 : Hd ((⟨((s.data.toList ++ t.data.toList).take m).toArray⟩ : ByteArray).extract 0 s.size = s) := ⟨by
    rw [extract_take, List.take_take, Nat.min_eq_left (by have := HZ.out.1; omega), ← HZ.out.1, List.take_left]⟩
  have hb2 : Hd ((s ++ t).extract 0 (⟨((s.data.toList ++ t.data.toList).take m).toArray⟩ : ByteArray).size = ⟨((s.data.toList ++ t.data.toList).take m).toArray⟩) := ⟨by
    have e : s ++ t = ⟨(s.data.toList ++ t.data.toList).toArray⟩ := by apply ByteArray.ext; simp
    rw [e, extract_take, str_size, hL.out]⟩
  have HM := Hd.mk (⟨hm1.1, (by have := hm1.2; have := HB.out; have := HZ.out; rw [List.length_append] at *; omega : m ≤ 200), (by have := hm1.2; have := HZ.out; rw [List.length_append] at *; omega : m ≤ s.size + t.size)⟩ : _ ∧ _ ∧ _)
  clear hm1 hm
  generalize (s.data.toList ++ t.data.toList).take m = L at *
  go_wp2_with fail
  refine H4.out.mono ?_; rintro e w5 ⟨rfl, h5⟩
  have H5 := Hd.mk (disk_Log h5)
  clear h5 H4
  go_wp2_with fail
  refine H5.out.mono ?_; rintro e w6 ⟨rfl, h6⟩
  have H6 := Hd.mk (disk_Crash h6 (by rw [hL.out]; exact Nat.le_refl _) (by rw [hL.out]; have := HM.out; omega) keep m (by rw [hL.out]; omega))
  rw [List.take_of_length_le (by rw [hL.out]; exact Nat.le_refl _)] at H6
  clear h6 H5
  go_wp2_with fail
  refine H6.out.mono ?_; rintro e w7 ⟨rfl, h7⟩
  have H7 := Hd.mk (disk_Append h7 (ok400 (by rw [hL.out]; have := HM.out; omega)) u (by have := HB.out; have := HE.out.2; have := hL.out; have := HM.out; omega) (by have := HB.out; have := hL.out; have := HM.out; omega))
  clear h7 H6
  go_wp2_with fail
  refine H7.out.mono ?_; rintro e w8 ⟨rfl, h8⟩
  have hN : Hd ((L ++ u.data.toList).length ≤ 400) := ⟨by rw [List.length_append]; have := HB.out; have := HZ.out; have := hL.out; have := HM.out; omega⟩
  have hcat := Hd.mk (str_cat L u)
  have hLs : Hd ((⟨L.toArray⟩ : ByteArray).size = m) := ⟨by rw [str_size]; exact hL.out⟩
  generalize L ++ u.data.toList = N at *
  have H8 := Hd.mk (disk_Log h8)
  clear h8 H7
  go_wp2_with fail
  refine H8.out.mono ?_; rintro e w9 ⟨rfl, h9⟩
  have H9 := Hd.mk (disk_Sync h9)
  clear h9 H8
  go_wp2_with fail
  refine H9.out.mono ?_; rintro e wa ⟨rfl, ha⟩
  have HA := Hd.mk (disk_Crash ha (Nat.le_refl _) (by have := hN.out; omega) 0 N.length (by simp))
  rw [List.take_length] at HA
  clear ha H9
  go_wp2_with fail
  refine HA.out.mono ?_; rintro e wb ⟨rfl, hb⟩
  have HBB := Hd.mk (disk_Log hb)
  clear hb HA
  have bg1 := Hd.mk (disk_begins ⟨L.toArray⟩ s (by rw [hLs.out]; have := HM.out; have := HZ.out; omega) (by rw [hLs.out]; have := HM.out; omega) hb1.out)
  have bg2 := Hd.mk (disk_begins (s ++ t) ⟨L.toArray⟩ (by rw [hLs.out, ByteArray.size_append]; have := HM.out; omega) (by rw [ByteArray.size_append]; have := HB.out; omega) hb2.out)
  have a1 : (⟨L.toArray⟩ : ByteArray).size + u.size ≤ 9223372036854775807 := by rw [hLs.out]; have := HM.out; omega
  have a2 : s.size + t.size ≤ 9223372036854775807 := by omega
  have a3 := hcat.out
  go_wp2_with fail
  refine HBB.out.mono ?_; rintro e wc ⟨rfl, hc⟩
  obtain ⟨v, k1, k2, k3, k4, k5⟩ := hc
  clear k1 k2 k3 k4
  go_wp2_with fail
  refine (bg1.out _).mono ?_; rintro e wd ⟨rfl, h1⟩
  have k6 := below_step k5 h1
  go_wp2_with fail
  refine (bg2.out _).mono ?_; rintro e we ⟨rfl, h2⟩
  go_wp2_with fail
  go_ret
  exact ⟨rfl, below_step k6 h2⟩

set_option maxRecDepth 100000 in
theorem law_DiskTwice (s : ByteArray) (_ : s.size ≤ 140737488351232) (t : ByteArray) (_ : t.size ≤ 140737488351232) (u : ByteArray) (_ : u.size ≤ 140737488351232) (keep : Int) (_ : (Lit.int .i64 keep).wf = true) (w : World) :
    Calls Try.prog 3 #[.string s, .string t, .string u, .int .i64 keep] w fun e w' => e = .returned (.bool true) ∧ Below w.heap.size w w' := by
  have HS := Hd.mk disk_shown
  by_cases hs : s.size ≤ 100
  · by_cases ht : t.size ≤ 100
    · by_cases hu : u.size ≤ 100
      · exact walk s t u keep hs ht hu w
      · have hu' : 100 < u.size := by omega
        clear hu
        go_enter Try.func3, Try.ntmps3
        go_wp2_with fail
        refine (HS.out _).mono ?_; rintro e w1 ⟨rfl, h1⟩
        go_wp2_with fail
        go_ret
        exact ⟨rfl, h1⟩
    · have ht' : 100 < t.size := by omega
      clear ht
      go_enter Try.func3, Try.ntmps3
      go_wp2_with fail
      refine (HS.out _).mono ?_; rintro e w1 ⟨rfl, h1⟩
      go_wp2_with fail
      go_ret
      exact ⟨rfl, h1⟩
  · have hs' : 100 < s.size := by omega
    clear hs
    go_enter Try.func3, Try.ntmps3
    go_wp2_with fail
    refine (HS.out _).mono ?_; rintro e w1 ⟨rfl, h1⟩
    go_wp2_with fail
    go_ret
    exact ⟨rfl, h1⟩
end Go.Proofs.Ytkjlakjihjfjdaa.diskTwice
