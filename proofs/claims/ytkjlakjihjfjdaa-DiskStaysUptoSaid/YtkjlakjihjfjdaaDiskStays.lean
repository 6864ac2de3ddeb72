/- The law DiskStays: the walk. -/
import Derived.Test.YtkjlakjihjfjdaaDkShown
import Derived.Test.YtkjlakjihjfjdaaDkStr
import Derived.Test.YtkjlakjihjfjdaaDeedOpen
namespace Go.Proofs.Ytkjlakjihjfjdaa.diskStays
open Go.RowKit Go.Proofs.YtkjlakjihjfjdaaW.PrintWords Go.Proofs.YtkjlakjihjfjdaaW.PrintLast Go.Proofs.YtkjlakjihjfjdaaW.PrintMore
attribute [local go_sem] max2_int min2_int max_two min_two
set_option linter.unusedVariables false
set_option linter.unusedSimpArgs false

/-- What a disk has behind so many deeds. -/
def Fine (B : Int) (R : Int) (i : Nat) (snap x : ByteArray) (k : Nat) : Prop := k ≤ x.size ∧ (snap.size : Int) + x.size ≤ R ∧ (x.size : Int) ≤ i * B

theorem Fine.start {R : Int} (h : 0 ≤ R) : Fine 1048576 R 0 ⟨#[]⟩ ⟨#[]⟩ 0 := ⟨Nat.le_refl _, by show ((0 : Nat) : Int) + ((0 : Nat) : Int) ≤ R; omega, by show ((0 : Nat) : Int) ≤ _; omega⟩
theorem Fine.size {B R : Int} {i : Nat} {snap x : ByteArray} {k : Nat} (h : Fine B R i snap x k) (hB : B = 1048576) (hi : i ≤ 200) : x.size ≤ 209715200 := by
  obtain ⟨h1, h2, h3⟩ := h
  subst hB
  omega
theorem Fine.append {R : Int} {i : Nat} {snap x : ByteArray} {k : Nat} (h : Fine 1048576 R i snap x k) {s : ByteArray} (hs : s.size ≤ 1048576) (hr : (snap.size : Int) + x.size + s.size ≤ R) : Fine 1048576 R (i + 1) snap (x ++ s) k := by
  obtain ⟨h1, h2, h3⟩ := h
  refine ⟨?_, ?_, ?_⟩ <;> rw [ByteArray.size_append] <;> omega
theorem Fine.next {R : Int} {i : Nat} {snap x : ByteArray} {k : Nat} (h : Fine 1048576 R i snap x k) : Fine 1048576 R (i + 1) snap x k := by
  obtain ⟨h1, h2, h3⟩ := h
  exact ⟨h1, h2, by omega⟩
theorem Fine.sync {R : Int} {i : Nat} {snap x : ByteArray} {k : Nat} (h : Fine 1048576 R i snap x k) : Fine 1048576 R (i + 1) snap x x.size := by
  obtain ⟨h1, h2, h3⟩ := h
  exact ⟨Nat.le_refl _, h2, by omega⟩
theorem Fine.switch {R : Int} {i : Nat} {s : ByteArray} (hs : (s.size : Int) ≤ R) : Fine 1048576 R (i + 1) s ⟨#[]⟩ 0 := ⟨Nat.le_refl _, by show (s.size : Int) + ((0 : Nat) : Int) ≤ R; omega, by show ((0 : Nat) : Int) ≤ _; omega⟩
theorem extract_size {x : ByteArray} {m : Nat} (h : m ≤ x.size) : (x.extract 0 m).size = m := by rw [ByteArray.size_extract]; omega
theorem Fine.crash {R : Int} {i : Nat} {snap x : ByteArray} {k : Nat} (h : Fine 1048576 R i snap x k) {m : Nat} (hm : m ≤ x.size) : Fine 1048576 R (i + 1) snap (x.extract 0 m) m := by
  obtain ⟨h1, h2, h3⟩ := h
  refine ⟨?_, ?_, ?_⟩ <;> rw [extract_size hm] <;> omega
theorem crash_at {k n : Nat} (h : k ≤ n) (keep : Int) : ∃ m : Nat, (m : Int) = k + min (max keep 0) (n - k) ∧ k ≤ m ∧ m ≤ n := ⟨(k + min (max keep 0) (n - k)).toNat, by omega, by omega, by omega⟩
theorem extract_extract0 {x : ByteArray} {k m : Nat} (h : k ≤ m) : (x.extract 0 m).extract 0 k = x.extract 0 k := by
  apply ByteArray.ext
  simp [Nat.min_eq_left h]

set_option maxHeartbeats 2000000 in
set_option maxRecDepth 100000 in
theorem law_DiskStays (room : Int) (hr : (Lit.int .i64 room).wf = true) {v : Value} {A : Option Addr} {len cap : Nat} {l : List (Int × Int × ByteArray)} {w : World} (hv : AreDeeds 1048576 w v A len cap l) (keep : Int) (_ : (Lit.int .i64 keep).wf = true) :
    Calls Try.prog 5 #[.int .i64 room, v, .int .i64 keep] w fun e w' => e = .returned (.bool true) ∧ Below w.heap.size w w' := by
  have HS := Hd.mk disk_shown
  obtain ⟨hr1, hr2⟩ := i64_of hr
  obtain ⟨rfl, hlc, hcm, hll, hsz, hc⟩ := hv
  have HV := Hd.mk (⟨hlc, hcm, hll, hsz, hc⟩ : _ ∧ _ ∧ _ ∧ _ ∧ _)
  have hR0 : 0 ≤ max room 0 := by omega
  have hR1 : max room 0 ≤ 9223372036854775807 := by omega
  clear hlc hcm hll hsz hc hr1 hr2 hr
  go_enter Try.func5, Try.ntmps5
  go_wp2_with fail
  refine (HS.out _).mono ?_; rintro e w1 ⟨rfl, h1⟩
  have H1 := Hd.mk (dS_New w room w1 h1)
  clear h1 HS
  go_wp2_with fail
  refine H1.out.mono ?_; rintro e w2 ⟨b, rfl, h2⟩
  generalize max room 0 = R at *
  have HR := Hd.mk (⟨hR0, hR1⟩ : _ ∧ _)
  have H2 := Hd.mk h2
  clear H1 h2 hR0 hR1
  go_wp2_with fail
  go_loopg [9] 200 (fun kq v9 wr => ∃ i : Nat, i ≤ 200 ∧ i ≤ len ∧ v9 = .int .i64 (i : Int) ∧ Hd (kq + i = 200) ∧ ∃ (snap x : ByteArray) (k : Nat), Hd (DiskS (fun j => j < w.heap.size) w b snap x (k : Int) R wr) ∧ Hd (Fine 1048576 R i snap x k))
  case atStart => exact ⟨0, by omega, by omega, rfl, ⟨rfl⟩, ⟨#[]⟩, ⟨#[]⟩, 0, H2, ⟨Fine.start HR.out.1⟩⟩
  case round =>
    clear H2
    obtain ⟨i, hi1, hi2, rfl, HK, snap, x, k, HD, HF⟩ := hrel
    by_cases hlt : i < len ∧ i < 200
    · obtain ⟨g1, g2⟩ := hlt
      have g1' : (i : Int) < (len : Int) := by omega
      have g2' : (i : Int) < 200 := by omega
      obtain ⟨⟨kind, kp, s⟩, hd⟩ : ∃ d, l[i]? = some d := ⟨_, List.getElem?_eq_getElem (by rw [HV.out.2.2.1]; exact g1)⟩
      obtain ⟨a, rfl, c0, c1, c2⟩ := HV.out.2.2.2.2 i _ hd
      have hs := HV.out.2.2.2.1 _ (List.mem_of_getElem? hd)
      have B := HD.out.below
      have d0 : wr.cell? (a.add (i * 3)) = some (.int .i64 kind) := (B.cell (World.block_lt_of_cell? w _ c0)).trans c0
      have d1 : wr.cell? ⟨(a.add (i * 3)).block, (a.add (i * 3)).off + 1, none⟩ = some (.int .i64 kp) := (B.cell (World.block_lt_of_cell? w _ c1)).trans c1
      have d2 : wr.cell? ⟨(a.add (i * 3)).block, (a.add (i * 3)).off + 2, none⟩ = some (.string s) := (B.cell (World.block_lt_of_cell? w _ c2)).trans c2
      clear c0 c1 c2 B
      have HS1 := Hd.mk hs
      have hw1 : wrap64 ((i : Int) + 1) = ((i + 1 : Nat) : Int) := by unfold wrap64; omega
      have hXS := Hd.mk (HF.out.size rfl hi1)
      clear hs hd
      by_cases k0 : kind = 0
      · subst k0
        by_cases hfit : (snap.size : Int) + x.size + s.size ≤ R
        · have HC := Hd.mk (dS_Append HD.out s HR.out.2 hfit (by have := hXS.out; have := HS1.out; simp only at this; omega))
          clear HD
          go_wp2_with fail
          refine HC.out.mono ?_; rintro e w3 ⟨rfl, h3⟩
          go_wp2_with fail
          go_roundg (199 - i)
          case measure => have := HK.out; omega
          case rel => exact ⟨i + 1, by omega, by omega, by first | rfl | congr 1, ⟨by have := HK.out; omega⟩, snap, x ++ s, k, ⟨h3⟩, ⟨HF.out.append HS1.out hfit⟩⟩
        · have HC := Hd.mk (dS_Append_off HD.out s HR.out.2 HF.out.2.1 (by omega) (by have := hXS.out; omega))
          clear HD
          go_wp2_with fail
          refine HC.out.mono ?_; rintro e w3 ⟨rfl, h3⟩
          go_wp2_with fail
          go_roundg (199 - i)
          case measure => have := HK.out; omega
          case rel => exact ⟨i + 1, by omega, by omega, by first | rfl | congr 1, ⟨by have := HK.out; omega⟩, snap, x, k, ⟨h3⟩, ⟨HF.out.next⟩⟩
      · by_cases k1 : kind = 1
        · subst k1
          have HC := Hd.mk (dS_Sync HD.out)
          clear HD
          go_wp2_with fail
          refine HC.out.mono ?_; rintro e w3 ⟨rfl, h3⟩
          go_wp2_with fail
          go_roundg (199 - i)
          case measure => have := HK.out; omega
          case rel => exact ⟨i + 1, by omega, by omega, by first | rfl | congr 1, ⟨by have := HK.out; omega⟩, snap, x, x.size, ⟨h3⟩, ⟨HF.out.sync⟩⟩
        · by_cases k2 : kind = 2
          · subst k2
            by_cases hfit : (s.size : Int) ≤ R
            · have HC := Hd.mk (dS_Switch HD.out s hfit)
              clear HD
              go_wp2_with fail
              refine HC.out.mono ?_; rintro e w3 ⟨rfl, h3⟩
              go_wp2_with fail
              go_roundg (199 - i)
              case measure => have := HK.out; omega
              case rel => exact ⟨i + 1, by omega, by omega, by first | rfl | congr 1, ⟨by have := HK.out; omega⟩, s, ⟨#[]⟩, 0, ⟨h3⟩, ⟨Fine.switch hfit⟩⟩
            · have HC := Hd.mk (disk_Switch_off HD.out s (by omega))
              clear HD
              go_wp2_with fail
              refine HC.out.mono ?_; rintro e w3 ⟨rfl, h3⟩
              go_wp2_with fail
              go_roundg (199 - i)
              case measure => have := HK.out; omega
              case rel => exact ⟨i + 1, by omega, by omega, by first | rfl | congr 1, ⟨by have := HK.out; omega⟩, snap, x, k, ⟨h3⟩, ⟨HF.out.next⟩⟩
          · obtain ⟨m, hm, hm1, hm2⟩ := crash_at HF.out.1 kp
            have HC := Hd.mk (dS_Crash HD.out HF.out.1 (by have := hXS.out; omega) kp m hm)
            clear HD
            go_wp2_with fail
            refine HC.out.mono ?_; rintro e w3 ⟨rfl, h3⟩
            go_wp2_with fail
            go_roundg (199 - i)
            case measure => have := HK.out; omega
            case rel => exact ⟨i + 1, by omega, by omega, by first | rfl | congr 1, ⟨by have := HK.out; omega⟩, snap, x.extract 0 m, m, ⟨h3⟩, ⟨HF.out.crash hm2⟩⟩
    · clear HV
      by_cases g1 : i < len
      · have g1' : (i : Int) < (len : Int) := by omega
        have g2' : ¬ (i : Int) < 200 := by omega
        clear hlt g1
        have hXS := Hd.mk (HF.out.size rfl hi1)
        have HL := Hd.mk (dS_Log HD.out)
        clear HD
        go_wp2_with fail
        refine HL.out.mono ?_; rintro e w3 ⟨rfl, h3⟩
        have HM := Hd.mk (disk_Snap h3)
        clear HL h3
        go_wp2_with fail
        refine HM.out.mono ?_; rintro e w4 ⟨rfl, h4⟩
        have HN := Hd.mk (disk_Synced h4)
        clear HM h4
        go_wp2_with fail
        refine HN.out.mono ?_; rintro e w5 ⟨rfl, h5⟩
        have HO := Hd.mk (dS_Free h5 HR.out.2 HF.out.2.1 (by have := hXS.out; omega))
        have n1 : ¬ ((k : Int) < 0) := by omega
        have n2 : ¬ ((x.size : Int) < (k : Int)) := by have := HF.out.1; omega
        have n3 : ¬ (R - (snap.size : Int) - (x.size : Int) < 0) := by have := HF.out.2.1; omega
        clear HN h5
        go_wp2_with fail
        refine HO.out.mono ?_; rintro e w6 ⟨rfl, h6⟩
        obtain ⟨m, hm, hm1, hm2⟩ := crash_at HF.out.1 keep
        have HP := Hd.mk (dS_Crash h6 HF.out.1 (by have := hXS.out; omega) keep m hm)
        have HMM := Hd.mk (⟨hm, hm1, hm2⟩ : _ ∧ _ ∧ _)
        clear HO h6 hm hm1 hm2
        go_wp2_with fail
        refine HP.out.mono ?_; rintro e w7 ⟨rfl, h7⟩
        have HQ := Hd.mk (dS_Log h7)
        clear HP h7
        go_wp2_with fail
        refine HQ.out.mono ?_; rintro e w8 ⟨rfl, h8⟩
        have x1 : wrap64 ((x.size : Int) - k) = (x.size : Int) - k := by have := HF.out.1; have := hXS.out; unfold wrap64; omega
        clear HQ n1 n2 n3
        go_upto_region 22 with (fail)
        have em : (if (if keep < 0 then 0 else keep) < (x.size : Int) - k then (if keep < 0 then 0 else keep) else (x.size : Int) - k) = (m : Int) - k := by
          rw [HMM.out.1]
          by_cases q1 : keep < 0
          · simp only [if_pos q1]
            split <;> omega
          · simp only [if_neg q1]
            split <;> omega
        simp only [em]
        clear em
        generalize (if keep < 0 then (0 : Int) else keep) = kk
        have hd : Hd ((m : Int) - k = (m : Int) - k) := ⟨rfl⟩
        have hzz : wrap64 ((k : Int) + ((m : Int) - k)) = (m : Int) := by have := HMM.out.2.2; have := hXS.out; unfold wrap64; omega
        generalize (m : Int) - k = z at *
        have ysz : (x.extract 0 m).size = m := extract_size HMM.out.2.2
        have HB1 := Hd.mk (disk_begins x (x.extract 0 m) (by rw [ysz]; exact HMM.out.2.2) (by have := hXS.out; omega) (by rw [ysz]))
        have HB2 := Hd.mk (disk_begins (x.extract 0 m) (x.extract 0 k) (by rw [ysz, extract_size HF.out.1]; exact HMM.out.2.1) (by rw [ysz]; have := hXS.out; have := HMM.out.2.2; omega) (by rw [extract_size HF.out.1]; exact extract_extract0 HMM.out.2.1))
        clear x1
        generalize hy : x.extract 0 m = y at *
        have n2 : (k : Int) ≤ (x.size : Int) := by have := HF.out.1; omega
        go_wp2_with fail
        refine (HB1.out _).mono ?_; rintro e w9 ⟨rfl, h9⟩
        have ha := h8.step h9
        clear h8 h9 HB1
        go_wp2_with fail
        refine (HB2.out _).mono ?_; rintro e wa ⟨rfl, hb⟩
        have HV1 := Hd.mk (disk_Synced (ha.step hb))
        clear HB2 ha hb
        go_wp2_with fail
        refine HV1.out.mono ?_; rintro e wb ⟨rfl, hbb⟩
        have HW1 := Hd.mk (disk_Snap hbb)
        clear HV1 hbb
        go_wp2_with fail
        refine HW1.out.mono ?_; rintro e wc ⟨rfl, hcc⟩
        go_wp2_with fail
        go_ret
        exact ⟨rfl, hcc.below⟩
      · have g1' : ¬ (i : Int) < (len : Int) := by omega
        clear hlt g1
        have hXS := Hd.mk (HF.out.size rfl hi1)
        have HL := Hd.mk (dS_Log HD.out)
        clear HD
        go_wp2_with fail
        refine HL.out.mono ?_; rintro e w3 ⟨rfl, h3⟩
        have HM := Hd.mk (disk_Snap h3)
        clear HL h3
        go_wp2_with fail
        refine HM.out.mono ?_; rintro e w4 ⟨rfl, h4⟩
        have HN := Hd.mk (disk_Synced h4)
        clear HM h4
        go_wp2_with fail
        refine HN.out.mono ?_; rintro e w5 ⟨rfl, h5⟩
        have HO := Hd.mk (dS_Free h5 HR.out.2 HF.out.2.1 (by have := hXS.out; omega))
        have n1 : ¬ ((k : Int) < 0) := by omega
        have n2 : ¬ ((x.size : Int) < (k : Int)) := by have := HF.out.1; omega
        have n3 : ¬ (R - (snap.size : Int) - (x.size : Int) < 0) := by have := HF.out.2.1; omega
        clear HN h5
        go_wp2_with fail
        refine HO.out.mono ?_; rintro e w6 ⟨rfl, h6⟩
        obtain ⟨m, hm, hm1, hm2⟩ := crash_at HF.out.1 keep
        have HP := Hd.mk (dS_Crash h6 HF.out.1 (by have := hXS.out; omega) keep m hm)
        have HMM := Hd.mk (⟨hm, hm1, hm2⟩ : _ ∧ _ ∧ _)
        clear HO h6 hm hm1 hm2
        go_wp2_with fail
        refine HP.out.mono ?_; rintro e w7 ⟨rfl, h7⟩
        have HQ := Hd.mk (dS_Log h7)
        clear HP h7
        go_wp2_with fail
        refine HQ.out.mono ?_; rintro e w8 ⟨rfl, h8⟩
        have x1 : wrap64 ((x.size : Int) - k) = (x.size : Int) - k := by have := HF.out.1; have := hXS.out; unfold wrap64; omega
        clear HQ n1 n2 n3
        go_upto_region 22 with (fail)
        have em : (if (if keep < 0 then 0 else keep) < (x.size : Int) - k then (if keep < 0 then 0 else keep) else (x.size : Int) - k) = (m : Int) - k := by
          rw [HMM.out.1]
          by_cases q1 : keep < 0
          · simp only [if_pos q1]
            split <;> omega
          · simp only [if_neg q1]
            split <;> omega
        simp only [em]
        clear em
        generalize (if keep < 0 then (0 : Int) else keep) = kk
        have hd : Hd ((m : Int) - k = (m : Int) - k) := ⟨rfl⟩
        have hzz : wrap64 ((k : Int) + ((m : Int) - k)) = (m : Int) := by have := HMM.out.2.2; have := hXS.out; unfold wrap64; omega
        generalize (m : Int) - k = z at *
        have ysz : (x.extract 0 m).size = m := extract_size HMM.out.2.2
        have HB1 := Hd.mk (disk_begins x (x.extract 0 m) (by rw [ysz]; exact HMM.out.2.2) (by have := hXS.out; omega) (by rw [ysz]))
        have HB2 := Hd.mk (disk_begins (x.extract 0 m) (x.extract 0 k) (by rw [ysz, extract_size HF.out.1]; exact HMM.out.2.1) (by rw [ysz]; have := hXS.out; have := HMM.out.2.2; omega) (by rw [extract_size HF.out.1]; exact extract_extract0 HMM.out.2.1))
        clear x1
        generalize hy : x.extract 0 m = y at *
        have n2 : (k : Int) ≤ (x.size : Int) := by have := HF.out.1; omega
        go_wp2_with fail
        refine (HB1.out _).mono ?_; rintro e w9 ⟨rfl, h9⟩
        have ha := h8.step h9
        clear h8 h9 HB1
        go_wp2_with fail
        refine (HB2.out _).mono ?_; rintro e wa ⟨rfl, hb⟩
        have HV1 := Hd.mk (disk_Synced (ha.step hb))
        clear HB2 ha hb
        go_wp2_with fail
        refine HV1.out.mono ?_; rintro e wb ⟨rfl, hbb⟩
        have HW1 := Hd.mk (disk_Snap hbb)
        clear HV1 hbb
        go_wp2_with fail
        refine HW1.out.mono ?_; rintro e wc ⟨rfl, hcc⟩
        go_wp2_with fail
        go_ret
        exact ⟨rfl, hcc.below⟩
end Go.Proofs.Ytkjlakjihjfjdaa.diskStays
