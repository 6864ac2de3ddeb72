/- The law FrameCut: the walk. -/
import Derived.Test.YtcekecpbjmfbhaaFrameShown
import Derived.Test.YtcekecpbjmfbhaaTextsOpen
namespace Go.Proofs.Ytcekecpbjmfbhaa.frameCut
open Go.RowKit Go.Proofs.YtcekecpbjmfbhaaW.PrintWords Go.Proofs.YtcekecpbjmfbhaaW.PrintLast Go.Proofs.YtcekecpbjmfbhaaW.PrintMore Pk Cr
set_option linter.unusedVariables false
set_option linter.unusedSimpArgs false

/-- How long so many records are. -/
def lenF (l : List ByteArray) (j : Nat) : Nat := (laidF ((lists l).take j)).length
theorem OwnI.cellN {base : Nat} {w : World} {A : Option Addr} {cap n : Nat} {l : List Int} (h : OwnI base w (.slice A n cap) l) (hn : l.length = n) {j : Nat} {x : Int} (hx : l[j]? = some x) : ∃ a, A = some a ∧ w.cell? (a.add j) = some (.int .i64 x) := by
  subst hn
  exact h.cell hx
set_option maxHeartbeats 1000000 in
set_option maxRecDepth 100000 in
theorem law_FrameCut {va : Value} {l : List ByteArray} {w : World} (ha : AreTexts w va l) (c0 : Int) (hc0 : (Lit.int .u16 c0).wf = true) :
    Calls Try.prog 4 #[va, .int .u16 c0] w fun e w' => e = .returned (.bool true) ∧ Below w.heap.size w w' := by
  have HS := Hd.mk frame_shown
  obtain ⟨c, rfl, hc⟩ := u16_of hc0
  have HF := Hd.mk (fun (w' : World) (h : Below w.heap.size w w') => law_few (ha.keep h))
  have HA := Hd.mk ha
  obtain ⟨A, cap, rfl, -⟩ := ha
  clear hc0
  cases hf : fewB l with
  | false =>
    rw [hf] at HF
    go_enter Try.func4, Try.ntmps4
    go_wp2_with fail
    refine (HS.out _).mono ?_; rintro e w1 ⟨rfl, hb1⟩
    go_wp2_with fail
    refine (HF.out _ hb1).mono ?_; rintro e w2 ⟨rfl, hb2⟩
    go_wp2_with fail
    go_ret
    exact ⟨rfl, below_step hb1 hb2⟩
  | true =>
    rw [hf] at HF
    obtain ⟨f1, f2, f3, f4⟩ := few_laid hf
    have HL : Hd (∀ (w' : World), Below w.heap.size w w' → Calls Try.prog 23 #[.slice A l.length cap] w' fun e w'' => ∃ vE, e = .returned (.tuple #[.string ⟨(laidF (lists l)).toArray⟩, vE]) ∧ OwnI w'.heap.size w'' vE (endsF (lists l) l.length) ∧ Below w'.heap.size w' w'') :=
      ⟨fun w' h => law_laid (HA.out.keep h) (fun x hx => by have := f2 x hx; omega) (by omega) (by omega)⟩
    have hz : (⟨(laidF (lists l)).toArray⟩ : ByteArray).size = (laidF (lists l)).length := size_of _
    have HALL : Hd (∀ m, m ≤ l.length → ∀ k, lenF l m ≤ k → (∀ j, m < j → j ≤ l.length → k < lenF l j) → k ≤ (laidF (lists l)).length →
        ∀ w', Calls Try.prog 19 #[.string ((⟨(laidF (lists l)).toArray⟩ : ByteArray).extract 0 k)] w' fun e w'' => ∃ v, e = .returned (.tuple #[v, .int .i64 ((lenF l m : Nat) : Int)]) ∧ AreTexts w'' v (l.take m) ∧ Below w'.heap.size w' w'') := ⟨fun m hm k h1 h2 h3 w' => by
      have hx : (⟨(laidF (lists l)).toArray⟩ : ByteArray).extract 0 k = ⟨((laidF (lists l)).take k).toArray⟩ := by rw [take_bytes]
      have hcut := allF_cut (ls := lists l) f3 (k := k) (m := m) (by rw [lists_len]; exact hm) h1 (fun j hj hj2 => h2 j hj (by rw [lists_len] at hj2; exact hj2)) h3
      have := frame_All ((⟨(laidF (lists l)).toArray⟩ : ByteArray).extract 0 k) (by rw [hx, size_of, List.length_take]; omega) w'
      rw [hx, mk_list, hcut] at this
      rw [hx]
      refine this.mono ?_
      rintro e w'' ⟨v, rfl, ho, hb⟩
      refine ⟨v, ?_, ?_, hb⟩
      · have e2 : ((⟨((laidF (lists l)).take k).toArray⟩ : ByteArray).size - (((laidF (lists l)).take k).drop (laidF ((lists l).take m)).length).length : Nat) = lenF l m := by
          rw [size_of, List.length_drop, List.length_take]
          unfold lenF at *
          omega
        simp only [e2]
      · have e3 : strs ((lists l).take m) = l.take m := by
          unfold strs lists
          rw [← List.map_take, List.map_map]
          have : ((fun b : List UInt8 => (⟨b.toArray⟩ : ByteArray)) ∘ fun x : ByteArray => x.data.toList) = id := by funext x; rfl
          rw [this, List.map_id]
        have := ho.texts
        simp only at this
        rw [e3] at this
        exact this⟩
    have HEND : Hd (∀ i, i < l.length → (endsF (lists l) l.length)[i]? = some ((lenF l (i + 1) : Nat) : Int)) := ⟨fun i hi => endsF_at (lists l) hi⟩
    have HBND : Hd (∀ i, lenF l i ≤ 4280) := ⟨fun i => Nat.le_trans (laid_mono (lists l) i) f4⟩
    have HEL := Hd.mk (endsF_len (lists l) l.length)
    have HN := Hd.mk f1
    have HK := Hd.mk (⟨hz, f4⟩ : _ ∧ _)
    obtain ⟨k, hk⟩ : ∃ k, k = c % ((laidF (lists l)).length + 1) := ⟨_, rfl⟩
    have hkl : k ≤ (laidF (lists l)).length := by rw [hk]; have := Nat.mod_lt c (show 0 < (laidF (lists l)).length + 1 by omega); omega
    have hk1 : wrap64 (((⟨(laidF (lists l)).toArray⟩ : ByteArray).size : Int) + 1) = (((laidF (lists l)).length + 1 : Nat) : Int) := by rw [hz]; unfold wrap64; omega
    have hk2 : ((c : Int) % (((laidF (lists l)).length : Nat) + 1 : Int)) = ((k : Nat) : Int) := by rw [hk, Int.natCast_emod]; rfl
    have hk3 : Int.tmod (c : Int) (((laidF (lists l)).length : Nat) + 1 : Int) = ((k : Nat) : Int) := by rw [Int.tmod_eq_emod_of_nonneg (by omega)]; exact hk2
    have hk4 : k ≤ (⟨(laidF (lists l)).toArray⟩ : ByteArray).size := by omega
    have hk5 : IntKind.i64.wrap ((c : Nat) : Int) = (c : Int) := by rw [i64_wrap]; omega
    have HKL := Hd.mk hkl
    clear hf f1 f2 f3 f4 hk hkl hz
    generalize hT : (laidF (lists l)).length = T at *
    clear hT
    generalize (⟨(laidF (lists l)).toArray⟩ : ByteArray) = P at *
    go_enter Try.func4, Try.ntmps4
    go_wp2_with fail
    refine (HS.out _).mono ?_; rintro e w1 ⟨rfl, hb1⟩
    clear HS
    go_wp2_with fail
    refine (HF.out _ hb1).mono ?_; rintro e w2 ⟨rfl, hb2⟩
    have hb2 := below_step hb1 hb2
    clear HF hb1
    go_wp2_with fail
    refine (HL.out _ hb2).mono ?_; rintro e w3 ⟨vE, rfl, hoE, hb3⟩
    have hb3 := below_step hb2 hb3
    clear HL hb2
    obtain ⟨A9, c9, rfl⟩ := hoE.slice
    rw [HEL.out] at hoE ⊢
    have HO := Hd.mk hoE
    have HB := Hd.mk hb3
    clear hoE hb3
    go_wp2_with fail
    go_loopg [9, 10, 11] l.length (fun kq v9 v10 v11 wr => ∃ (i m : Nat), i ≤ l.length ∧ m ≤ i ∧ v9 = .int .i64 (m : Int) ∧ v10 = .int .i64 ((lenF l m : Nat) : Int) ∧ v11 = .int .i64 (i : Int) ∧ Hd (kq + i = l.length) ∧ Hd (Below w3.heap.size w3 wr) ∧ Hd (lenF l m ≤ k) ∧ Hd (∀ j, m < j → j ≤ i → k < lenF l j))
    case atStart => exact ⟨0, 0, Nat.zero_le _, Nat.le_refl _, rfl, rfl, rfl, ⟨rfl⟩, ⟨Below.refl _ _⟩, ⟨Nat.zero_le _⟩, ⟨fun j h1 h2 => by omega⟩⟩
    case round =>
      obtain ⟨i, m, hi, hmi, rfl, rfl, rfl, HKQ, HW, HM, HJ⟩ := hrel
      clear hk1 hk2 hk3 hk5
      by_cases hin : i < l.length
      · have hcell : ∃ a9, A9 = some a9 ∧ w3.cell? (a9.add i) = some (.int .i64 ((lenF l (i + 1) : Nat) : Int)) := by
          exact OwnI.cellN HO.out HEL.out (HEND.out i hin)
        obtain ⟨a9, rfl, ce0⟩ := hcell
        have ce : wr.cell? (a9.add i) = some (.int .i64 ((lenF l (i + 1) : Nat) : Int)) := (HW.out.cell (World.block_lt_of_cell? w3 _ ce0)).trans ce0
        have f1 : (i : Int) < (l.length : Int) := by omega
        have HIN := Hd.mk hin
        have hw1 : wrap64 ((i : Int) + 1) = ((i + 1 : Nat) : Int) := by have := HN.out; unfold wrap64; omega
        clear ce0 hin
        by_cases hle : lenF l (i + 1) ≤ k
        · have hle2 : ((lenF l (i + 1) : Nat) : Int) ≤ (k : Int) := Int.ofNat_le.2 hle
          have HLE := Hd.mk hle
          clear hle
          obtain ⟨y, hy⟩ : ∃ y, y = lenF l (i + 1) := ⟨_, rfl⟩
          rw [← hy] at ce hle2
          have HY := Hd.mk hy.symm
          clear hy
          go_wp2_with fail
          go_roundg (l.length - i - 1)
          case measure => have := HKQ.out; have := HIN.out; omega
          case rel => exact ⟨i + 1, i + 1, by have := HIN.out; omega, Nat.le_refl _, by first | rfl | congr 1, by rw [HY.out], by first | rfl | congr 1, ⟨by have := HKQ.out; have := HIN.out; omega⟩, HW, ⟨HLE.out⟩, ⟨fun j h1 h2 => by omega⟩⟩
        · have hle2 : ¬ ((lenF l (i + 1) : Nat) : Int) ≤ (k : Int) := fun h => hle (Int.ofNat_le.1 h)
          have HJ2 : Hd (∀ j, m < j → j ≤ i + 1 → k < lenF l j) := ⟨fun j h1 h2 => by
            rcases Nat.lt_or_ge i j with h | h
            · obtain rfl : j = i + 1 := Nat.le_antisymm h2 h
              exact Nat.lt_of_not_le hle
            · exact HJ.out j h1 h⟩
          clear hle
          obtain ⟨y, hy⟩ : ∃ y, y = lenF l (i + 1) := ⟨_, rfl⟩
          rw [← hy] at ce hle2
          clear hy
          go_wp2_with fail
          go_roundg (l.length - i - 1)
          case measure => have := HKQ.out; have := HIN.out; omega
          case rel => exact ⟨i + 1, m, by have := HIN.out; omega, by omega, rfl, rfl, by first | rfl | congr 1, ⟨by have := HKQ.out; have := HIN.out; omega⟩, HW, HM, HJ2⟩
      · obtain rfl : i = l.length := by omega
        have f1 : ¬ (l.length : Int) < (l.length : Int) := by omega
        have HAL := Hd.mk (HALL.out m hmi k HM.out HJ.out HKL.out)
        have HMI := Hd.mk hmi
        have hmi2 : (m : Int) ≤ (l.length : Int) := by omega
        have hTX := HA.out
        obtain ⟨A', cap', e', hcap1, hcap2, h3⟩ := hTX
        simp only [Value.slice.injEq] at e'
        obtain ⟨rfl, -, rfl⟩ := e'
        have hmc : m ≤ cap := by omega
        have hmc2 : (m : Int) ≤ (cap : Int) := by omega
        clear hcap2 HALL
        cases A with
        | none =>
          have hl : l = [] := by
            cases l with
            | nil => rfl
            | cons x t =>
              obtain ⟨a, ha, -⟩ := h3 0 x rfl
              cases ha
          subst hl
          clear h3
          obtain rfl : m = 0 := by simpa using hmi
          go_wp2_with fail
          refine (HAL.out _).mono ?_; rintro e w4 ⟨v, rfl, ht, hb4⟩
          have HB4 := Hd.mk (below_step (below_step HB.out HW.out) hb4)
          have HX := Hd.mk (ref_Texts ht ((HA.out.keep HB4.out).take (Nat.le_refl _)))
          simp only [List.take_nil, List.length_nil, decide_true] at HX
          clear hb4 ht HAL
          go_wp2_with fail
          refine (HX.out).mono ?_; rintro e w5 ⟨rfl, hb5⟩
          have hb5 := below_step HB4.out hb5
          clear HX
          go_wp2_with fail
          go_ret
          exact ⟨rfl, hb5⟩
        | some a =>
          clear h3
          go_wp2_with fail
          refine (HAL.out _).mono ?_; rintro e w4 ⟨v, rfl, ht, hb4⟩
          have HB4 := Hd.mk (below_step (below_step HB.out HW.out) hb4)
          have HX := Hd.mk (ref_Texts ht ((HA.out.keep HB4.out).take HMI.out))
          rw [decide_eq_true rfl] at HX
          clear hb4 ht HAL
          go_wp2_with fail
          refine (HX.out).mono ?_; rintro e w5 ⟨rfl, hb5⟩
          have hb5 := below_step HB4.out hb5
          clear HX
          go_wp2_with fail
          go_ret
          exact ⟨rfl, hb5⟩
end Go.Proofs.Ytcekecpbjmfbhaa.frameCut
