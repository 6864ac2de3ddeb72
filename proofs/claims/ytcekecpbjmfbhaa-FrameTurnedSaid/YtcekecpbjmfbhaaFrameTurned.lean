/- The law FrameTurned: the walk. -/
import Derived.Test.YtcekecpbjmfbhaaFrameShown
import Derived.Test.YtcekecpbjmfbhaaTextsOpen
import Derived.Test.YtcekecpbjmfbhaaBytIn
import Derived.Test.YtcekecpbjmfbhaaFrameTurnP
namespace Go.Proofs.Ytcekecpbjmfbhaa.frameTurned
open Go.RowKit Go.Proofs.YtcekecpbjmfbhaaW.PrintWords Go.Proofs.YtcekecpbjmfbhaaW.PrintLast Go.Proofs.YtcekecpbjmfbhaaW.PrintMore Pk Cr
set_option linter.unusedVariables false
set_option linter.unusedSimpArgs false

/-- How long so many records are. -/
def lenF (l : List ByteArray) (j : Nat) : Nat := (laidF ((lists l).take j)).length
theorem OwnI.cellN {base : Nat} {w : World} {A : Option Addr} {cap n : Nat} {l : List Int} (h : OwnI base w (.slice A n cap) l) (hn : l.length = n) {j : Nat} {x : Int} (hx : l[j]? = some x) : ∃ a, A = some a ∧ w.cell? (a.add j) = some (.int .i64 x) := by
  subst hn
  exact h.cell hx
theorem count_laid {l : List ByteArray} : l.length ≤ (laidF (lists l)).length := by
  have := laid_count (lists l)
  rw [lists_len] at this
  exact this
/-- What is found in what was turned. -/
theorem all_turned {l : List ByteArray} (h : ∀ x ∈ l, x.size ≤ 200) (h2 : (laidF (lists l)).length ≤ 4280) {k m : Nat} {x z : UInt8} {t : ByteArray} (ht : l[m]? = some t) (h1 : lenF l m + (if t.size < 128 then 1 else 2) ≤ k) (h3 : k < lenF l (m + 1)) (hx : (laidF (lists l))[k]? = some x) (hz : x ≠ z) (w' : World) :
    Calls Try.prog 19 #[.string ⟨((laidF (lists l)).set k z).toArray⟩] w' fun e w'' => ∃ v, e = .returned (.tuple #[v, .int .i64 ((lenF l m : Nat) : Int)]) ∧ AreTexts w'' v (l.take m) ∧ Below w'.heap.size w' w'' := by
  have hb : (lists l)[m]? = some t.data.toList := by unfold lists; rw [List.getElem?_map, ht]; rfl
  have hl : ∀ b ∈ lists l, b.length ≤ 200 := fun b hb => by
    obtain ⟨x, hx, rfl⟩ := List.mem_map.1 hb
    exact h x hx
  have hc := allF_turned hl hb h1 h3 hx hz
  have hsz : (⟨((laidF (lists l)).set k z).toArray⟩ : ByteArray).size = (laidF (lists l)).length := by rw [size_of, List.length_set]
  have := frame_All ⟨((laidF (lists l)).set k z).toArray⟩ (by rw [hsz]; omega) w'
  rw [mk_list, hc] at this
  refine this.mono ?_
  rintro e w'' ⟨v, rfl, ho, hb⟩
  refine ⟨v, ?_, ?_, hb⟩
  · have hle := laid_mono (lists l) m
    have e2 : ((⟨((laidF (lists l)).set k z).toArray⟩ : ByteArray).size - (((laidF (lists l)).set k z).drop (laidF ((lists l).take m)).length).length : Nat) = lenF l m := by
      rw [hsz, List.length_drop, List.length_set]
      unfold lenF
      omega
    simp only [e2]
  · have e3 : strs ((lists l).take m) = l.take m := by
      unfold strs lists
      rw [← List.map_take, List.map_map]
      have : ((fun b : List UInt8 => (⟨b.toArray⟩ : ByteArray)) ∘ fun x : ByteArray => x.data.toList) = id := by funext x; rfl
      rw [this, List.map_id]
    have := ho.texts
    simp only at this
    rw [e3] at this
    exact this
theorem xored {x : UInt8} {b : Nat} (hb : b < 256) (hb0 : b ≠ 0) : ∃ z : UInt8, bits .xor .u8 ((x.toNat : Nat) : Int) (b : Int) = ((z.toNat : Nat) : Int) ∧ x ≠ z := by
  have e0 : (UInt8.ofNat b).toNat = b := by simp; omega
  refine ⟨x ^^^ UInt8.ofNat b, ?_, ?_⟩
  · rw [xor8 _ _ x.toNat_lt hb, UInt8.toNat_xor, e0]
  · intro h
    have h2 := congrArg (fun q : UInt8 => x.toNat ^^^ q.toNat) h
    simp only [UInt8.toNat_xor, e0] at h2
    rw [← Nat.xor_assoc, Nat.xor_self, Nat.zero_xor] at h2
    exact hb0 h2.symm

set_option maxHeartbeats 1000000 in
set_option maxRecDepth 100000 in
theorem turned_idle {va : Value} {l : List ByteArray} {w : World} (ha : AreTexts w va l) (c b : Nat) (hi : fewB l = false ∨ l.length = 0 ∨ b = 0) : Calls Try.prog 5 #[va, .int .u16 (c : Int), .int .u8 (b : Int)] w fun e w' => e = .returned (.bool true) ∧ Below w.heap.size w w' := by
  have HS := Hd.mk frame_shown
  have HF := Hd.mk (fun (w' : World) (h : Below w.heap.size w w') => law_few (ha.keep h))
  obtain ⟨A, cap, rfl, -⟩ := ha
  cases hf : fewB l with
  | false =>
    rw [hf] at HF
    clear hi
    go_enter Try.func5, Try.ntmps5
    go_wp2_with fail
    refine (HS.out _).mono ?_; rintro e w1 ⟨rfl, hb1⟩
    go_wp2_with fail
    refine (HF.out _ hb1).mono ?_; rintro e w2 ⟨rfl, hb2⟩
    go_wp2_with fail
    go_ret
    exact ⟨rfl, below_step hb1 hb2⟩
  | true =>
    rw [hf] at HF hi
    by_cases h0 : l.length = 0
    · have d1 : ((l.length : Int) == 0) = true := by rw [beq_iff_eq]; omega
      clear hi hf h0
      go_enter Try.func5, Try.ntmps5
      go_wp2_with fail
      refine (HS.out _).mono ?_; rintro e w1 ⟨rfl, hb1⟩
      go_wp2_with fail
      refine (HF.out _ hb1).mono ?_; rintro e w2 ⟨rfl, hb2⟩
      go_wp2_with fail
      go_ret
      exact ⟨rfl, below_step hb1 hb2⟩
    · have d1 : ((l.length : Int) == 0) = false := by rw [beq_eq_false_iff_ne]; omega
      have d2 : ((b : Int) == 0) = true := by
        rcases hi with h | h | h
        · cases h
        · exact absurd h h0
        · rw [h]; rfl
      clear hi hf h0
      go_enter Try.func5, Try.ntmps5
      go_wp2_with fail
      refine (HS.out _).mono ?_; rintro e w1 ⟨rfl, hb1⟩
      go_wp2_with fail
      refine (HF.out _ hb1).mono ?_; rintro e w2 ⟨rfl, hb2⟩
      go_wp2_with fail
      go_ret
      exact ⟨rfl, below_step hb1 hb2⟩
set_option maxHeartbeats 2000000 in
set_option maxRecDepth 100000 in
theorem turned_main {va : Value} {l : List ByteArray} {w : World} (ha : AreTexts w va l) (c b : Nat) (hc : c < 65536) (hb : b < 256) (hf : fewB l = true) (h0 : 0 < l.length) (hb0 : b ≠ 0) : Calls Try.prog 5 #[va, .int .u16 (c : Int), .int .u8 (b : Int)] w fun e w' => e = .returned (.bool true) ∧ Below w.heap.size w w' := by
  have HS := Hd.mk frame_shown
  have HF := Hd.mk (fun (w' : World) (h : Below w.heap.size w w') => law_few (ha.keep h))
  have HA := Hd.mk ha
  obtain ⟨A, cap, rfl, -⟩ := ha
  rw [hf] at HF
  obtain ⟨f1, f2, f3, f4⟩ := few_laid hf
  have HL : Hd (∀ (w' : World), Below w.heap.size w w' → Calls Try.prog 23 #[.slice A l.length cap] w' fun e w'' => ∃ vE, e = .returned (.tuple #[.string ⟨(laidF (lists l)).toArray⟩, vE]) ∧ OwnI w'.heap.size w'' vE (endsF (lists l) l.length) ∧ Below w'.heap.size w' w'') :=
    ⟨fun w' h => law_laid (HA.out.keep h) (fun x hx => by have := f2 x hx; omega) (by omega) (by omega)⟩
  have hz : (⟨(laidF (lists l)).toArray⟩ : ByteArray).size = (laidF (lists l)).length := size_of _
  have hcl := count_laid (l := l)
  obtain ⟨k, hk⟩ : ∃ k, k = c % (laidF (lists l)).length := ⟨_, rfl⟩
  have hkl : k < (laidF (lists l)).length := by rw [hk]; exact Nat.mod_lt c (by omega)
  obtain ⟨x, hx⟩ : ∃ x, (laidF (lists l))[k]? = some x := ⟨_, List.getElem?_eq_getElem hkl⟩
  obtain ⟨z, hxz, hne⟩ := xored (x := x) hb hb0
  have HALL : Hd (∀ m (t : ByteArray), l[m]? = some t → lenF l m + (if t.size < 128 then 1 else 2) ≤ k → k < lenF l (m + 1) → ∀ w', Calls Try.prog 19 #[.string ⟨((laidF (lists l)).set k z).toArray⟩] w' fun e w'' => ∃ v, e = .returned (.tuple #[v, .int .i64 ((lenF l m : Nat) : Int)]) ∧ AreTexts w'' v (l.take m) ∧ Below w'.heap.size w' w'') :=
    ⟨fun m t ht h1 h3 w' => all_turned f2 f4 ht h1 h3 hx hne w'⟩
  have HEND : Hd (∀ i, i < l.length → (endsF (lists l) l.length)[i]? = some ((lenF l (i + 1) : Nat) : Int)) := ⟨fun i hi => endsF_at (lists l) hi⟩
  have HTOT : Hd (lenF l l.length = (laidF (lists l)).length) := ⟨by unfold lenF; rw [List.take_of_length_le (by rw [lists_len]; exact Nat.le_refl _)]⟩
  have HEL := Hd.mk (endsF_len (lists l) l.length)
  have HN := Hd.mk f1
  have H0 := Hd.mk h0
  have HF2 := Hd.mk f2
  have HB42 : Hd (∀ i, lenF l i ≤ 4280) := ⟨fun i => Nat.le_trans (laid_mono (lists l) i) f4⟩
  have hk2 : ((c : Int) % ((⟨(laidF (lists l)).toArray⟩ : ByteArray).size : Int)) = ((k : Nat) : Int) := by rw [hk, hz, Int.natCast_emod]
  have hk3 : Int.tmod (c : Int) ((⟨(laidF (lists l)).toArray⟩ : ByteArray).size : Int) = ((k : Nat) : Int) := by rw [Int.tmod_eq_emod_of_nonneg (by omega)]; exact hk2
  have hk5 : IntKind.i64.wrap ((c : Nat) : Int) = (c : Int) := by rw [i64_wrap]; omega
  have hd0 : ((l.length : Int) == 0) = false := by rw [beq_eq_false_iff_ne]; omega
  have hd1 : ((b : Int) == 0) = false := by rw [beq_eq_false_iff_ne]; omega
  have hd2 : (((⟨(laidF (lists l)).toArray⟩ : ByteArray).size : Int) == 0) = false := by rw [beq_eq_false_iff_ne, hz]; omega
  have hnz : ((⟨(laidF (lists l)).toArray⟩ : ByteArray).size : Int) ≠ 0 := by rw [hz]; omega
  have hkz : k < (⟨(laidF (lists l)).toArray⟩ : ByteArray).size := by omega
  have hkz2 : (k : Int) < ((⟨(laidF (lists l)).toArray⟩ : ByteArray).size : Int) := by omega
  have HX := Hd.mk hx
  have HKL := Hd.mk hkl
  have HZ := Hd.mk hz
  clear hf h0 f1 f2 f3 f4 hz hcl hk hx hne hb hb0 hc hkl
  obtain ⟨P, hP⟩ : ∃ P : ByteArray, P = ⟨(laidF (lists l)).toArray⟩ := ⟨_, rfl⟩
  rw [← hP] at hk2 hk3 hd2 hnz hkz hkz2 HZ HL
  have HP : Hd (P.data.toList = laidF (lists l)) := ⟨by rw [hP]⟩
  clear hP
  go_enter Try.func5, Try.ntmps5
  go_wp2_with fail
  refine (HS.out _).mono ?_; rintro e w1 ⟨rfl, hb1⟩
  clear HS
  go_wp2_with fail
  refine (HF.out _ hb1).mono ?_; rintro e w2 ⟨rfl, hb2⟩
  have hb2 := below_step hb1 hb2
  clear HF hb1
  go_wp2_with fail
  refine (HL.out _ hb2).mono ?_; rintro e w3 ⟨vE, rfl, hoE, hb3⟩
  have hb3' := hb3
  have hb3 := below_step hb2 hb3
  clear HL
  obtain ⟨A9, c9, rfl⟩ := hoE.slice
  rw [HEL.out] at hoE ⊢
  have HO := Hd.mk hoE
  have HB := Hd.mk hb3
  clear hoE hb3 hb2 hb3'
  go_upto_region 8 with (fail)
  have hcv := Lib.run_convert_string_bytes (P := Try.prog) w3 9 43 5 P Try.underlying9 Try.underlying43 Try.underlying5
  have B1 := Hd.mk (byt_new w3 P)
  have HB1 : Hd (Below w.heap.size w (Lib.bytesWorld w3 5 P)) := ⟨bytes_below HB.out HB.out.size _ _⟩
  have HK1 : Hd (Below w3.heap.size w3 (Lib.bytesWorld w3 5 P)) := ⟨bytes_below (Below.refl _ _) (Nat.le_refl _) _ _⟩
  go_upto_region 9 with (fail)
  generalize grownCap w3 P.size 0 5 = cap1 at *
  generalize Lib.bytesWorld w3 5 P = W1 at *
  have HSZ : Hd (w.heap.size ≤ w3.heap.size) := ⟨HB.out.size⟩
  obtain ⟨b1, HB0⟩ : ∃ b1, Hd (b1 = w3.heap.size) := ⟨_, ⟨rfl⟩⟩
  rw [← HB0.out] at B1 ⊢
  clear hcv
  rw [HP.out] at B1
  have hlk := (List.getElem?_eq_some_iff.1 HX.out).1
  have c1 : W1.cell? ⟨b1, k, none⟩ = some (.int .u8 ((x.toNat : Nat) : Int)) := by have := (B1.out.2 k hlk).1; rw [(List.getElem?_eq_some_iff.1 HX.out).2] at this; exact this
  have f1 : W1.frozen? ⟨b1, k, none⟩ = false := (B1.out.2 k hlk).2
  have B2 := Hd.mk (byt_set B1.out k hlk z)
  have HB2 : Hd (Below w.heap.size w (W1.setCell ⟨b1, k, none⟩ (.int .u8 ((z.toNat : Nat) : Int)))) := ⟨HB1.out.setCell (by rw [HB0.out]; exact HSZ.out) _⟩
  have HK2 : Hd (Below w3.heap.size w3 (W1.setCell ⟨b1, k, none⟩ (.int .u8 ((z.toNat : Nat) : Int)))) := ⟨HK1.out.setCell (Nat.le_of_eq HB0.out.symm) _⟩
  clear hlk
  go_upto_region 10 with (fail)
  clear c1 f1 B1 HB1 HK1 hxz
  generalize W1.setCell ⟨b1, k, none⟩ (.int .u8 ((z.toNat : Nat) : Int)) = W2 at *
  have HBND : Hd (∀ i, lenF l i ≤ 4280) := ⟨fun i => HB42.out i⟩
  clear hk2 hk3 hk5 hd0 hd1 hd2 hnz hkz hkz2
  go_wp2_with fail
  go_loopg [12, 13, 14] l.length (fun kq v9 v10 v11 wr => ∃ (i m : Nat), i ≤ l.length ∧ m ≤ i ∧ v9 = .int .i64 (m : Int) ∧ v10 = .int .i64 ((lenF l m : Nat) : Int) ∧ v11 = .int .i64 (i : Int) ∧ Hd (kq + i = l.length) ∧ Hd (Below W2.heap.size W2 wr) ∧ Hd (lenF l m ≤ k) ∧ Hd (∀ j, m < j → j ≤ i → k < lenF l j))
  case atStart => exact ⟨0, 0, Nat.zero_le _, Nat.le_refl _, rfl, rfl, rfl, ⟨rfl⟩, ⟨Below.refl _ _⟩, ⟨Nat.zero_le _⟩, ⟨fun j h1 h2 => by omega⟩⟩
  case round =>
    obtain ⟨i, m, hi, hmi, rfl, rfl, rfl, HKQ, HW, HM, HJ⟩ := hrel
    by_cases hin : i < l.length
    · obtain ⟨a9, rfl, ce0⟩ := OwnI.cellN HO.out HEL.out (HEND.out i hin)
      have ce1 : W2.cell? (a9.add i) = some (.int .i64 ((lenF l (i + 1) : Nat) : Int)) := (HK2.out.cell (World.block_lt_of_cell? w3 _ ce0)).trans ce0
      have ce : wr.cell? (a9.add i) = some (.int .i64 ((lenF l (i + 1) : Nat) : Int)) := (HW.out.cell (World.block_lt_of_cell? W2 _ ce1)).trans ce1
      have f1 : (i : Int) < (l.length : Int) := by omega
      have HIN := Hd.mk hin
      have hw1 : wrap64 ((i : Int) + 1) = ((i + 1 : Nat) : Int) := by have := HN.out; unfold wrap64; omega
      clear ce0 ce1 hin
      by_cases hle : lenF l (i + 1) ≤ k
      · have hle2 : ((lenF l (i + 1) : Nat) : Int) ≤ (k : Int) := Int.ofNat_le.2 hle
        have HLE := Hd.mk hle
        clear hle
        obtain ⟨y, hy⟩ : ∃ y, y = lenF l (i + 1) := ⟨_, rfl⟩
        rw [← hy] at ce hle2
        have HY := Hd.mk hy.symm
        clear hy
        go_wp2_with fail
        go_roundg (l.length - i - 1)
        case measure => have := HKQ.out; have := HIN.out; omega
        case rel => exact ⟨i + 1, i + 1, by have := HIN.out; omega, Nat.le_refl _, by first | rfl | congr 1, by rw [HY.out], by first | rfl | congr 1, ⟨by have := HKQ.out; have := HIN.out; omega⟩, HW, HLE, ⟨fun j h1 h2 => by omega⟩⟩
      · have hle2 : ¬ ((lenF l (i + 1) : Nat) : Int) ≤ (k : Int) := fun h => hle (Int.ofNat_le.1 h)
        have HJ2 : Hd (∀ j, m < j → j ≤ i + 1 → k < lenF l j) := ⟨fun j h1 h2 => by
          rcases Nat.lt_or_ge i j with h | h
          · obtain rfl : j = i + 1 := Nat.le_antisymm h2 h
            exact Nat.lt_of_not_le hle
          · exact HJ.out j h1 h⟩
        clear hle
        obtain ⟨y, hy⟩ : ∃ y, y = lenF l (i + 1) := ⟨_, rfl⟩
        rw [← hy] at ce hle2
        clear hy
        go_wp2_with fail
        go_roundg (l.length - i - 1)
        case measure => have := HKQ.out; have := HIN.out; omega
        case rel => exact ⟨i + 1, m, by have := HIN.out; omega, by omega, rfl, rfl, by first | rfl | congr 1, ⟨by have := HKQ.out; have := HIN.out; omega⟩, HW, HM, HJ2⟩
    · obtain rfl : i = l.length := by omega
      have f1 : ¬ (l.length : Int) < (l.length : Int) := by omega
      have hml : m < l.length := by
        rcases Nat.lt_or_ge m l.length with h | h
        · exact h
        · obtain rfl : m = l.length := Nat.le_antisymm hmi h
          have h1 := HM.out
          rw [HTOT.out] at h1
          exact absurd h1 (Nat.not_le_of_lt HKL.out)
      have hk1 := HJ.out (m + 1) (Nat.lt_succ_self m) hml
      obtain ⟨t, ht⟩ : ∃ t, l[m]? = some t := ⟨_, List.getElem?_eq_getElem hml⟩
      have HAL := Hd.mk (fun h => HALL.out m t ht h hk1)
      have hTX := HA.out
      obtain ⟨A', cap', e', hcap1, hcap2, h3⟩ := hTX
      simp only [Value.slice.injEq] at e'
      obtain ⟨rfl, -, rfl⟩ := e'
      obtain ⟨a, rfl, ca0⟩ := h3 m t ht
      have hmc : m ≤ cap := by omega
      have hmc2 : (m : Int) ≤ (cap : Int) := by omega
      have HBW : Hd (Below w.heap.size w wr) := ⟨below_step HB2.out HW.out⟩
      have ca : wr.cell? (a.add m) = some (.string t) := (HBW.out.cell (World.block_lt_of_cell? w _ ca0)).trans ca0
      have hml2 : (m : Int) < (l.length : Int) := by omega
      have hbd : lenF l m ≤ 4280 := HBND.out m
      have HMI := Hd.mk hmi
      have hcv2 := byt_string (cap := cap1) (byt_below B2.out HW.out)
      rw [List.length_set, ← HP.out, show P.data.toList.length = P.size from rfl, HP.out] at hcv2
      clear h3 hcap1 hcap2 ca0 ht hk1 HALL hi
      obtain ⟨u, HU⟩ : ∃ u, Hd (u = lenF l m) := ⟨_, ⟨rfl⟩⟩
      rw [← HU.out] at HAL hbd ⊢
      have hub : (u : Int) ≤ 4280 := by omega
      obtain ⟨Z, HZ2⟩ : ∃ Z : ByteArray, Hd (Z = ⟨((laidF (lists l)).set k z).toArray⟩) := ⟨_, ⟨rfl⟩⟩
      rw [← HZ2.out] at HAL hcv2
      by_cases h128 : t.size < 128
      · have g1 : ¬ (128 : Int) ≤ (t.size : Int) := by omega
        have HAL2 := Hd.mk (fun h => HAL.out (by rw [if_pos h128]; exact h))
        clear HAL h128
        by_cases hkh : k < u + 1
        · have g2 : (k : Int) < (u : Int) + 1 := by omega
          clear HAL2 hcv2 hkh
          go_wp2_with fail
          go_ret
          exact ⟨rfl, HBW.out⟩
        · have g2 : ¬ (k : Int) < (u : Int) + 1 := by omega
          have HAL := Hd.mk (HAL2.out (by omega))
          clear HAL2 hkh
          go_wp2_with fail
          refine (HAL.out _).mono ?_; rintro e w4 ⟨v, rfl, htx, hb4⟩
          have HB4 := Hd.mk (below_step HBW.out hb4)
          have HX := Hd.mk (ref_Texts htx ((HA.out.keep HB4.out).take HMI.out))
          rw [decide_eq_true rfl] at HX
          clear hb4 htx HAL
          go_wp2_with fail
          refine (HX.out).mono ?_; rintro e w5 ⟨rfl, hb5⟩
          have hb5 := below_step HB4.out hb5
          clear HX
          go_wp2_with fail
          go_ret
          exact ⟨rfl, hb5⟩
      · have g1 : (128 : Int) ≤ (t.size : Int) := by omega
        have HAL2 := Hd.mk (fun h => HAL.out (by rw [if_neg h128]; exact h))
        clear HAL h128
        by_cases hkh : k < u + 2
        · have g2 : (k : Int) < (u : Int) + 2 := by omega
          clear HAL2 hcv2 hkh
          go_wp2_with fail
          go_ret
          exact ⟨rfl, HBW.out⟩
        · have g2 : ¬ (k : Int) < (u : Int) + 2 := by omega
          have HAL := Hd.mk (HAL2.out (by omega))
          clear HAL2 hkh
          go_wp2_with fail
          refine (HAL.out _).mono ?_; rintro e w4 ⟨v, rfl, htx, hb4⟩
          have HB4 := Hd.mk (below_step HBW.out hb4)
          have HX := Hd.mk (ref_Texts htx ((HA.out.keep HB4.out).take HMI.out))
          rw [decide_eq_true rfl] at HX
          clear hb4 htx HAL
          go_wp2_with fail
          refine (HX.out).mono ?_; rintro e w5 ⟨rfl, hb5⟩
          have hb5 := below_step HB4.out hb5
          clear HX
          go_wp2_with fail
          go_ret
          exact ⟨rfl, hb5⟩
theorem law_FrameTurned {va : Value} {l : List ByteArray} {w : World} (ha : AreTexts w va l) (c0 : Int) (hc0 : (Lit.int .u16 c0).wf = true) (b0 : Int) (hb0 : (Lit.int .u8 b0).wf = true) :
    Calls Try.prog 5 #[va, .int .u16 c0, .int .u8 b0] w fun e w' => e = .returned (.bool true) ∧ Below w.heap.size w w' := by
  obtain ⟨c, rfl, hc⟩ := u16_of hc0
  obtain ⟨b, rfl, hb⟩ := u8_of hb0
  by_cases h : fewB l = false ∨ l.length = 0 ∨ b = 0
  · exact turned_idle ha c b h
  · exact turned_main ha c b hc hb (by cases hf : fewB l with | true => rfl | false => exact absurd (.inl hf) h) (by omega) (by omega)
end Go.Proofs.Ytcekecpbjmfbhaa.frameTurned
