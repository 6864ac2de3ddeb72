/- strings.IndexAny and ContainsAny of a short text, in a slash and a zero. -/
import Derived.Test.YtcekecpbjmfbhaaRuneOdd
namespace Go.Proofs.Ytcekecpbjmfbhaa
open Go.RowKit Go.Proofs.YtcekecpbjmfbhaaW.PrintWords Go.Proofs.YtcekecpbjmfbhaaW.PrintLast Go.Proofs.YtcekecpbjmfbhaaW.PrintMore
set_option linter.unusedVariables false
set_option linter.unusedSimpArgs false

/-- No slash and no zero among so many bytes. -/
def cleanB (l : List UInt8) : Bool := l.all fun b => b != 47 && b != 0
set_option maxHeartbeats 1000000 in
theorem dec_high {s : ByteArray} {i : Nat} (h : i < s.size) (hb : 128 ≤ (s[i]).toNat) : 128 ≤ (Utf8.decode s i).1 ∧ (Utf8.decode s i).1 ≤ 1114111 ∧ 1 ≤ (Utf8.decode s i).2 ∧ i + (Utf8.decode s i).2 ≤ s.size ∧ ∀ j (hj : j < s.size), i ≤ j → j < i + (Utf8.decode s i).2 → 128 ≤ (s[j]).toNat := by
  have g : ∀ j (hj : j < s.size), s.get! j = s[j] := fun j hj => by simp [ByteArray.get!, getElem!_pos, hj]; rfl
  have h0 : (s.get! i).toNat = (s[i]).toNat := by rw [g i h]
  rw [Lib.decode_at]
  have b1 : (s.get! (i + 1)).toNat < 256 := (s.get! (i + 1)).toNat_lt
  have b2 : (s.get! (i + 2)).toNat < 256 := (s.get! (i + 2)).toNat_lt
  have b3 : (s.get! (i + 3)).toNat < 256 := (s.get! (i + 3)).toNat_lt
  have b0 : (s.get! i).toNat < 256 := (s.get! i).toNat_lt
  rw [← h0] at hb
  have one : ∀ j (hj : j < s.size), i ≤ j → j < i + 1 → 128 ≤ (s[j]).toNat := fun j hj h1 h2 => by
    obtain rfl : j = i := by omega
    rw [← g j hj]; exact hb
  have nx : ∀ (k : Nat) j (hj : j < s.size), j = i + k → (s.get! (i + k)).toNat / 64 = 2 → 128 ≤ (s[j]).toNat := fun k j hj e hk => by
    subst e
    rw [← g _ hj]; omega
  unfold Lib.decodeN
  rw [if_neg (by omega)]
  split
  · rename_i h2
    split
    · refine ⟨by omega, by dsimp only; omega, by dsimp only; omega, by dsimp only; omega, fun j hj h3 h4 => ?_⟩
      dsimp only at h4
      rcases Nat.lt_or_ge j (i + 1) with h5 | h5
      · exact one j hj h3 h5
      · exact nx 1 j hj (by omega) h2.2.2
    · exact ⟨by decide, by decide, by decide, by dsimp only; omega, one⟩
  · split
    · rename_i h2
      split
      · refine ⟨by omega, by dsimp only; omega, by dsimp only; omega, by dsimp only; omega, fun j hj h3 h4 => ?_⟩
        dsimp only at h4
        rcases Nat.lt_or_ge j (i + 1) with h5 | h5
        · exact one j hj h3 h5
        · rcases Nat.lt_or_ge j (i + 2) with h6 | h6
          · exact nx 1 j hj (by omega) h2.2.1.2
          · exact nx 2 j hj (by omega) h2.2.2.2
      · exact ⟨by decide, by decide, by decide, by dsimp only; omega, one⟩
    · split
      · rename_i h2
        split
        · refine ⟨by omega, by dsimp only; omega, by dsimp only; omega, by dsimp only; omega, fun j hj h3 h4 => ?_⟩
          dsimp only at h4
          rcases Nat.lt_or_ge j (i + 1) with h5 | h5
          · exact one j hj h3 h5
          · rcases Nat.lt_or_ge j (i + 2) with h6 | h6
            · exact nx 1 j hj (by omega) h2.2.1.2
            · rcases Nat.lt_or_ge j (i + 3) with h7 | h7
              · exact nx 2 j hj (by omega) h2.2.2.1.2
              · exact nx 3 j hj (by omega) h2.2.2.2.2
        · exact ⟨by decide, by decide, by decide, by dsimp only; omega, one⟩
      · exact ⟨by decide, by decide, by decide, by dsimp only; omega, one⟩
theorem cleanB_upto {s : ByteArray} {i n : Nat} (h : cleanB (s.data.toList.take i) = true) (hn : n ≤ s.size) (hh : ∀ j (hj : j < s.size), i ≤ j → j < n → 128 ≤ (s[j]).toNat) : cleanB (s.data.toList.take n) = true := by
  unfold cleanB at *
  rw [List.all_eq_true] at *
  intro b hb
  obtain ⟨j, hj, e⟩ := List.getElem_of_mem hb
  rw [List.length_take] at hj
  have hjs : j < s.size := by omega
  have eb : b = s[j] := by rw [← e, List.getElem_take]; rfl
  rcases Nat.lt_or_ge j i with h1 | h1
  · refine h b ?_
    rw [eb]
    have : (s.data.toList.take i)[j]'(by rw [List.length_take]; have : s.data.toList.length = s.size := rfl; omega) = s[j] := by rw [List.getElem_take]; rfl
    rw [← this]
    exact List.getElem_mem _
  · have := hh j hjs h1 (by omega)
    rw [eb]
    simp only [Bool.and_eq_true, bne_iff_ne, ne_eq]
    constructor
    · intro h; rw [h] at this; exact absurd this (by decide)
    · intro h; rw [h] at this; exact absurd this (by decide)
theorem cleanB_one {s : ByteArray} {i : Nat} (h : cleanB (s.data.toList.take i) = true) (hi : i < s.size) : cleanB (s.data.toList.take (i + 1)) = (s[i] != 47 && s[i] != 0) := by
  have hi' : i < s.data.toList.length := hi
  unfold cleanB at *
  rw [List.take_succ_eq_append_getElem hi', List.all_append, h]
  simp only [List.all_cons, List.all_nil, Bool.and_true, Bool.true_and]
  rfl
theorem cleanB_bad {s : ByteArray} {i : Nat} (hi : i < s.size) (h : (s[i] != 47 && s[i] != 0) = false) : cleanB s.data.toList = false := by
  unfold cleanB
  rw [List.all_eq_false]
  refine ⟨s[i], ?_, by rw [h]; decide⟩
  have : s.data.toList[i]'hi = s[i] := rfl
  rw [← this]
  exact List.getElem_mem _
/-- Where a byte stands in a slash and a zero: nowhere, if it is neither. -/
theorem idx2 (x : UInt8) : (0 ≤ Lib.indexByte bad2.data.toList x) ↔ ¬ ((x != 47 && x != 0) = true) := by
  have h := Lib.contains_iff_indexByte bad2.data.toList x
  have e : bad2.data.toList = [47, 0] := rfl
  constructor
  · intro hx
    rw [decide_eq_true hx, e] at h
    simp at h
    simp
    intro h1; rcases h with h | h
    · exact absurd h h1
    · exact h
  · intro hx
    have h2 : bad2.data.toList.contains x = true := by
      rw [e]; simp at hx ⊢
      by_cases h1 : x = 47
      · exact .inl h1
      · exact .inr (hx h1)
    rw [h2] at h
    exact of_decide_eq_true h.symm
/-- Whether a rune stands in a slash and a zero. -/
theorem rune_in (r : Int) (h0 : 0 ≤ r) (h1 : r ≤ 1114111) (w : World) : Calls Try.prog 79 #[.string bad2, .int .i32 r] w fun e w' => ∃ v : Int, e = .returned (.int .i64 v) ∧ (0 ≤ v ↔ (r < 128 ∧ ¬ ((r.toNat.toUInt8 != 47 && r.toNat.toUInt8 != 0) = true))) ∧ Below w.heap.size w w' := by
  by_cases h : r < 128
  · refine (Try.strings_IndexRune_ascii bad2 r w h0 h).mono ?_
    rintro e w' ⟨rfl, rfl⟩
    exact ⟨_, rfl, ⟨fun hh => ⟨h, (idx2 _).1 hh⟩, fun hh => (idx2 _).2 hh.2⟩, Below.refl _ _⟩
  · refine (rune_odd r (by omega) h1 w).mono ?_
    rintro e w' ⟨rfl, hb⟩
    exact ⟨_, rfl, ⟨fun hh => absurd hh (by decide), fun hh => absurd hh.1 h⟩, hb⟩
set_option maxHeartbeats 1000000 in
set_option maxRecDepth 100000 in
theorem any_short (s : ByteArray) (h8 : s.size ≤ 8) (w : World) : Calls Try.prog 73 #[.string s, .string bad2] w fun e w' => ∃ v : Int, e = .returned (.int .i64 v) ∧ (0 ≤ v ↔ cleanB s.data.toList = false) ∧ Below w.heap.size w w' := by
  have hb2 : bad2 = ⟨#[47, 0]⟩ := rfl
  have HR := Hd.mk rune_in
  rw [hb2] at HR ⊢
  have h8z : decide ((8 : Int) < (s.size : Int)) = false := decide_eq_false (by omega)
  have HU := Hd.mk (Try.strings_shouldUseASCIISet (s.size : Int))
  rw [h8z] at HU
  clear hb2 h8z
  go_enter Try.func73, Try.ntmps73
  go_wp2_with fail
  refine (HU.out _).mono ?_; rintro e w1 ⟨rfl, rfl⟩
  clear HU
  go_wp2_with fail
  go_loopg [9, 10] s.size (fun g _ _ wx => ∃ i : Nat, Hd (i + g = s.size) ∧ Hd (wx.heap[w1.heap.size]? = some (.stringIter s i)) ∧ Hd (Below w1.heap.size w1 wx) ∧ Hd (cleanB (s.data.toList.take i) = true))
  case atStart => exact ⟨0, ⟨by omega⟩, ⟨World.iter_heap _ _ _⟩, ⟨(Below.refl _ _).alloc (Nat.le_refl _) _⟩, ⟨rfl⟩⟩
  case round =>
    obtain ⟨i, HG, HI, HB, HC⟩ := hrel
    by_cases hi : i < s.size
    · have hnx := fun ty => Lib.run_next_any_at (P := Try.prog) wr w1.heap.size s i ty HI.out hi
      have hI2 := Lib.iterAt_heap wr w1.heap.size s i (i + (Utf8.decode s i).2) HI.out
      have hB2 := Lib.below_iterAt HB.out (Nat.le_refl _) s (i + (Utf8.decode s i).2)
      have hd : (0 : Int) ≤ ((Utf8.decode s i).1 : Int) ∧ (((Utf8.decode s i).1 : Int) ≤ 1114111) ∧ 1 ≤ (Utf8.decode s i).2 ∧ i + (Utf8.decode s i).2 ≤ s.size ∧ (if ((Utf8.decode s i).1 : Int) < 128 ∧ ¬ ((((Utf8.decode s i).1 : Int).toNat.toUInt8 != 47 && ((Utf8.decode s i).1 : Int).toNat.toUInt8 != 0) = true) then cleanB s.data.toList = false else cleanB (s.data.toList.take (i + (Utf8.decode s i).2)) = true) := by
        by_cases h128 : (s[i]).toNat < 128
        · rw [decode_ascii s i hi h128]
          have e : (((s[i]).toNat : Int)).toNat.toUInt8 = s[i] := by simp
          refine ⟨by simp, by simp; omega, Nat.le_refl _, by simp; omega, ?_⟩
          simp only [e]
          cases hc : (s[i] != 47 && s[i] != 0) with
          | true => rw [if_neg (by simp)]; rw [cleanB_one HC.out hi]; exact hc
          | false => rw [if_pos ⟨by omega, by simp⟩]; exact cleanB_bad hi hc
        · obtain ⟨d1, d2, d3, d4, d5⟩ := dec_high hi (by omega)
          refine ⟨by omega, by omega, d3, d4, ?_⟩
          rw [if_neg (by omega)]
          exact cleanB_upto HC.out d4 d5
      obtain ⟨c, hc⟩ : ∃ c : Nat, c = (Utf8.decode s i).1 := ⟨_, rfl⟩
      obtain ⟨wd, hwd⟩ : ∃ d : Nat, d = (Utf8.decode s i).2 := ⟨_, rfl⟩
      rw [← hc, ← hwd] at hd
      rw [← hwd] at hI2 hB2
      simp only [← hc, ← hwd] at hnx
      clear hc hwd
      obtain ⟨d1, d2, d3, d4, d5⟩ := hd
      have HR2 := Hd.mk (HR.out (c : Int) d1 d2)
      have HI2 := Hd.mk hI2
      have HB2 := Hd.mk hB2
      clear hI2 hB2 d1 d2
      by_cases hcond : (c : Int) < 128 ∧ ¬ ((((c : Int)).toNat.toUInt8 != 47 && ((c : Int)).toNat.toUInt8 != 0) = true)
      · rw [if_pos hcond] at d5
        have HD := Hd.mk d5
        have HCO := Hd.mk hcond
        clear d5 hcond d3 d4 h8
        go_wp2_with fail
        generalize wr.iterAt w1.heap.size s (i + wd) = W2 at *
        refine (HR2.out _).mono ?_; rintro e w3 ⟨v, rfl, hv, hb3⟩
        have hv0 : 0 ≤ v := hv.2 HCO.out
        have HB3 := Hd.mk (below_step HB2.out hb3)
        clear hv hb3 HCO hnx
        go_wp2_with fail
        go_ret
        exact ⟨(i : Int), rfl, ⟨fun _ => HD.out, fun _ => by omega⟩, HB3.out⟩
      · rw [if_neg hcond] at d5
        have HD := Hd.mk d5
        have HCO := Hd.mk hcond
        have H34 := Hd.mk (⟨d3, d4⟩ : _ ∧ _)
        clear d5 hcond d3 d4 h8
        go_wp2_with fail
        generalize wr.iterAt w1.heap.size s (i + wd) = W2 at *
        refine (HR2.out _).mono ?_; rintro e w3 ⟨v, rfl, hv, hb3⟩
        have hv0 : ¬ 0 ≤ v := fun h => HCO.out (hv.1 h)
        have HB3 := Hd.mk (below_step HB2.out hb3)
        have HI3 : Hd (w3.heap[w1.heap.size]? = some (.stringIter s (i + wd))) := ⟨(hb3.block _ (Array.getElem?_eq_some_iff.1 HI2.out).1).trans HI2.out⟩
        clear hv hb3 HCO hnx
        go_wp2_with fail
        go_roundg (s.size - (i + wd))
        case measure => have := HG.out; have := H34.out; omega
        case rel => exact ⟨i + wd, ⟨by have := HG.out; have := H34.out; omega⟩, HI3, HB3, HD⟩
    · obtain rfl : i = s.size := by have := HG.out; omega
      have hnx := Lib.run_next_end_at (P := Try.prog) wr w1.heap.size s s.size
      have hnx2 := fun ty => hnx ty HI.out (by omega)
      clear hnx hi
      have ht : s.data.toList.take s.size = s.data.toList := List.take_of_length_le (Nat.le_refl _)
      rw [ht] at HC
      clear ht
      go_wp2_with fail
      go_ret
      exact ⟨-1, rfl, ⟨fun h => absurd h (by decide), fun h => by rw [HC.out] at h; cases h⟩, HB.out⟩
/-- strings.ContainsAny, of a short text, in a slash and a zero. -/
theorem contains_any (s : ByteArray) (h8 : s.size ≤ 8) (w : World) : Calls Try.prog 48 #[.string s, .string bad2] w fun e w' => e = .returned (.bool (!cleanB s.data.toList)) ∧ Below w.heap.size w w' := by
  have HA := Hd.mk (any_short s h8)
  have HE : bad2 = ⟨#[47, 0]⟩ := rfl
  rw [HE] at HA ⊢
  clear HE
  go_enter Try.func48, Try.ntmps48
  go_wp2_with fail
  refine (HA.out _).mono ?_; rintro e w1 ⟨v, rfl, hv, hb1⟩
  have HV := Hd.mk hv
  clear hv
  go_wp2_with fail
  go_ret
  refine ⟨?_, hb1⟩
  cases hc : cleanB s.data.toList with
  | true => rw [hc] at HV; have : ¬ 0 ≤ v := fun h => by have := HV.out.1 h; cases this
            simp [this]
  | false => rw [hc] at HV; have : 0 ≤ v := HV.out.2 rfl
             simp [this]
end Go.Proofs.Ytcekecpbjmfbhaa
