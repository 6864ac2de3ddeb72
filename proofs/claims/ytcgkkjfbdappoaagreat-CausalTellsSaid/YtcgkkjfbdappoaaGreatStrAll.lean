/- Texts that belong together, in one. -/
import Derived.Test.YtcgkkjfbdappoaaGreatKeepAll
import Derived.Test.YtcgkkjfbdappoaaGreatShelf
import Derived.Lib.OthersKept
import Derived.Lib.IndexLaws
import Derived.Lib.DecodeN
import Derived.Laws.RangeAny
/- strings.IndexRune, of a rune beyond ASCII, in a slash and a zero: none. -/
namespace Go.Proofs.YtcgkkjfbdappoaaGreat
open Go.RowKit Go.Proofs.YtcgkkjfbdappoaaGreatW.PrintWords Go.Proofs.YtcgkkjfbdappoaaGreatW.PrintLast Go.Proofs.YtcgkkjfbdappoaaGreatW.PrintMore
set_option linter.unusedVariables false
set_option linter.unusedSimpArgs false

theorem quiet_add_same {P : Program} {f : FuncId} {args : Array Value} {w : World} {a n : Nat} {v : Value}
    (h : Calls P f args (w.drewN (a + n)) fun e w' => e = .returned v ∧ w' = w.drewN (a + n)) :
    Calls P f args (w.drewN (a + n)) fun e w'' => e = .returned v ∧ ∃ m, w'' = w.drewN (a + m) :=
  h.mono fun _ _ ⟨he, hm⟩ => ⟨he, n, hm⟩
theorem ret_thru {Q : Exit → Act → World → Prop} {K1 K2 : Act → World → Prop} {i j k : Nat} {a : Act} {w : World} (h : Q .ret a w) : Exit.noGoto (Exit.inBlock i (Exit.then K1 (Exit.inBlock j (Exit.then K2 (Exit.noGoto (Exit.inBlock k Q)))))) .ret a w := h
/-- A slash and a zero. -/
def bad2 : ByteArray := ⟨#[47, 0]⟩
theorem enc_two {r : Int} (h0 : 128 ≤ r) (h1 : r < 2048) : ∃ a b : UInt8, Utf8.encode r = ⟨#[a, b]⟩ ∧ 128 ≤ b.toNat := by
  have hv : Utf8.valid r = true := by unfold Utf8.valid; simp; omega
  refine ⟨UInt8.ofNat (0xC0 + r.toNat / 64), UInt8.ofNat (0x80 + r.toNat % 64), ?_, ?_⟩
  · unfold Utf8.encode
    simp only [hv, if_true]
    rw [if_neg (by omega), if_pos (by omega)]
  · simp; omega
theorem enc_more {r : Int} (h0 : 2048 ≤ r) (hv : Utf8.valid r = true) : 3 ≤ (Utf8.encode r).size ∧ (Utf8.encode r).size ≤ 4 := by
  unfold Utf8.encode
  simp only [hv, if_true]
  rw [if_neg (by omega), if_neg (by omega)]
  split <;> simp [ByteArray.size]
theorem valid_rune {r : Int} (h : 0 ≤ r) (h1 : r ≤ 1114111) : Lib.validRune r = Utf8.valid r := by
  unfold Lib.validRune Utf8.valid
  rw [Bool.eq_iff_iff]; simp; omega
set_option maxHeartbeats 1000000 in
set_option maxRecDepth 100000 in
theorem rune_odd (r : Int) (h0 : 128 ≤ r) (h1 : r ≤ 1114111) (w : World) : Calls Tryz.prog 123 #[.string bad2, .int .i32 r] w fun e w' => e = .returned (.int .i64 (-1)) ∧ Below w.heap.size w w' := by
  have hs : bad2 = ⟨#[47, 0]⟩ := rfl
  rw [hs]
  by_cases hE : r = 65533
  · subst hE
    clear h0 h1 hs
    go_enter Tryz.func123, Tryz.ntmps123
    go_wp2_with fail
    have n0 := fun ty => run_next_ascii (P := Tryz.prog) w ⟨#[47, 0]⟩ 0 ty (by decide) (by decide)
    have n1 := fun ty => run_next_ascii (P := Tryz.prog) w ⟨#[47, 0]⟩ 1 ty (by decide) (by decide)
    have n2 := run_next_end (P := Tryz.prog) w ⟨#[47, 0]⟩ 2
    go_loopg [5, 6] 2 (fun g _ _ wx => (g = 2 ∧ wx = w.iter ⟨#[47, 0]⟩ 0) ∨ (g = 1 ∧ wx = w.iter ⟨#[47, 0]⟩ 1) ∨ (g = 0 ∧ wx = w.iter ⟨#[47, 0]⟩ 2))
    case atStart => exact .inl ⟨rfl, rfl⟩
    case round =>
      rcases hrel with ⟨rfl, rfl⟩ | ⟨rfl, rfl⟩ | ⟨rfl, rfl⟩
      · go_wp2_with fail
        go_roundg 1
        case measure => omega
        case rel => exact .inr (.inl ⟨rfl, rfl⟩)
      · go_wp2_with fail
        go_roundg 0
        case measure => omega
        case rel => exact .inr (.inr ⟨rfl, rfl⟩)
      · have n2 := n2
        go_wp2_with fail
        go_ret
        exact ⟨rfl, (Below.refl _ _).alloc (Nat.le_refl _) _⟩
  · have e1 : (r == 65533) = false := by rw [beq_eq_false_iff_ne]; exact hE
    have e2 : decide (r < 128) = false := decide_eq_false (by omega)
    have g0 : 0 ≤ r := by omega
    have HV := Hd.mk (Tryz.utf8_ValidRune r)
    rw [valid_rune (by omega) h1] at HV
    cases hv : Utf8.valid r with
    | false =>
      rw [hv] at HV
      clear hv hE hs
      go_enter Tryz.func123, Tryz.ntmps123
      go_wp2_with fail
      refine (HV.out _).mono ?_; rintro e w1 ⟨rfl, rfl⟩
      go_wp2_with fail
      go_ret
      exact ⟨rfl, Below.refl _ _⟩
    | true =>
      rw [hv] at HV
      by_cases h2 : r < 2048
      · obtain ⟨a, b, he, hb⟩ := enc_two h0 h2
        have HX := Hd.mk (Tryz.strings_IndexByte ⟨#[]⟩ (b.toNat : Int))
        have hbz : ((0 : Int) == (b.toNat : Int)) = false := by rw [beq_eq_false_iff_ne]; omega
        have hbn : (((⟨#[47, 0]⟩ : ByteArray)[1].toNat : Int) != (((⟨#[a, b]⟩ : ByteArray)[1]'(show 1 < 2 by omega)).toNat : Int)) = true := by show ((0 : Int) != (b.toNat : Int)) = true; rw [bne_iff_ne]; omega
        clear hv hE hs
        go_enter Tryz.func123, Tryz.ntmps123
        go_wp2_with fail
        refine (HV.out _).mono ?_; rintro e w1 ⟨rfl, rfl⟩
        go_wp2_with fail
        go_step3
        go_wp2_with fail
        go_loopg [9, 10] 0 (fun g v9 v10 wx => v9 = .int .i64 1 ∧ v10 = .int .i64 0 ∧ wx = w1)
        case atStart => exact ⟨rfl, rfl, rfl⟩
        case round =>
          obtain ⟨rfl, rfl, rfl⟩ := hrel
          go_wp2_with fail
          go_step3
          go_wp2_with fail
          go_quiet (fail)
          go_wp2_with fail
          go_quiet ((go_at_call 129; exact quiet_add_same (HX.out _)))
          go_wp2_with fail
          refine ret_thru ?_
          go_ret
          exact ⟨rfl, pw_below_drewN (Below.refl _ _) _⟩
      · have he := enc_more (r := r) (by omega) hv
        clear hv hE hs
        go_enter Tryz.func123, Tryz.ntmps123
        go_wp2_with fail
        refine (HV.out _).mono ?_; rintro e w1 ⟨rfl, rfl⟩
        go_wp2_with fail
        go_step3
        go_wp2_with fail
        obtain ⟨m, hm⟩ : ∃ m : Nat, m = (Utf8.encode r).size - 1 := ⟨_, rfl⟩
        have g1 : ((Utf8.encode r).size : Int) - 1 = (m : Int) := by omega
        have g2 : ¬ (m : Int) < 2 := by omega
        rw [g1]
        clear g1 hm he
        go_loopg [9, 10] 0 (fun g v9 v10 wx => v9 = .int .i64 (m : Int) ∧ v10 = .int .i64 0 ∧ wx = w1)
        case atStart => exact ⟨rfl, rfl, rfl⟩
        case round =>
          obtain ⟨rfl, rfl, rfl⟩ := hrel
          go_wp2_with fail
          go_ret
          exact ⟨rfl, Below.refl _ _⟩
end Go.Proofs.YtcgkkjfbdappoaaGreat

/- strings.IndexAny and ContainsAny of a short text, in a slash and a zero. -/
namespace Go.Proofs.YtcgkkjfbdappoaaGreat
open Go.RowKit Go.Proofs.YtcgkkjfbdappoaaGreatW.PrintWords Go.Proofs.YtcgkkjfbdappoaaGreatW.PrintLast Go.Proofs.YtcgkkjfbdappoaaGreatW.PrintMore
set_option linter.unusedVariables false
set_option linter.unusedSimpArgs false

/-- No slash and no zero among so many bytes. -/
def cleanB (l : List UInt8) : Bool := l.all fun b => b != 47 && b != 0
set_option maxHeartbeats 1000000 in
theorem dec_high {s : ByteArray} {i : Nat} (h : i < s.size) (hb : 128 ≤ (s[i]).toNat) : 128 ≤ (Utf8.decode s i).1 ∧ (Utf8.decode s i).1 ≤ 1114111 ∧ 1 ≤ (Utf8.decode s i).2 ∧ i + (Utf8.decode s i).2 ≤ s.size ∧ ∀ j (hj : j < s.size), i ≤ j → j < i + (Utf8.decode s i).2 → 128 ≤ (s[j]).toNat := by
  have g : ∀ j (hj : j < s.size), s.get! j = s[j] := fun j hj => by simp [ByteArray.get!, getElem!_pos, hj]; rfl
  have h0 : (s.get! i).toNat = (s[i]).toNat := by rw [g i h]
  rw [Lib.decode_at]
  have b1 : (s.get! (i + 1)).toNat < 256 := (s.get! (i + 1)).toNat_lt
  have b2 : (s.get! (i + 2)).toNat < 256 := (s.get! (i + 2)).toNat_lt
  have b3 : (s.get! (i + 3)).toNat < 256 := (s.get! (i + 3)).toNat_lt
  have b0 : (s.get! i).toNat < 256 := (s.get! i).toNat_lt
  rw [← h0] at hb
  have one : ∀ j (hj : j < s.size), i ≤ j → j < i + 1 → 128 ≤ (s[j]).toNat := fun j hj h1 h2 => by
    obtain rfl : j = i := by omega
    rw [← g j hj]; exact hb
  have nx : ∀ (k : Nat) j (hj : j < s.size), j = i + k → (s.get! (i + k)).toNat / 64 = 2 → 128 ≤ (s[j]).toNat := fun k j hj e hk => by
    subst e
    rw [← g _ hj]; omega
  unfold Lib.decodeN
  rw [if_neg (by omega)]
  split
  · rename_i h2
    split
    · refine ⟨by omega, by dsimp only; omega, by dsimp only; omega, by dsimp only; omega, fun j hj h3 h4 => ?_⟩
      dsimp only at h4
      rcases Nat.lt_or_ge j (i + 1) with h5 | h5
      · exact one j hj h3 h5
      · exact nx 1 j hj (by omega) h2.2.2
    · exact ⟨by decide, by decide, by decide, by dsimp only; omega, one⟩
  · split
    · rename_i h2
      split
      · refine ⟨by omega, by dsimp only; omega, by dsimp only; omega, by dsimp only; omega, fun j hj h3 h4 => ?_⟩
        dsimp only at h4
        rcases Nat.lt_or_ge j (i + 1) with h5 | h5
        · exact one j hj h3 h5
        · rcases Nat.lt_or_ge j (i + 2) with h6 | h6
          · exact nx 1 j hj (by omega) h2.2.1.2
          · exact nx 2 j hj (by omega) h2.2.2.2
      · exact ⟨by decide, by decide, by decide, by dsimp only; omega, one⟩
    · split
      · rename_i h2
        split
        · refine ⟨by omega, by dsimp only; omega, by dsimp only; omega, by dsimp only; omega, fun j hj h3 h4 => ?_⟩
          dsimp only at h4
          rcases Nat.lt_or_ge j (i + 1) with h5 | h5
          · exact one j hj h3 h5
          · rcases Nat.lt_or_ge j (i + 2) with h6 | h6
            · exact nx 1 j hj (by omega) h2.2.1.2
            · rcases Nat.lt_or_ge j (i + 3) with h7 | h7
              · exact nx 2 j hj (by omega) h2.2.2.1.2
              · exact nx 3 j hj (by omega) h2.2.2.2.2
        · exact ⟨by decide, by decide, by decide, by dsimp only; omega, one⟩
      · exact ⟨by decide, by decide, by decide, by dsimp only; omega, one⟩
theorem cleanB_upto {s : ByteArray} {i n : Nat} (h : cleanB (s.data.toList.take i) = true) (hn : n ≤ s.size) (hh : ∀ j (hj : j < s.size), i ≤ j → j < n → 128 ≤ (s[j]).toNat) : cleanB (s.data.toList.take n) = true := by
  unfold cleanB at *
  rw [List.all_eq_true] at *
  intro b hb
  obtain ⟨j, hj, e⟩ := List.getElem_of_mem hb
  rw [List.length_take] at hj
  have hjs : j < s.size := by omega
  have eb : b = s[j] := by rw [← e, List.getElem_take]; rfl
  rcases Nat.lt_or_ge j i with h1 | h1
  · refine h b ?_
    rw [eb]
    have : (s.data.toList.take i)[j]'(by rw [List.length_take]; have : s.data.toList.length = s.size := rfl; omega) = s[j] := by rw [List.getElem_take]; rfl
    rw [← this]
    exact List.getElem_mem _
  · have := hh j hjs h1 (by omega)
    rw [eb]
    simp only [Bool.and_eq_true, bne_iff_ne, ne_eq]
    constructor
    · intro h; rw [h] at this; exact absurd this (by decide)
    · intro h; rw [h] at this; exact absurd this (by decide)
theorem cleanB_one {s : ByteArray} {i : Nat} (h : cleanB (s.data.toList.take i) = true) (hi : i < s.size) : cleanB (s.data.toList.take (i + 1)) = (s[i] != 47 && s[i] != 0) := by
  have hi' : i < s.data.toList.length := hi
  unfold cleanB at *
  rw [List.take_succ_eq_append_getElem hi', List.all_append, h]
  simp only [List.all_cons, List.all_nil, Bool.and_true, Bool.true_and]
  rfl
theorem cleanB_bad {s : ByteArray} {i : Nat} (hi : i < s.size) (h : (s[i] != 47 && s[i] != 0) = false) : cleanB s.data.toList = false := by
  unfold cleanB
  rw [List.all_eq_false]
  refine ⟨s[i], ?_, by rw [h]; decide⟩
  have : s.data.toList[i]'hi = s[i] := rfl
  rw [← this]
  exact List.getElem_mem _
/-- Where a byte stands in a slash and a zero: nowhere, if it is neither. -/
theorem idx2 (x : UInt8) : (0 ≤ Lib.indexByte bad2.data.toList x) ↔ ¬ ((x != 47 && x != 0) = true) := by
  have h := Lib.contains_iff_indexByte bad2.data.toList x
  have e : bad2.data.toList = [47, 0] := rfl
  constructor
  · intro hx
    rw [decide_eq_true hx, e] at h
    simp at h
    simp
    intro h1; rcases h with h | h
    · exact absurd h h1
    · exact h
  · intro hx
    have h2 : bad2.data.toList.contains x = true := by
      rw [e]; simp at hx ⊢
      by_cases h1 : x = 47
      · exact .inl h1
      · exact .inr (hx h1)
    rw [h2] at h
    exact of_decide_eq_true h.symm
/-- Whether a rune stands in a slash and a zero. -/
theorem rune_in (r : Int) (h0 : 0 ≤ r) (h1 : r ≤ 1114111) (w : World) : Calls Tryz.prog 123 #[.string bad2, .int .i32 r] w fun e w' => ∃ v : Int, e = .returned (.int .i64 v) ∧ (0 ≤ v ↔ (r < 128 ∧ ¬ ((r.toNat.toUInt8 != 47 && r.toNat.toUInt8 != 0) = true))) ∧ Below w.heap.size w w' := by
  by_cases h : r < 128
  · refine (Tryz.strings_IndexRune_ascii bad2 r w h0 h).mono ?_
    rintro e w' ⟨rfl, rfl⟩
    exact ⟨_, rfl, ⟨fun hh => ⟨h, (idx2 _).1 hh⟩, fun hh => (idx2 _).2 hh.2⟩, Below.refl _ _⟩
  · refine (rune_odd r (by omega) h1 w).mono ?_
    rintro e w' ⟨rfl, hb⟩
    exact ⟨_, rfl, ⟨fun hh => absurd hh (by decide), fun hh => absurd hh.1 h⟩, hb⟩
set_option maxHeartbeats 1000000 in
set_option maxRecDepth 100000 in
theorem any_short (s : ByteArray) (h8 : s.size ≤ 8) (w : World) : Calls Tryz.prog 116 #[.string s, .string bad2] w fun e w' => ∃ v : Int, e = .returned (.int .i64 v) ∧ (0 ≤ v ↔ cleanB s.data.toList = false) ∧ Below w.heap.size w w' := by
  have hb2 : bad2 = ⟨#[47, 0]⟩ := rfl
  have HR := Hd.mk rune_in
  rw [hb2] at HR ⊢
  have h8z : decide ((8 : Int) < (s.size : Int)) = false := decide_eq_false (by omega)
  have HU := Hd.mk (Tryz.strings_shouldUseASCIISet (s.size : Int))
  rw [h8z] at HU
  clear hb2 h8z
  go_enter Tryz.func116, Tryz.ntmps116
  go_wp2_with fail
  refine (HU.out _).mono ?_; rintro e w1 ⟨rfl, rfl⟩
  clear HU
  go_wp2_with fail
  go_loopg [9, 10] s.size (fun g _ _ wx => ∃ i : Nat, Hd (i + g = s.size) ∧ Hd (wx.heap[w1.heap.size]? = some (.stringIter s i)) ∧ Hd (Below w1.heap.size w1 wx) ∧ Hd (cleanB (s.data.toList.take i) = true))
  case atStart => exact ⟨0, ⟨by omega⟩, ⟨World.iter_heap _ _ _⟩, ⟨(Below.refl _ _).alloc (Nat.le_refl _) _⟩, ⟨rfl⟩⟩
  case round =>
    obtain ⟨i, HG, HI, HB, HC⟩ := hrel
    by_cases hi : i < s.size
    · have hnx := fun ty => Lib.run_next_any_at (P := Tryz.prog) wr w1.heap.size s i ty HI.out hi
      have hI2 := Lib.iterAt_heap wr w1.heap.size s i (i + (Utf8.decode s i).2) HI.out
      have hB2 := Lib.below_iterAt HB.out (Nat.le_refl _) s (i + (Utf8.decode s i).2)
      have hd : (0 : Int) ≤ ((Utf8.decode s i).1 : Int) ∧ (((Utf8.decode s i).1 : Int) ≤ 1114111) ∧ 1 ≤ (Utf8.decode s i).2 ∧ i + (Utf8.decode s i).2 ≤ s.size ∧ (if ((Utf8.decode s i).1 : Int) < 128 ∧ ¬ ((((Utf8.decode s i).1 : Int).toNat.toUInt8 != 47 && ((Utf8.decode s i).1 : Int).toNat.toUInt8 != 0) = true) then cleanB s.data.toList = false else cleanB (s.data.toList.take (i + (Utf8.decode s i).2)) = true) := by
        by_cases h128 : (s[i]).toNat < 128
        · rw [decode_ascii s i hi h128]
          have e : (((s[i]).toNat : Int)).toNat.toUInt8 = s[i] := by simp
          refine ⟨by simp, by simp; omega, Nat.le_refl _, by simp; omega, ?_⟩
          simp only [e]
          cases hc : (s[i] != 47 && s[i] != 0) with
          | true => rw [if_neg (by simp)]; rw [cleanB_one HC.out hi]; exact hc
          | false => rw [if_pos ⟨by omega, by simp⟩]; exact cleanB_bad hi hc
        · obtain ⟨d1, d2, d3, d4, d5⟩ := dec_high hi (by omega)
          refine ⟨by omega, by omega, d3, d4, ?_⟩
          rw [if_neg (by omega)]
          exact cleanB_upto HC.out d4 d5
      obtain ⟨c, hc⟩ : ∃ c : Nat, c = (Utf8.decode s i).1 := ⟨_, rfl⟩
      obtain ⟨wd, hwd⟩ : ∃ d : Nat, d = (Utf8.decode s i).2 := ⟨_, rfl⟩
      rw [← hc, ← hwd] at hd
      rw [← hwd] at hI2 hB2
      simp only [← hc, ← hwd] at hnx
      clear hc hwd
      obtain ⟨d1, d2, d3, d4, d5⟩ := hd
      have HR2 := Hd.mk (HR.out (c : Int) d1 d2)
      have HI2 := Hd.mk hI2
      have HB2 := Hd.mk hB2
      clear hI2 hB2 d1 d2
      by_cases hcond : (c : Int) < 128 ∧ ¬ ((((c : Int)).toNat.toUInt8 != 47 && ((c : Int)).toNat.toUInt8 != 0) = true)
      · rw [if_pos hcond] at d5
        have HD := Hd.mk d5
        have HCO := Hd.mk hcond
        clear d5 hcond d3 d4 h8
        go_wp2_with fail
        generalize wr.iterAt w1.heap.size s (i + wd) = W2 at *
        refine (HR2.out _).mono ?_; rintro e w3 ⟨v, rfl, hv, hb3⟩
        have hv0 : 0 ≤ v := hv.2 HCO.out
        have HB3 := Hd.mk (below_step HB2.out hb3)
        clear hv hb3 HCO hnx
        go_wp2_with fail
        go_ret
        exact ⟨(i : Int), rfl, ⟨fun _ => HD.out, fun _ => by omega⟩, HB3.out⟩
      · rw [if_neg hcond] at d5
        have HD := Hd.mk d5
        have HCO := Hd.mk hcond
        have H34 := Hd.mk (⟨d3, d4⟩ : _ ∧ _)
        clear d5 hcond d3 d4 h8
        go_wp2_with fail
        generalize wr.iterAt w1.heap.size s (i + wd) = W2 at *
        refine (HR2.out _).mono ?_; rintro e w3 ⟨v, rfl, hv, hb3⟩
        have hv0 : ¬ 0 ≤ v := fun h => HCO.out (hv.1 h)
        have HB3 := Hd.mk (below_step HB2.out hb3)
        have HI3 : Hd (w3.heap[w1.heap.size]? = some (.stringIter s (i + wd))) := ⟨(hb3.block _ (Array.getElem?_eq_some_iff.1 HI2.out).1).trans HI2.out⟩
        clear hv hb3 HCO hnx
        go_wp2_with fail
        go_roundg (s.size - (i + wd))
        case measure => have := HG.out; have := H34.out; omega
        case rel => exact ⟨i + wd, ⟨by have := HG.out; have := H34.out; omega⟩, HI3, HB3, HD⟩
    · obtain rfl : i = s.size := by have := HG.out; omega
      have hnx := Lib.run_next_end_at (P := Tryz.prog) wr w1.heap.size s s.size
      have hnx2 := fun ty => hnx ty HI.out (by omega)
      clear hnx hi
      have ht : s.data.toList.take s.size = s.data.toList := List.take_of_length_le (Nat.le_refl _)
      rw [ht] at HC
      clear ht
      go_wp2_with fail
      go_ret
      exact ⟨-1, rfl, ⟨fun h => absurd h (by decide), fun h => by rw [HC.out] at h; cases h⟩, HB.out⟩
/-- strings.ContainsAny, of a short text, in a slash and a zero. -/
theorem contains_any (s : ByteArray) (h8 : s.size ≤ 8) (w : World) : Calls Tryz.prog 101 #[.string s, .string bad2] w fun e w' => e = .returned (.bool (!cleanB s.data.toList)) ∧ Below w.heap.size w w' := by
  have HA := Hd.mk (any_short s h8)
  have HE : bad2 = ⟨#[47, 0]⟩ := rfl
  rw [HE] at HA ⊢
  clear HE
  go_enter Tryz.func101, Tryz.ntmps101
  go_wp2_with fail
  refine (HA.out _).mono ?_; rintro e w1 ⟨v, rfl, hv, hb1⟩
  have HV := Hd.mk hv
  clear hv
  go_wp2_with fail
  go_ret
  refine ⟨?_, hb1⟩
  cases hc : cleanB s.data.toList with
  | true => rw [hc] at HV; have : ¬ 0 ≤ v := fun h => by have := HV.out.1 h; cases this
            simp [this]
  | false => rw [hc] at HV; have : 0 ≤ v := HV.out.2 rfl
             simp [this]
end Go.Proofs.YtcgkkjfbdappoaaGreat

/- op.Name, and the document's: which texts are names. -/
namespace Go.Proofs.YtcgkkjfbdappoaaGreat
open Go.RowKit Go.Proofs.YtcgkkjfbdappoaaGreatW.PrintWords Go.Proofs.YtcgkkjfbdappoaaGreatW.PrintLast Go.Proofs.YtcgkkjfbdappoaaGreatW.PrintMore
set_option linter.unusedVariables false
set_option linter.unusedSimpArgs false

theorem str_of {s : ByteArray} {l : List UInt8} (h : s.toList = l) : s = ⟨l.toArray⟩ := by
  rw [Lib.toList_data] at h
  subst h
  cases s; simp
/-- Whether a text is a name. -/
def nameB (s : ByteArray) : Bool := decide (1 ≤ s.size ∧ s.size ≤ 8 ∧ s ≠ ⟨#[46]⟩ ∧ s ≠ ⟨#[46, 46]⟩) && cleanB s.data.toList
theorem empty_of {s : ByteArray} (h : s.size = 0) : s = ⟨#[]⟩ := by
  have : s.data.size = 0 := h
  cases s; simp_all
theorem name_shape {s : ByteArray} (h1 : 1 ≤ s.size) (h8 : s.size ≤ 8) (n1 : s ≠ ⟨#[46]⟩) (n2 : s ≠ ⟨#[46, 46]⟩) : nameB s = cleanB s.data.toList := by
  unfold nameB
  rw [decide_eq_true ⟨h1, h8, n1, n2⟩, Bool.true_and]
theorem name_not {s : ByteArray} (h : ¬ (1 ≤ s.size ∧ s.size ≤ 8 ∧ s ≠ ⟨#[46]⟩ ∧ s ≠ ⟨#[46, 46]⟩)) : nameB s = false := by
  unfold nameB
  rw [decide_eq_false h, Bool.false_and]
set_option maxHeartbeats 1000000 in
theorem op_Name (s : ByteArray) (w : World) : Calls Tryz.prog 79 #[.string s] w fun e w' => e = .returned (.bool (nameB s)) ∧ Below w.heap.size w w' := by
  by_cases h0 : s.size = 0
  · obtain rfl := empty_of h0
    have HN : Hd (nameB ⟨#[]⟩ = false) := ⟨by decide⟩
    clear h0
    go_enter Tryz.func79, Tryz.ntmps79
    go_wp2_with fail
    go_ret
    exact ⟨by rw [HN.out]; rfl, Below.refl _ _⟩
  · by_cases hd : s = ⟨#[46]⟩
    · subst hd
      have HN : Hd (nameB ⟨#[46]⟩ = false) := ⟨by decide⟩
      clear h0
      go_enter Tryz.func79, Tryz.ntmps79
      go_wp2_with fail
      go_ret
      exact ⟨by rw [HN.out]; rfl, Below.refl _ _⟩
    · by_cases hdd : s = ⟨#[46, 46]⟩
      · subst hdd
        have HN : Hd (nameB ⟨#[46, 46]⟩ = false) := ⟨by decide⟩
        clear h0 hd
        go_enter Tryz.func79, Tryz.ntmps79
        go_wp2_with fail
        go_ret
        exact ⟨by rw [HN.out]; rfl, Below.refl _ _⟩
      · have e0 : s.toList.isEmpty = false := by
          rw [Lib.toList_data]
          cases h : s.data.toList with
          | nil => have : s.data.toList.length = s.size := rfl; rw [h] at this; exact absurd this.symm h0
          | cons _ _ => rfl
        have e1 : ¬ s.toList = [46] := fun h => hd (str_of h)
        have e2 : ¬ s.toList = [46, 46] := fun h => hdd (str_of h)
        have e5 : (!s.toList.isEmpty) = true := by rw [e0]; rfl
        by_cases h8 : s.size ≤ 8
        · have HN := Hd.mk (name_shape (by omega) h8 hd hdd)
          have HC := Hd.mk (contains_any s h8)
          have hb2 : bad2 = ⟨#[47, 0]⟩ := rfl
          rw [hb2] at HC
          have d8 : (s.size : Int) ≤ 8 := by omega
          clear h0 hd hdd hb2
          go_enter Tryz.func79, Tryz.ntmps79
          go_wp2_with fail
          refine (HC.out _).mono ?_; rintro e w1 ⟨rfl, hb1⟩
          go_wp2_with fail
          go_ret
          exact ⟨by rw [HN.out]; simp [e1, e2], hb1⟩
        · have HN := Hd.mk (name_not (s := s) (fun h => h8 h.2.1))
          have d8 : ¬ (s.size : Int) ≤ 8 := by omega
          clear h0 hd hdd h8
          go_enter Tryz.func79, Tryz.ntmps79
          go_wp2_with fail
          go_ret
          exact ⟨by rw [HN.out]; rfl, Below.refl _ _⟩
/-- Whether a text has a byte. -/
def hasB (s : ByteArray) (c : UInt8) : Bool := s.data.toList.any fun b => b == c
theorem clean_has (s : ByteArray) : cleanB s.data.toList = (!hasB s 47 && !hasB s 0) := by
  unfold cleanB hasB
  generalize s.data.toList = l
  induction l with
  | nil => rfl
  | cons b t ih =>
    simp only [List.all_cons, List.any_cons, ih]
    cases h1 : b == 47 <;> cases h2 : b == 0 <;> simp [bne, h1, h2]
theorem has_take {s : ByteArray} {c : UInt8} {i : Nat} (hi : i < s.size) (h : (s.data.toList.take i).any (fun b => b == c) = false) : (s.data.toList.take (i + 1)).any (fun b => b == c) = (s[i] == c) := by
  rw [List.take_succ_eq_append_getElem (show i < s.data.toList.length from hi), List.any_append, h]
  simp only [List.any_cons, List.any_nil, Bool.or_false, Bool.false_or]
  rfl
theorem u8_beq (x c : UInt8) : (((x.toNat : Nat) : Int) == ((c.toNat : Nat) : Int)) = (x == c) := by
  by_cases h : x = c
  · subst h; simp
  · rw [beq_eq_false_iff_ne.2 h, beq_eq_false_iff_ne]
    intro e; exact h (UInt8.toNat_inj.1 (by omega))
set_option maxHeartbeats 1000000 in
theorem ref_has (s : ByteArray) (hs : s.size ≤ 140737488355328) (c : UInt8) (w : World) : Calls Tryz.prog 87 #[.string s, .int .u8 (c.toNat : Int)] w fun e w' => e = .returned (.bool (hasB s c)) ∧ Below w.heap.size w w' := by
  have HS := Hd.mk hs
  clear hs
  go_enter Tryz.func87, Tryz.ntmps87
  go_wp2_with fail
  go_loopg [5] s.size (fun g v5 wx => ∃ i : Nat, Hd (i + g = s.size) ∧ v5 = .int .i64 (i : Int) ∧ wx = w ∧ Hd ((s.data.toList.take i).any (fun b => b == c) = false))
  case atStart => exact ⟨0, ⟨by omega⟩, rfl, rfl, ⟨rfl⟩⟩
  case round =>
    obtain ⟨i, HG, rfl, rfl, HC⟩ := hrel
    by_cases hi : i < s.size
    · have d1 : (i : Int) < (s.size : Int) := by omega
      have hw1 : wrap64 ((i : Int) + 1) = ((i + 1 : Nat) : Int) := by have := HS.out; unfold wrap64; omega
      have HT := Hd.mk (has_take hi HC.out)
      have hu := u8_beq s[i] c
      cases hc : (s[i] == c) with
      | true =>
        rw [hc] at hu HT
        have HH : Hd (hasB s c = true) := ⟨by
          unfold hasB; rw [List.any_eq_true]
          have h := HT.out
          rw [List.any_eq_true] at h
          obtain ⟨x, hx, h⟩ := h
          exact ⟨x, List.mem_of_mem_take hx, h⟩⟩
        clear hc
        go_wp2_with fail
        go_ret
        exact ⟨by rw [HH.out]; rfl, Below.refl _ _⟩
      | false =>
        rw [hc] at hu HT
        have HI := Hd.mk hi
        clear hc
        go_wp2_with fail
        go_roundg (s.size - (i + 1))
        case measure => have := HG.out; have := HI.out; omega
        case rel => exact ⟨i + 1, ⟨by have := HG.out; have := HI.out; omega⟩, by first | rfl | congr 1, rfl, HT⟩
    · obtain rfl : i = s.size := by have := HG.out; omega
      have d1 : ¬ (s.size : Int) < (s.size : Int) := by omega
      have ht : s.data.toList.take s.size = s.data.toList := List.take_of_length_le (Nat.le_refl _)
      rw [ht] at HC
      clear ht hi
      go_wp2_with fail
      go_ret
      exact ⟨by unfold hasB; rw [HC.out]; rfl, Below.refl _ _⟩
set_option maxHeartbeats 1000000 in
theorem ref_Name (s : ByteArray) (w : World) : Calls Tryz.prog 86 #[.string s] w fun e w' => e = .returned (.bool (nameB s)) ∧ Below w.heap.size w w' := by
  by_cases h0 : s.size = 0
  · obtain rfl := empty_of h0
    have HN : Hd (nameB ⟨#[]⟩ = false) := ⟨by decide⟩
    clear h0
    go_enter Tryz.func86, Tryz.ntmps86
    go_wp2_with fail
    go_ret
    exact ⟨by rw [HN.out]; rfl, Below.refl _ _⟩
  · by_cases hd : s = ⟨#[46]⟩
    · subst hd
      have HN : Hd (nameB ⟨#[46]⟩ = false) := ⟨by decide⟩
      clear h0
      go_enter Tryz.func86, Tryz.ntmps86
      go_wp2_with fail
      go_ret
      exact ⟨by rw [HN.out]; rfl, Below.refl _ _⟩
    · by_cases hdd : s = ⟨#[46, 46]⟩
      · subst hdd
        have HN : Hd (nameB ⟨#[46, 46]⟩ = false) := ⟨by decide⟩
        clear h0 hd
        go_enter Tryz.func86, Tryz.ntmps86
        go_wp2_with fail
        go_ret
        exact ⟨by rw [HN.out]; rfl, Below.refl _ _⟩
      · have e1 : ¬ s.toList = [46] := fun h => hd (str_of h)
        have e2 : ¬ s.toList = [46, 46] := fun h => hdd (str_of h)
        have d1 : (1 : Int) ≤ (s.size : Int) := by omega
        by_cases h8 : s.size ≤ 8
        · have HN := Hd.mk (name_shape (by omega) h8 hd hdd)
          rw [clean_has] at HN
          have H1 := Hd.mk (ref_has s (by omega) 47)
          have H2 := Hd.mk (ref_has s (by omega) 0)
          have d8 : (s.size : Int) ≤ 8 := by omega
          clear h0 hd hdd
          cases hh : hasB s 47 with
          | true =>
            rw [hh] at H1 HN
            clear hh
            go_enter Tryz.func86, Tryz.ntmps86
            go_wp2_with fail
            refine (H1.out _).mono ?_; rintro e w1 ⟨rfl, hb1⟩
            go_wp2_with fail
            go_ret
            exact ⟨by rw [HN.out]; rfl, hb1⟩
          | false =>
            rw [hh] at H1 HN
            clear hh
            go_enter Tryz.func86, Tryz.ntmps86
            go_wp2_with fail
            refine (H1.out _).mono ?_; rintro e w1 ⟨rfl, hb1⟩
            go_wp2_with fail
            refine (H2.out _).mono ?_; rintro e w2 ⟨rfl, hb2⟩
            go_wp2_with fail
            go_ret
            exact ⟨by rw [HN.out]; simp [e1, e2], below_step hb1 hb2⟩
        · have HN := Hd.mk (name_not (s := s) (fun h => h8 h.2.1))
          have d8 : ¬ (s.size : Int) ≤ 8 := by omega
          clear h0 hd hdd h8
          go_enter Tryz.func86, Tryz.ntmps86
          go_wp2_with fail
          go_ret
          exact ⟨by rw [HN.out]; rfl, Below.refl _ _⟩
end Go.Proofs.YtcgkkjfbdappoaaGreat
