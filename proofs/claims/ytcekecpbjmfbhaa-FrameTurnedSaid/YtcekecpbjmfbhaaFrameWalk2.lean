/- thimbleref06: Take, Texts; thimblelaw06: few: their contracts. -/
import Derived.Test.YtcekecpbjmfbhaaFrameWalk
namespace Go.Proofs.Ytcekecpbjmfbhaa
open Go.RowKit Go.Proofs.YtcekecpbjmfbhaaW.PrintWords Go.Proofs.YtcekecpbjmfbhaaW.PrintLast Go.Proofs.YtcekecpbjmfbhaaW.PrintMore Pk Cr
set_option linter.unusedVariables false
set_option linter.unusedSimpArgs false

theorem mk_inj {a b : List UInt8} : (⟨a.toArray⟩ : ByteArray) = ⟨b.toArray⟩ ↔ a = b := by
  constructor
  · intro h
    have := congrArg (fun x : ByteArray => x.data.toList) h
    simpa using this
  · rintro rfl; rfl
theorem str_ne {a b : ByteArray} (h : a ≠ b) : ¬ a.toList = b.toList := fun e => h (by
  rw [Lib.toList_data, Lib.toList_data] at e
  exact ByteArray.ext (Array.toList_inj.1 e))
set_option maxHeartbeats 1000000 in
set_option maxRecDepth 100000 in
theorem ref_FTake (s : ByteArray) (hs : s.size ≤ 140737488351232) (w : World) :
    Calls Try.prog 18 #[.string s] w fun e w' => e = .returned (txV (tkF s.data.toList)) ∧ Below w.heap.size w w' := by
  have H := ref_TakeText s (by omega) 65536 (by decide) (by decide)
  cases hT : tx 65536 (tk s.data.toList 0 0) with
  | none =>
    have e : tkF s.data.toList = none := by unfold tkF; rw [hT]
    rw [e]
    rw [hT] at H
    simp only [txV] at H ⊢
    have H' := Hd.mk H
    clear H hT e
    go_enter Try.func18, Try.ntmps18
    go_wp2_with fail
    refine (H'.out _).mono ?_; rintro e w1 ⟨rfl, hb⟩
    go_wp2_with fail
    go_ret3
    exact ⟨rfl, hb⟩
  | some p =>
    obtain ⟨b, r⟩ := p
    obtain ⟨hb, hl⟩ := tx_very hT
    have e0 : tkF s.data.toList = if r.length < 4 then none else if be4 (ofv (headF b)) = r.take 4 then some (b, r.drop 4) else none := by
      unfold tkF
      rw [hT]
      simp only
      have : s.data.toList.take (s.data.toList.length - r.length) = headF b := by rw [hl, List.length_append, Nat.add_sub_cancel, List.take_left]
      rw [this]
    rw [hT] at H
    simp only [txV] at H
    have H' := Hd.mk H
    have hn : (⟨r.toArray⟩ : ByteArray).size = r.length := size_of r
    have hsz : s.size = (headF b).length + r.length := by
      have : s.data.toList.length = s.size := rfl
      rw [← this, hl, List.length_append]
    obtain ⟨q, hq⟩ : ∃ q : ByteArray, q = ⟨r.toArray⟩ := ⟨_, rfl⟩
    rw [← hq] at hn H'
    clear H
    by_cases h4 : r.length < 4
    · rw [e0, if_pos h4]
      have g1 : (q.size : Int) < 4 := by omega
      have g2 : q.size < 4 := by omega
      clear e0 hT hl hsz hq hn h4
      simp only [txV]
      go_enter Try.func18, Try.ntmps18
      go_wp2_with fail
      refine (H'.out _).mono ?_; rintro e w1 ⟨rfl, hb⟩
      go_wp2_with fail
      go_ret3
      exact ⟨rfl, hb⟩
    · rw [if_neg h4] at e0
      have HP : Hd (∀ w, Calls Try.prog 16 #[.string ⟨b.toArray⟩] w fun e w' => e = .returned (.tuple #[.string ⟨(putF b).toArray⟩, .int .i64 0]) ∧ Below w.heap.size w w') := ⟨fun w => by
        have := ref_FPut ⟨b.toArray⟩ (by rw [size_of]; omega) w
        have e : ptV b = .tuple #[.string ⟨(putF b).toArray⟩, .int .i64 0] := if_pos hb
        rw [mk_list, e] at this
        exact this⟩
      have hw : wrap64 ((s.size : Int) - (q.size : Int)) = (((headF b).length : Nat) : Int) := by unfold wrap64; omega
      have hw2 : wrap64 ((((headF b).length : Nat) : Int) + 4) = (((headF b).length + 4 : Nat) : Int) := by unfold wrap64; omega
      have g0 : ¬ (q.size : Int) < 4 := by omega
      have g2 : ¬ q.size < 4 := by omega
      have g3 : (headF b).length + 4 ≤ s.size := by omega
      have E4 : s.extract 0 ((headF b).length + 4) = ⟨(headF b ++ r.take 4).toArray⟩ := by rw [take_bytes, hl, List.take_length_add_append]
      have D4 : Hd (s.extract ((headF b).length + 4) s.size = ⟨(r.drop 4).toArray⟩) := ⟨by rw [drop_bytes, hl, List.drop_length_add_append]⟩
      have hiff : (⟨(putF b).toArray⟩ : ByteArray) = s.extract 0 ((headF b).length + 4) ↔ be4 (ofv (headF b)) = r.take 4 := by
        rw [E4, mk_inj]
        unfold putF
        exact ⟨List.append_cancel_left, fun h => by rw [h]⟩
      rw [e0]
      clear e0 hT hl hsz hq hn h4 E4
      generalize (⟨(putF b).toArray⟩ : ByteArray) = S4 at *
      generalize (headF b).length = m at *
      by_cases he : S4 = s.extract 0 (m + 4)
      · rw [if_pos (hiff.1 he)]
        have hTL : S4.toList = (s.extract 0 (m + 4)).toList := by rw [he]
        have hx3 : (S4.toList != (s.extract 0 (m + 4)).toList) = false := by rw [hTL]; simp
        simp only [txV]
        clear hiff he
        go_enter Try.func18, Try.ntmps18
        go_wp2_with fail
        refine (H'.out _).mono ?_; rintro e w1 ⟨rfl, hb1⟩
        go_wp2_with fail
        refine (HP.out _).mono ?_; rintro e w2 ⟨rfl, hb2⟩
        have hHeld := below_step hb1 hb2
        go_wp2_with fail
        go_quiet (fail)
        all_goals
          go_wp2_with fail
          go_ret3
          exact ⟨by rw [← D4.out]; rfl, hHeld.trans ((below_drewN _ _).mono hHeld.size)⟩
      · rw [if_neg (fun h => he (hiff.2 h))]
        have hTL := str_ne he
        have hx3 : (S4.toList != (s.extract 0 (m + 4)).toList) = true := by simpa using hTL
        have hx4 : (S4.toList == (s.extract 0 (m + 4)).toList) = false := by simpa using hTL
        simp only [txV]
        clear hiff he
        go_enter Try.func18, Try.ntmps18
        go_wp2_with fail
        refine (H'.out _).mono ?_; rintro e w1 ⟨rfl, hb1⟩
        go_wp2_with fail
        refine (HP.out _).mono ?_; rintro e w2 ⟨rfl, hb2⟩
        have hHeld := below_step hb1 hb2
        go_wp2_with fail
        go_ret3
        exact ⟨rfl, hHeld⟩

/-- A slice of texts. -/
def AreTexts (W : World) (v : Value) (l : List ByteArray) : Prop :=
  ∃ A cap, v = .slice A l.length cap ∧ l.length ≤ cap ∧ cap ≤ maxLen ∧ ∀ j x, l[j]? = some x → ∃ a, A = some a ∧ W.cell? (a.add j) = some (.string x)
theorem AreTexts.keep {W W' : World} {v : Value} {l : List ByteArray} (h : AreTexts W v l) (hb : Below W.heap.size W W') : AreTexts W' v l := by
  obtain ⟨A, cap, rfl, h1, h2, h3⟩ := h
  refine ⟨A, cap, rfl, h1, h2, fun j x hx => ?_⟩
  obtain ⟨a, ha, hc⟩ := h3 j x hx
  exact ⟨a, ha, (hb.cell (World.block_lt_of_cell? W _ hc)).trans hc⟩
theorem AreTexts.nil (W : World) : AreTexts W (.slice none 0 0) [] := ⟨none, 0, rfl, Nat.le_refl _, by unfold maxLen; omega, by simp⟩
set_option maxHeartbeats 1000000 in
set_option maxRecDepth 100000 in
theorem ref_Texts {va vb : Value} {a b : List ByteArray} {w : World} (ha : AreTexts w va a) (hb : AreTexts w vb b) :
    Calls Try.prog 21 #[va, vb] w fun e w' => e = .returned (.bool (decide (a = b))) ∧ Below w.heap.size w w' := by
  obtain ⟨A, ca, rfl, a1, a2, a3⟩ := ha
  obtain ⟨B, cb, rfl, b1, b2, b3⟩ := hb
  by_cases hl : a.length = b.length
  · rw [hl] at a1 ⊢
    have HA := Hd.mk a3
    have HB := Hd.mk b3
    have HL := Hd.mk hl
    have HM := Hd.mk (show b.length ≤ 9223372036854775807 by unfold maxLen at b2; omega)
    generalize hn : b.length = n at *
    have HN := Hd.mk hn
    clear a3 b3 hl hn a1 a2 b1 b2
    go_enter Try.func21, Try.ntmps21
    go_wp2_with fail
    go_loopg [5] n (fun kq v5 wr => ∃ i : Nat, i ≤ n ∧ v5 = .int .i64 (i : Int) ∧ Hd (kq + i = n) ∧ Hd (Below w.heap.size w wr) ∧ Hd (∀ j, j < i → a[j]? = b[j]?))
    case atStart => exact ⟨0, by omega, rfl, ⟨rfl⟩, ⟨Below.refl _ _⟩, ⟨fun j hj => by omega⟩⟩
    case round =>
      obtain ⟨i, hi, rfl, HK, HW, HE⟩ := hrel
      by_cases hin : i < n
      · obtain ⟨x, hx⟩ : ∃ x, a[i]? = some x := ⟨_, List.getElem?_eq_getElem (by rw [HL.out]; exact hin)⟩
        obtain ⟨y, hy⟩ : ∃ y, b[i]? = some y := ⟨_, List.getElem?_eq_getElem (by rw [HN.out]; exact hin)⟩
        obtain ⟨aa, rfl, ca0⟩ := HA.out i x hx
        obtain ⟨bb, rfl, cb0⟩ := HB.out i y hy
        have c1 : wr.cell? (aa.add i) = some (.string x) := (HW.out.cell (World.block_lt_of_cell? w _ ca0)).trans ca0
        have c2 : wr.cell? (bb.add i) = some (.string y) := (HW.out.cell (World.block_lt_of_cell? w _ cb0)).trans cb0
        have f1 : (i : Int) < (n : Int) := by omega
        have HIN := Hd.mk hin
        have hw1 : wrap64 ((i : Int) + 1) = ((i + 1 : Nat) : Int) := by have := HM.out; unfold wrap64; omega
        clear ca0 cb0
        go_upto_region 6 with (fail)
        by_cases he : x = y
        · have hTL : x.toList = y.toList := by rw [he]
          have hx3 : (x.toList != y.toList) = false := by rw [hTL]; simp
          have HE2 : Hd (∀ j, j < i + 1 → a[j]? = b[j]?) := ⟨fun j hj => by
            rcases Nat.lt_succ_iff_lt_or_eq.1 hj with h | rfl
            · exact HE.out j h
            · rw [hx, hy, he]⟩
          clear he hx hy
          go_quiet (fail)
          all_goals
            go_wp2_with fail
            go_roundg (n - i - 1)
            case measure => have := HK.out; have := HIN.out; omega
            case rel => exact ⟨i + 1, by have := HIN.out; omega, by first | rfl | congr 1, ⟨by have := HK.out; have := HIN.out; omega⟩, ⟨HW.out.trans ((below_drewN _ _).mono HW.out.size)⟩, HE2⟩
        · have hTL := str_ne he
          have hx3 : (x.toList != y.toList) = true := by simpa using hTL
          have hx4 : (x.toList == y.toList) = false := by simpa using hTL
          have HD : Hd (decide (a = b) = false) := ⟨decide_eq_false (fun h => he (by rw [h, hy] at hx; exact (Option.some.inj hx).symm))⟩
          clear he hx hy
          go_quiet (fail)
          all_goals
            go_wp2_with fail
            go_ret
            exact ⟨by rw [HD.out]; rfl, HW.out.trans ((below_drewN _ _).mono HW.out.size)⟩
      · obtain rfl : i = n := by omega
        have f1 : ¬ (i : Int) < (i : Int) := by omega
        have HD : Hd (decide (a = b) = true) := ⟨decide_eq_true (List.ext_getElem? fun j => by
          by_cases hj : j < i
          · exact HE.out j hj
          · rw [List.getElem?_eq_none (by rw [HL.out]; omega), List.getElem?_eq_none (by rw [HN.out]; omega)])⟩
        go_wp2_with fail
        go_ret
        exact ⟨by rw [HD.out]; rfl, HW.out⟩
  · have HD : Hd (decide (a = b) = false) := ⟨decide_eq_false (fun h => hl (by rw [h]))⟩
    have f1 : ¬ (a.length : Int) = (b.length : Int) := by omega
    clear a3 b3 a1 a2 b1 b2
    go_enter Try.func21, Try.ntmps21
    go_wp2_with fail
    go_ret
    exact ⟨by rw [HD.out]; rfl, Below.refl _ _⟩

/-- At most twenty texts, none of them above two hundred bytes. -/
def fewB (l : List ByteArray) : Bool := decide (l.length ≤ 20 ∧ ∀ x ∈ l, x.size ≤ 200)
set_option maxHeartbeats 1000000 in
set_option maxRecDepth 100000 in
theorem law_few {va : Value} {a : List ByteArray} {w : World} (ha : AreTexts w va a) :
    Calls Try.prog 22 #[va] w fun e w' => e = .returned (.bool (fewB a)) ∧ Below w.heap.size w w' := by
  obtain ⟨A, ca, rfl, a1, a2, a3⟩ := ha
  have HA := Hd.mk a3
  generalize hn : a.length = n at *
  have HN := Hd.mk hn
  clear a3 hn a1 a2
  go_enter Try.func22, Try.ntmps22
  go_wp2_with fail
  go_loopg [3] 21 (fun kq v3 wr => ∃ i : Nat, i ≤ n ∧ i ≤ 21 ∧ v3 = .int .i64 (i : Int) ∧ Hd (kq + i = 21) ∧ Hd (Below w.heap.size w wr) ∧ Hd (∀ j x, j < i → a[j]? = some x → x.size ≤ 200))
  case atStart => exact ⟨0, by omega, by omega, rfl, ⟨rfl⟩, ⟨Below.refl _ _⟩, ⟨fun j x hj => by omega⟩⟩
  case round =>
    obtain ⟨i, hi, hi2, rfl, HK, HW, HE⟩ := hrel
    by_cases hin : i < n ∧ i < 21
    · obtain ⟨x, hx⟩ : ∃ x, a[i]? = some x := ⟨_, List.getElem?_eq_getElem (by rw [HN.out]; exact hin.1)⟩
      obtain ⟨aa, rfl, ca0⟩ := HA.out i x hx
      have c1 : wr.cell? (aa.add i) = some (.string x) := (HW.out.cell (World.block_lt_of_cell? w _ ca0)).trans ca0
      have f1 : (i : Int) < (n : Int) := by omega
      have f2 : (i : Int) < 21 := by omega
      have HIN := Hd.mk hin
      have hw1 : wrap64 ((i : Int) + 1) = ((i + 1 : Nat) : Int) := by unfold wrap64; omega
      by_cases he : x.size ≤ 200
      · have g1 : ¬ (200 : Int) < (x.size : Int) := by omega
        have HE2 : Hd (∀ j y, j < i + 1 → a[j]? = some y → y.size ≤ 200) := ⟨fun j y hj hy => by
          rcases Nat.lt_succ_iff_lt_or_eq.1 hj with h | rfl
          · exact HE.out j y h hy
          · rw [hx] at hy; cases hy; exact he⟩
        clear he hx ca0 hin
        go_wp2_with fail
        go_roundg (21 - i - 1)
        case measure => have := HK.out; have := HIN.out; omega
        case rel => exact ⟨i + 1, by have := HIN.out; omega, by have := HIN.out; omega, by first | rfl | congr 1, ⟨by have := HK.out; have := HIN.out; omega⟩, HW, HE2⟩
      · have g1 : (200 : Int) < (x.size : Int) := by omega
        have HD : Hd (fewB a = false) := ⟨decide_eq_false (fun h => he (h.2 x (List.mem_of_getElem? hx)))⟩
        clear he hx ca0 hin
        go_wp2_with fail
        go_ret
        exact ⟨by rw [HD.out]; rfl, HW.out⟩
    · have HD : Hd (fewB a = decide (n ≤ 20)) := ⟨by
        unfold fewB
        rw [HN.out]
        by_cases h : n ≤ 20
        · rw [decide_eq_true h]
          refine decide_eq_true ⟨h, fun x hx => ?_⟩
          obtain ⟨j, hj, e⟩ := List.getElem_of_mem hx
          have := HN.out
          exact HE.out j x (by omega) (by rw [List.getElem?_eq_getElem hj, e])
        · rw [decide_eq_false h]
          exact decide_eq_false (fun h2 => h h2.1)⟩
      by_cases hin2 : i < n
      · have f1 : (i : Int) < (n : Int) := by omega
        have f2 : ¬ (i : Int) < 21 := by omega
        clear hin
        go_wp2_with fail
        go_ret
        exact ⟨by rw [HD.out]; simp; omega, HW.out⟩
      · have f1 : ¬ (i : Int) < (n : Int) := by omega
        clear hin
        go_wp2_with fail
        go_ret
        exact ⟨by rw [HD.out]; simp; omega, HW.out⟩
end Go.Proofs.Ytcekecpbjmfbhaa
