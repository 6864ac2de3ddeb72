/- strings.IndexRune, of a rune beyond ASCII, in a slash and a zero: none. -/
import Derived.Test.YtcekecpbjmfbhaaEnds
import Derived.Test.YtcekecpbjmfbhaaShelf
import Derived.Lib.OthersKept
import Derived.Lib.IndexLaws
import Derived.Lib.DecodeN
import Derived.Laws.RangeAny
namespace Go.Proofs.Ytcekecpbjmfbhaa
open Go.RowKit Go.Proofs.YtcekecpbjmfbhaaW.PrintWords Go.Proofs.YtcekecpbjmfbhaaW.PrintLast Go.Proofs.YtcekecpbjmfbhaaW.PrintMore
set_option linter.unusedVariables false
set_option linter.unusedSimpArgs false

theorem quiet_add_same {P : Program} {f : FuncId} {args : Array Value} {w : World} {a n : Nat} {v : Value}
    (h : Calls P f args (w.drewN (a + n)) fun e w' => e = .returned v ∧ w' = w.drewN (a + n)) :
    Calls P f args (w.drewN (a + n)) fun e w'' => e = .returned v ∧ ∃ m, w'' = w.drewN (a + m) :=
  h.mono fun _ _ ⟨he, hm⟩ => ⟨he, n, hm⟩
theorem ret_thru {Q : Exit → Act → World → Prop} {K1 K2 : Act → World → Prop} {i j k : Nat} {a : Act} {w : World} (h : Q .ret a w) : Exit.noGoto (Exit.inBlock i (Exit.then K1 (Exit.inBlock j (Exit.then K2 (Exit.noGoto (Exit.inBlock k Q)))))) .ret a w := h
/-- A slash and a zero. -/
def bad2 : ByteArray := ⟨#[47, 0]⟩
theorem enc_two {r : Int} (h0 : 128 ≤ r) (h1 : r < 2048) : ∃ a b : UInt8, Utf8.encode r = ⟨#[a, b]⟩ ∧ 128 ≤ b.toNat := by
  have hv : Utf8.valid r = true := by unfold Utf8.valid; simp; omega
  refine ⟨UInt8.ofNat (0xC0 + r.toNat / 64), UInt8.ofNat (0x80 + r.toNat % 64), ?_, ?_⟩
  · unfold Utf8.encode
    simp only [hv, if_true]
    rw [if_neg (by omega), if_pos (by omega)]
  · simp; omega
theorem enc_more {r : Int} (h0 : 2048 ≤ r) (hv : Utf8.valid r = true) : 3 ≤ (Utf8.encode r).size ∧ (Utf8.encode r).size ≤ 4 := by
  unfold Utf8.encode
  simp only [hv, if_true]
  rw [if_neg (by omega), if_neg (by omega)]
  split <;> simp [ByteArray.size]
theorem valid_rune {r : Int} (h : 0 ≤ r) (h1 : r ≤ 1114111) : Lib.validRune r = Utf8.valid r := by
  unfold Lib.validRune Utf8.valid
  rw [Bool.eq_iff_iff]; simp; omega
set_option maxHeartbeats 1000000 in
set_option maxRecDepth 100000 in
theorem rune_odd (r : Int) (h0 : 128 ≤ r) (h1 : r ≤ 1114111) (w : World) : Calls Try.prog 79 #[.string bad2, .int .i32 r] w fun e w' => e = .returned (.int .i64 (-1)) ∧ Below w.heap.size w w' := by
  have hs : bad2 = ⟨#[47, 0]⟩ := rfl
  rw [hs]
  by_cases hE : r = 65533
  · subst hE
    clear h0 h1 hs
    go_enter Try.func79, Try.ntmps79
    go_wp2_with fail
    have n0 := fun ty => run_next_ascii (P := Try.prog) w ⟨#[47, 0]⟩ 0 ty (by decide) (by decide)
    have n1 := fun ty => run_next_ascii (P := Try.prog) w ⟨#[47, 0]⟩ 1 ty (by decide) (by decide)
    have n2 := run_next_end (P := Try.prog) w ⟨#[47, 0]⟩ 2
    go_loopg [5, 6] 2 (fun g _ _ wx => (g = 2 ∧ wx = w.iter ⟨#[47, 0]⟩ 0) ∨ (g = 1 ∧ wx = w.iter ⟨#[47, 0]⟩ 1) ∨ (g = 0 ∧ wx = w.iter ⟨#[47, 0]⟩ 2))
    case atStart => exact .inl ⟨rfl, rfl⟩
    case round =>
      rcases hrel with ⟨rfl, rfl⟩ | ⟨rfl, rfl⟩ | ⟨rfl, rfl⟩
      · go_wp2_with fail
        go_roundg 1
        case measure => omega
        case rel => exact .inr (.inl ⟨rfl, rfl⟩)
      · go_wp2_with fail
        go_roundg 0
        case measure => omega
        case rel => exact .inr (.inr ⟨rfl, rfl⟩)
      · have n2 := n2
        go_wp2_with fail
        go_ret
        exact ⟨rfl, (Below.refl _ _).alloc (Nat.le_refl _) _⟩
  · have e1 : (r == 65533) = false := by rw [beq_eq_false_iff_ne]; exact hE
    have e2 : decide (r < 128) = false := decide_eq_false (by omega)
    have g0 : 0 ≤ r := by omega
    have HV := Hd.mk (Try.utf8_ValidRune r)
    rw [valid_rune (by omega) h1] at HV
    cases hv : Utf8.valid r with
    | false =>
      rw [hv] at HV
      clear hv hE hs
      go_enter Try.func79, Try.ntmps79
      go_wp2_with fail
      refine (HV.out _).mono ?_; rintro e w1 ⟨rfl, rfl⟩
      go_wp2_with fail
      go_ret
      exact ⟨rfl, Below.refl _ _⟩
    | true =>
      rw [hv] at HV
      by_cases h2 : r < 2048
      · obtain ⟨a, b, he, hb⟩ := enc_two h0 h2
        have HX := Hd.mk (Try.strings_IndexByte ⟨#[]⟩ (b.toNat : Int))
        have hbz : ((0 : Int) == (b.toNat : Int)) = false := by rw [beq_eq_false_iff_ne]; omega
        have hbn : (((⟨#[47, 0]⟩ : ByteArray)[1].toNat : Int) != (((⟨#[a, b]⟩ : ByteArray)[1]'(show 1 < 2 by omega)).toNat : Int)) = true := by show ((0 : Int) != (b.toNat : Int)) = true; rw [bne_iff_ne]; omega
        clear hv hE hs
        go_enter Try.func79, Try.ntmps79
        go_wp2_with fail
        refine (HV.out _).mono ?_; rintro e w1 ⟨rfl, rfl⟩
        go_wp2_with fail
        go_step3
        go_wp2_with fail
        go_loopg [9, 10] 0 (fun g v9 v10 wx => v9 = .int .i64 1 ∧ v10 = .int .i64 0 ∧ wx = w1)
        case atStart => exact ⟨rfl, rfl, rfl⟩
        case round =>
          obtain ⟨rfl, rfl, rfl⟩ := hrel
          go_wp2_with fail
          go_step3
          go_wp2_with fail
          go_quiet (fail)
          go_wp2_with fail
          go_quiet ((go_at_call 85; exact quiet_add_same (HX.out _)))
          go_wp2_with fail
          refine ret_thru ?_
          go_ret
          exact ⟨rfl, pw_below_drewN (Below.refl _ _) _⟩
      · have he := enc_more (r := r) (by omega) hv
        clear hv hE hs
        go_enter Try.func79, Try.ntmps79
        go_wp2_with fail
        refine (HV.out _).mono ?_; rintro e w1 ⟨rfl, rfl⟩
        go_wp2_with fail
        go_step3
        go_wp2_with fail
        obtain ⟨m, hm⟩ : ∃ m : Nat, m = (Utf8.encode r).size - 1 := ⟨_, rfl⟩
        have g1 : ((Utf8.encode r).size : Int) - 1 = (m : Int) := by omega
        have g2 : ¬ (m : Int) < 2 := by omega
        rw [g1]
        clear g1 hm he
        go_loopg [9, 10] 0 (fun g v9 v10 wx => v9 = .int .i64 (m : Int) ∧ v10 = .int .i64 0 ∧ wx = w1)
        case atStart => exact ⟨rfl, rfl, rfl⟩
        case round =>
          obtain ⟨rfl, rfl, rfl⟩ := hrel
          go_wp2_with fail
          go_ret
          exact ⟨rfl, Below.refl _ _⟩
end Go.Proofs.Ytcekecpbjmfbhaa
