/- The laws of checksums that no region draws: parts and steps. Each returns true, whatever comes in. -/
import Derived.Test.YtgflbllflekkeaaCrcMore
import Derived.Test.YtgflbllflekkeaaCrcLaw
import Derived.Lib.Strings
namespace Go.Proofs.Ytgflbllflekkeaa
open Go.RowKit Go.Proofs.YtgflbllflekkeaaW.PrintWords Go.Proofs.YtgflbllflekkeaaW.PrintLast Go.Proofs.YtgflbllflekkeaaW.PrintMore Cr
set_option linter.unusedVariables false
set_option linter.unusedSimpArgs false

theorem shown2 (w : World) : Calls Try.prog 15 #[] w fun e w' => e = .returned (.bool true) ∧ Below w.heap.size w w' := by
  have h := crc_Of (⟨#[49, 50, 51, 52, 53, 54, 55, 56, 57]⟩ : ByteArray) (by decide)
  have e : (4294967295 - mor (⟨#[49, 50, 51, 52, 53, 54, 55, 56, 57]⟩ : ByteArray).data.toList 4294967295 : Nat) = 3421780262 := by decide +kernel
  rw [e] at h
  have H := Hd.mk h
  clear h e
  go_enter Try.func15, Try.ntmps15
  go_wp2_with fail
  refine (H.out _).mono ?_; rintro e w1 ⟨rfl, h1⟩
  go_wp2_with fail
  go_ret
  exact ⟨rfl, h1⟩

/-- A checksum, and a checksum with more. -/
def ofv (l : List UInt8) : Nat := 4294967295 - mor l 4294967295
def mov (c : Nat) (l : List UInt8) : Nat := 4294967295 - mor l (4294967295 - c)
theorem ofv_lt (l : List UInt8) : ofv l < 4294967296 := by unfold ofv; omega
theorem mov_lt (c : Nat) (l : List UInt8) : mov c l < 4294967296 := by unfold mov; omega
theorem ofv_append (l k : List UInt8) : ofv (l ++ k) = mov (ofv l) k := by
  unfold ofv mov
  have h := mor_lt l 4294967295 (by decide)
  rw [mor_append, show 4294967295 - (4294967295 - mor l 4294967295) = mor l 4294967295 from by omega]
theorem mov_append (c : Nat) (l k : List UInt8) : mov c (l ++ k) = mov (mov c l) k := by
  unfold mov
  have h := mor_lt l (4294967295 - c) (by omega)
  rw [mor_append, show 4294967295 - (4294967295 - mor l (4294967295 - c)) = mor l (4294967295 - c) from by omega]
theorem mov_nil {c : Nat} (h : c < 4294967296) : mov c [] = c := by unfold mov; rw [mor]; omega

theorem crc_Of' (s : ByteArray) (hs : s.size ≤ 140737488355328) (w : World) :
    Calls Try.prog 17 #[.string s] w fun e w' => e = .returned (.int .u32 ((ofv s.data.toList : Nat) : Int)) ∧ Below w.heap.size w w' := crc_Of s hs w
theorem crc_More' (c : Nat) (hc : c < 4294967296) (s : ByteArray) (hs : s.size ≤ 140737488355328) (w : World) :
    Calls Try.prog 19 #[.int .u32 (c : Int), .string s] w fun e w' => e = .returned (.int .u32 ((mov c s.data.toList : Nat) : Int)) ∧ Below w.heap.size w w' := crc_More c ⟨hc⟩ s hs w

theorem law_CrcParts' (s t : ByteArray) (hs : s.size ≤ 140737488351232) (ht : t.size ≤ 140737488351232) (c : Nat) (hc : c < 4294967296) (w : World) :
    Calls Try.prog 5 #[.string s, .string t, .int .u32 (c : Int)] w fun e w' => e = .returned (.bool true) ∧ Below w.heap.size w w' := by
  have H0 := Hd.mk shown2
  by_cases hg : 2000 < s.size ∨ 2000 < t.size
  · have Hc := Hd.mk hc
    clear hc
    by_cases hg1 : 2000 < s.size
    · clear hg
      go_enter Try.func5, Try.ntmps5
      go_wp2_with (go_at_call 15; refine (H0.out _).mono ?_; rintro e w1 ⟨rfl, hb1⟩)
      all_goals (go_ret; exact ⟨rfl, hb1⟩)
    · have hg2 : 2000 < t.size := by omega
      clear hg
      go_enter Try.func5, Try.ntmps5
      go_wp2_with (go_at_call 15; refine (H0.out _).mono ?_; rintro e w1 ⟨rfl, hb1⟩)
      all_goals (go_ret; exact ⟨rfl, hb1⟩)
  · have hg1 : s.size ≤ 2000 := by omega
    have hg2 : t.size ≤ 2000 := by omega
    clear hg hs ht
    have hst : (s ++ t).size ≤ 4000 := by rw [ByteArray.size_append]; omega
    have hl : (s ++ t).data.toList = s.data.toList ++ t.data.toList := by simp
    have H1 := crc_Of' (s ++ t) (by omega)
    rw [hl, ofv_append] at H1
    have H2 := Hd.mk (crc_Of' s (by omega))
    have H3 := Hd.mk (crc_More' (ofv s.data.toList) (ofv_lt _) t (by omega))
    have H4 := crc_More' c hc ⟨#[]⟩ (by decide)
    rw [show (⟨#[]⟩ : ByteArray).data.toList = [] from rfl, mov_nil hc] at H4
    have H5 := crc_More' c hc (s ++ t) (by omega)
    rw [hl, mov_append] at H5
    have H6 := Hd.mk (crc_More' c hc s (by omega))
    have H7 := Hd.mk (crc_More' (mov c s.data.toList) (mov_lt _ _) t (by omega))
    have H1' := Hd.mk H1
    have H4' := Hd.mk H4
    have H5' := Hd.mk H5
    have Hc := Hd.mk hc
    have hc2 : (c : Int) ≤ 4294967295 := by omega
    clear H1 H4 H5 hl hc
    go_enter Try.func5, Try.ntmps5
    go_wp2_with fail
    refine (H0.out _).mono ?_; rintro e ws1 ⟨rfl, hs1⟩
    go_wp2_with fail
    refine (H1'.out _).mono ?_; rintro e ws2 ⟨rfl, hs2⟩
    go_wp2_with fail
    refine (H2.out _).mono ?_; rintro e ws3 ⟨rfl, hs3⟩
    go_wp2_with fail
    refine (H3.out _).mono ?_; rintro e ws4 ⟨rfl, hs4⟩
    go_wp2_with fail
    refine (H4'.out _).mono ?_; rintro e ws5 ⟨rfl, hs5⟩
    go_wp2_with fail
    refine (H5'.out _).mono ?_; rintro e ws6 ⟨rfl, hs6⟩
    go_wp2_with fail
    refine (H6.out _).mono ?_; rintro e ws7 ⟨rfl, hs7⟩
    go_wp2_with fail
    refine (H7.out _).mono ?_; rintro e ws8 ⟨rfl, hs8⟩
    go_wp2_with fail
    go_ret
    exact ⟨rfl, (below_step (below_step (below_step (below_step (below_step (below_step (below_step hs1 hs2) hs3) hs4) hs5) hs6) hs7) hs8)⟩
end Go.Proofs.Ytgflbllflekkeaa
