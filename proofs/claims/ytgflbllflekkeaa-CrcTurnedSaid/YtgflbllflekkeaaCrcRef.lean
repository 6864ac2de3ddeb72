/- The document's checksum (layer 2): Steps, More, Of: their contracts. -/
import Derived.Test.YtgflbllflekkeaaCrcWalks
namespace Go.Proofs.Ytgflbllflekkeaa
open Go.RowKit Go.Proofs.YtgflbllflekkeaaW.PrintWords Go.Proofs.YtgflbllflekkeaaW.PrintLast Go.Proofs.YtgflbllflekkeaaW.PrintMore Cr
set_option linter.unusedVariables false
set_option linter.unusedSimpArgs false

set_option maxRecDepth 100000 in
theorem ref_Steps (c : Nat) (hc : Hd (c < 4294967296)) (w : World) :
    Calls Try.prog 21 #[.int .u32 (c : Int), .int .i64 8] w fun e w' => e = .returned (.int .u32 ((stps 8 c : Nat) : Int)) ∧ Below w.heap.size w w' := by
  go_enter Try.func21, Try.ntmps21
  go_wp2
  go_loopg [0, 5, 6] 8 (fun kq v0 v5 v6 w' => ∃ (k : Nat), k ≤ 8 ∧ v0 = .int .u32 ((stps k c : Nat) : Int) ∧ v5 = .int .i64 (k : Int) ∧ Hd (kq + k = 8) ∧ Hd (Below w.heap.size w w'))
  case atStart => exact ⟨0, by omega, rfl, rfl, ⟨rfl⟩, ⟨Below.refl _ _⟩⟩
  case round =>
    obtain ⟨k, hk, rfl, rfl, HK, HB⟩ := hrel
    have hd := stps_lt hc.out k
    by_cases hlt : k < 8
    · have hn : Hd (stps (k + 1) c = stp (stps k c)) := ⟨stps_succ k c⟩
      generalize stps k c = d at *
      by_cases hp : d % 2 = 1
      · have hpb : ((d : Int) % 2 == 1) = true := by simp; omega
        have hs : bits .xor .u32 ((d : Int) / 2) 3988292384 = ((stp d : Nat) : Int) := by
          have := stp_walk hd
          rw [show (d : Int) % 2 * 3988292384 = 3988292384 from by omega] at this
          exact this
        clear hp
        go_wp2_with fail
        go_roundg (7 - k)
        case measure => have := HK.out; omega
        case rel => exact ⟨k + 1, by omega, by rw [hn.out], by first | rfl | congr 1, ⟨by have := HK.out; omega⟩, HB⟩
      · have hpb : ((d : Int) % 2 == 1) = false := by simp; omega
        have hs : ((stp d : Nat) : Int) = (d : Int) / 2 := by
          have h0 : d % 2 = 0 := by omega
          unfold stp
          rw [h0]; simp
        have HS := Hd.mk hs
        clear hp hs
        go_wp2_with fail
        go_roundg (7 - k)
        case measure => have := HK.out; omega
        case rel => exact ⟨k + 1, by omega, by rw [hn.out, HS.out], by first | rfl | congr 1, ⟨by have := HK.out; omega⟩, HB⟩
    · obtain rfl : k = 8 := by omega
      go_wp2_with fail
      go_ret
      exact ⟨rfl, HB.out⟩

set_option maxRecDepth 100000 in
theorem ref_More (c : Nat) (hc : c < 4294967296) (s : ByteArray) (hs : s.size ≤ 140737488355328) (w : World) :
    Calls Try.prog 20 #[.int .u32 (c : Int), .string s] w fun e w' => e = .returned (.int .u32 ((mov c s.data.toList : Nat) : Int)) ∧ Below w.heap.size w w' := by
  have e0 : ((4294967295 - c : Nat) : Int) = 4294967295 - (c : Int) := by omega
  have E0 := Hd.mk e0
  have Hc := Hd.mk hc
  have hc2 : (c : Int) ≤ 4294967295 := by omega
  clear e0 hc
  go_enter Try.func20, Try.ntmps20
  go_wp2
  go_loopg [0, 5] s.size (fun kq v0 v5 w' => ∃ (k d : Nat), k ≤ s.size ∧ v5 = .int .i64 (k : Int) ∧ v0 = .int .u32 (d : Int) ∧ Hd (d < 4294967296) ∧ Hd (kq + k = s.size) ∧ Hd (mor (s.data.toList.drop k) d = mor s.data.toList (4294967295 - c)) ∧ Hd (Below w.heap.size w w'))
  case atStart => exact ⟨0, 4294967295 - c, by omega, rfl, by rw [E0.out], ⟨by omega⟩, ⟨by omega⟩, ⟨rfl⟩, ⟨Below.refl _ _⟩⟩
  case round =>
    obtain ⟨k, d, hk, rfl, rfl, HD, HK, HM, HB⟩ := hrel
    by_cases hlt : k < s.size
    · obtain ⟨b, t, hct⟩ : ∃ (c : UInt8) (t : List UInt8), s.data.toList.drop k = c :: t := by
        have : k < s.data.toList.length := by simpa using hlt
        exact ⟨_, _, List.drop_eq_getElem_cons this⟩
      have hcs : s[k] = b := by
        have h1 : k < s.data.toList.length := by simpa using hlt
        rw [List.drop_eq_getElem_cons h1] at hct
        exact (List.cons.inj hct).1
      have HC := Hd.mk hct
      have hd := Hd.mk (Pk.drop_next hct)
      clear hct
      have hb := b.toNat_lt
      have hx := xor32 d b.toNat HD.out (by omega)
      have HX : Hd (d ^^^ b.toNat < 4294967296) := ⟨xor_byte_lt HD.out b⟩
      have HN : Hd (stps 8 (d ^^^ b.toNat) < 4294967296) := ⟨stps_lt HX.out 8⟩
      have HM2 : Hd (mor (s.data.toList.drop k) d = mor t (stps 8 (d ^^^ b.toNat))) := ⟨by rw [HC.out, mor_cons]⟩
      have H1 := Hd.mk (ref_Steps (d ^^^ b.toNat) HX)
      generalize d ^^^ b.toNat = x at *
      generalize stps 8 x = y at *
      go_wp2_with fail
      refine (H1.out _).mono ?_; rintro e w5 ⟨rfl, h5⟩
      go_wp2_with fail
      go_roundg (gk - 1)
      case measure => have := HK.out; omega
      case rel => exact ⟨k + 1, y, by omega, by first | rfl | congr 1, rfl, HN, ⟨by have := HK.out; omega⟩, ⟨by rw [hd.out, ← HM2.out, HM.out]⟩, ⟨below_step HB.out h5⟩⟩
    · have HV : Hd (d = mor s.data.toList (4294967295 - c)) := ⟨by rw [← HM.out, List.drop_eq_nil_of_le (by simp; omega)]; rfl⟩
      have HE : Hd (((mov c s.data.toList : Nat) : Int) = 4294967295 - (d : Int)) := ⟨by have := HD.out; unfold mov; rw [← HV.out]; omega⟩
      have hd2 : (d : Int) ≤ 4294967295 := by have := HD.out; omega
      go_wp2_with fail
      go_ret
      exact ⟨by rw [HE.out]; rfl, HB.out⟩

theorem ref_Of (s : ByteArray) (hs : s.size ≤ 140737488355328) (w : World) :
    Calls Try.prog 18 #[.string s] w fun e w' => e = .returned (.int .u32 ((ofv s.data.toList : Nat) : Int)) ∧ Below w.heap.size w w' := by
  have H0 := Hd.mk (ref_More 0 (by decide) s hs)
  go_enter Try.func18, Try.ntmps18
  go_wp2_with fail
  refine (H0.out _).mono ?_; rintro e w1 ⟨rfl, h1⟩
  go_wp2_with fail
  go_ret
  exact ⟨rfl, h1⟩
end Go.Proofs.Ytgflbllflekkeaa
