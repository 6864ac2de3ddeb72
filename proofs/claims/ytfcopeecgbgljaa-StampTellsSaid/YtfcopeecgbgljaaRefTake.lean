/- The document's begin, TakeNum, TakeInt, TakeText, Int and Text (layer 1): their contracts. -/
import Derived.Test.YtfcopeecgbgljaaRefNum
import Derived.Test.YtfcopeecgbgljaaRefPlain
import Derived.Test.YtfcopeecgbgljaaPackText
namespace Go.Proofs.Ytfcopeecgbgljaa
open Go.RowKit Go.Proofs.YtfcopeecgbgljaaW.PrintWords Go.Proofs.YtfcopeecgbgljaaW.PrintLast Go.Proofs.YtfcopeecgbgljaaW.PrintMore Pk
set_option linter.unusedVariables false
set_option linter.unusedSimpArgs false

set_option maxRecDepth 100000 in
theorem ref_begin (s : ByteArray) (hs : s.size ≤ 140737488355328) (w : World) :
    Calls Try.prog 62 #[.string s] w fun e w' => e = .returned (.string (s.extract 0 (bg s.data.toList 0))) ∧ Below w.heap.size w w' := by
  have he : Hd (s.extract 0 0 = ⟨#[]⟩) := ⟨by apply ByteArray.ext; simp⟩
  go_enter Try.func62, Try.ntmps62
  go_wp2
  go_loopg [3] (s.size) (fun kq v3 w' => ∃ (k : Nat), k ≤ s.size ∧ k ≤ 10 ∧ v3 = .int .i64 (k : Int) ∧ Hd (kq + k = s.size) ∧ Hd (bg (s.data.toList.drop k) k = bg s.data.toList 0) ∧ Hd (Below w.heap.size w w'))
  case atStart => exact ⟨0, by omega, by omega, rfl, ⟨by omega⟩, ⟨rfl⟩, ⟨Below.refl _ _⟩⟩
  case round =>
    obtain ⟨k, hk, hk10, rfl, HK, HT, HB⟩ := hrel
    by_cases hlt : k < s.size
    · obtain ⟨c, t, hct⟩ : ∃ (c : UInt8) (t : List UInt8), s.data.toList.drop k = c :: t := by
        have : k < s.data.toList.length := by simpa using hlt
        exact ⟨_, _, List.drop_eq_getElem_cons this⟩
      have hcs : s[k] = c := by
        have h1 : k < s.data.toList.length := by simpa using hlt
        rw [List.drop_eq_getElem_cons h1] at hct
        exact (List.cons.inj hct).1
      have HC := Hd.mk hct
      have hd := Hd.mk (drop_next hct)
      clear hct
      have hc256 : c.toNat < 256 := c.toNat_lt
      by_cases h10 : k = 10
      · have h10b : decide ((k : Int) < 10) = false := by simp; omega
        have HV : Hd (bg s.data.toList 0 = 0) := ⟨by rw [← HT.out, HC.out, bg, if_pos (by omega)]⟩
        clear h10
        go_wp2_with fail
        all_goals go_ret
        all_goals exact ⟨by rw [HV.out, he.out]; rfl, HB.out⟩
      · have h10b : k < 10 := by omega
        by_cases hc : c.toNat < 128
        · have HV : Hd (bg s.data.toList 0 = k + 1) := ⟨by rw [← HT.out, HC.out, bg, if_neg (by omega), if_pos hc]⟩
          go_wp2_with fail
          go_ret
          exact ⟨by rw [HV.out]; rfl, HB.out⟩
        · go_wp2_with fail
          go_roundg (gk - 1)
          case measure => have := HK.out; omega
          case rel => exact ⟨k + 1, by omega, by omega, by first | rfl | (congr 1), ⟨by have := HK.out; omega⟩, ⟨by rw [hd.out, ← HT.out, HC.out, bg, if_neg (by omega), if_neg hc]⟩, HB⟩
    · have HV : Hd (bg s.data.toList 0 = 0) := ⟨by rw [← HT.out, List.drop_eq_nil_of_le (by simp; omega)]; rfl⟩
      go_wp2_with fail
      go_ret
      exact ⟨by rw [HV.out, he.out]; rfl, HB.out⟩
end Go.Proofs.Ytfcopeecgbgljaa
