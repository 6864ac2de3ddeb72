/- pack.TakeNum, TakeInt and TakeText tell what a string begins with: their contracts. -/
import Derived.Test.YtfcopeecgbgljaaPackNum
namespace Go.Proofs.Ytfcopeecgbgljaa
open Go.RowKit Go.Proofs.YtfcopeecgbgljaaW.PrintWords Go.Proofs.YtfcopeecgbgljaaW.PrintLast Go.Proofs.YtfcopeecgbgljaaW.PrintMore Pk
set_option linter.unusedVariables false
set_option linter.unusedSimpArgs false

set_option maxHeartbeats 1000000 in
set_option maxRecDepth 100000 in
theorem pack_TakeNum (s : ByteArray) (hs : s.size ≤ maxLen) (w : World) :
    Calls Try.prog 58 #[.string s] w fun e w' => e = .returned (tnV (tk s.data.toList 0 0)) ∧ Below w.heap.size w w' := by
  unfold maxLen at hs
  go_enter Try.func58, Try.ntmps58
  go_wp2
  go_step3
  go_wp2
  go_step3
  go_wp2
  go_loopg [5, 10] (s.size) (fun kq v5 v10 w' => ∃ (k n : Nat), k ≤ s.size ∧ k ≤ 10 ∧ v5 = .int .u64 (n : Int) ∧ v10 = .int .i64 (k : Int) ∧ Hd (kq + k = s.size) ∧ Hd (tk (s.data.toList.drop k) k n = tk s.data.toList 0 0) ∧ Hd (n < 2 ^ (7 * k)) ∧ Hd (Below w.heap.size w w'))
  case atStart => exact ⟨0, 0, by omega, by omega, rfl, rfl, ⟨by omega⟩, ⟨rfl⟩, ⟨by simp⟩, ⟨Below.refl _ _⟩⟩
  case round =>
    obtain ⟨k, n, hk, hk9, rfl, rfl, HK, HT, HN, HB⟩ := hrel
    by_cases hlt : k < s.size
    · obtain ⟨c, t, hct⟩ : ∃ (c : UInt8) (t : List UInt8), s.data.toList.drop k = c :: t := by
        have : k < s.data.toList.length := by simpa using hlt
        exact ⟨_, _, List.drop_eq_getElem_cons this⟩
      have hcs : s[k] = c := by
        have h1 : k < s.data.toList.length := by simpa using hlt
        rw [List.drop_eq_getElem_cons h1] at hct
        exact (List.cons.inj hct).1
      have HC := Hd.mk hct
      clear hct
      have hc256 : c.toNat < 256 := c.toNat_lt
      have hd := Hd.mk (drop_next HC.out)
      by_cases h10 : k = 10
      · obtain rfl := h10
        go_wp2_with fail
        (try rw [Exit.noGoto_ret])
        go_ret3
        exact ⟨by rw [← HT.out, HC.out, tk_err (by omega)]; rfl, HB.out⟩
      · by_cases h9 : k = 9
        · obtain rfl := h9
          by_cases h2 : 2 ≤ c.toNat
          · have hb : ((c.toNat : Int) / 2 != 0) = true := by simp; omega
            go_wp2_with fail
            (try rw [Exit.noGoto_ret])
            go_ret3
            exact ⟨by rw [← HT.out, HC.out, tk_err (by omega)]; rfl, HB.out⟩
          · have hb : ((c.toNat : Int) / 2 != 0) = false := by simp; omega
            by_cases h0 : c.toNat = 0
            · have h0b : ((c.toNat : Int) == 0) = true := by simp; omega
              go_wp2_with fail
              (try rw [Exit.noGoto_ret])
              go_ret3
              exact ⟨by rw [← HT.out, HC.out, tk_zero (by omega) h0 (by omega)]; rfl, HB.out⟩
            · have h0b : ((c.toNat : Int) == 0) = false := by simp; omega
              have hor := Hd.mk (or_hi n 9 c.toNat (by omega) HN.out (by omega))
              go_wp2_with fail
              go_quiet (fail)
              go_wp2
              (try rw [Exit.noGoto_ret])
              go_ret3
              refine ⟨?_, by repeat (first | (with_reducible first | exact HB.out | apply below_alloc | apply pw_below_drewN | apply below_drew1) | exact HB.out)⟩
              rw [← HT.out, HC.out, tk_end (by omega) (by omega) (by omega)]
              have e1 : (c.toNat : Int) % 128 * 9223372036854775808 = IntKind.u64.wrap ((c.toNat : Int) * 2 ^ (7 * 9)) := by rw [wrap_u64]; omega
              have e2 := hor.out
              rw [← e1] at e2
              refine congrArg Ending.returned ?_
              show Value.tuple #[.int .u64 (bits BinOp.or IntKind.u64 (↑n) (↑c.toNat % 128 * 9223372036854775808)), .string (s.extract 10 s.size), .int .i64 0] = _
              rw [e2, drop_bytes, hd.out]; rfl
        · have h8 : k ≤ 8 := by omega
          have hp : Hd (2 ^ (7 * k) ≤ 2 ^ 56) := ⟨Nat.pow_le_pow_right (by decide) (by omega)⟩
          have hx : Hd (c.toNat % 128 * 2 ^ (7 * k) < 9223372036854775808) := ⟨by
            have h2 : c.toNat % 128 * 2 ^ (7 * k) ≤ 127 * 2 ^ 56 := Nat.mul_le_mul (by omega) hp.out
            omega⟩
          clear h9 h10 hk9
          by_cases hc : c.toNat < 128
          · have hor := Hd.mk (or_hi n k c.toNat (by omega) HN.out (by have := hx.out; rw [Nat.mod_eq_of_lt hc] at this; omega))
            by_cases h0 : c.toNat = 0
            · have h0b : ((c.toNat : Int) == 0) = true := by simp; omega
              by_cases hk0 : 0 < k
              · go_wp2_with fail
                (try rw [Exit.noGoto_ret])
                go_ret3
                exact ⟨by rw [← HT.out, HC.out, tk_zero (by omega) h0 hk0]; rfl, HB.out⟩
              · go_wp2_with fail
                go_quiet (fail)
                go_wp2
                (try rw [Exit.noGoto_ret])
                go_ret3
                refine ⟨?_, by repeat (first | (with_reducible first | exact HB.out | apply below_alloc | apply pw_below_drewN | apply below_drew1) | exact HB.out)⟩
                rw [← HT.out, HC.out, tk_end (by omega) (by omega) (by omega)]
                refine congrArg Ending.returned ?_
                show Value.tuple #[.int .u64 (bits BinOp.or IntKind.u64 (↑n) 0), .string (s.extract (k + 1) s.size), .int .i64 0] = _
                have hk1 : k = 0 := by omega
                have hn1 : n < 2 ^ 64 := by have := HN.out; rw [hk1] at this; omega
                rw [or_zero n hn1, drop_bytes, hd.out, h0]; simp [tnV]
            · have h0b : ((c.toNat : Int) == 0) = false := by simp; omega
              go_wp2_with fail
              go_quiet (fail)
              go_wp2
              (try rw [Exit.noGoto_ret])
              go_ret3
              refine ⟨?_, by repeat (first | (with_reducible first | exact HB.out | apply below_alloc | apply pw_below_drewN | apply below_drew1) | exact HB.out)⟩
              rw [← HT.out, HC.out, tk_end (by omega) (by omega) (by omega)]
              have e1 : (c.toNat : Int) % 128 = (c.toNat : Int) := by omega
              refine congrArg Ending.returned ?_
              show Value.tuple #[.int .u64 (bits BinOp.or IntKind.u64 (↑n) (IntKind.u64.wrap (↑c.toNat % 128 * 2 ^ (7 * k)))), .string (s.extract (k + 1) s.size), .int .i64 0] = _
              rw [e1, hor.out, drop_bytes, hd.out]; rfl
          · have hor := Hd.mk (or_hi n k (c.toNat % 128) (by omega) HN.out (by have := hx.out; omega))
            go_wp2_with fail
            go_roundg (gk - 1)
            case measure => have := HK.out; omega
            case rel => exact ⟨k + 1, n + c.toNat % 128 * 2 ^ (7 * k), by omega, by omega, by rw [← hor.out]; simp, rfl, ⟨by have := HK.out; omega⟩, ⟨by rw [hd.out, ← HT.out, HC.out, tk_more (by omega) hc]⟩, ⟨by have h1 := HN.out; have h2 : c.toNat % 128 * 2 ^ (7 * k) ≤ 127 * 2 ^ (7 * k) := Nat.mul_le_mul_right _ (by omega); rw [show 7 * (k + 1) = 7 * k + 7 from by omega, Nat.pow_add]; omega⟩, HB⟩
    · go_wp2_with fail
      (try rw [Exit.noGoto_ret])
      go_ret3
      have e : s.data.toList.drop k = [] := List.drop_eq_nil_of_le (by simp; omega)
      exact ⟨by rw [← HT.out, e]; rfl, HB.out⟩
end Go.Proofs.Ytfcopeecgbgljaa
