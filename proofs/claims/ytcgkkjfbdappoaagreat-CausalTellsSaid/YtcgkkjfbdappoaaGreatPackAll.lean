/- Texts that belong together, in one. -/
import Derived.Laws.BitsLemmas
import Derived.Laws.BytesArg
import Derived.Test.YtcgkkjfbdappoaaGreatBase
import Derived.Lib.Strings
/- Plain numbers: the bytes of a number in sevens of bits, the zigzag of a number that may be below 0, and what is taken back from bytes. No program in sight. -/
namespace Go.Proofs.YtcgkkjfbdappoaaGreat.Pk

theorem wrap_u64 (n : Int) : IntKind.u64.wrap n = n % 18446744073709551616 := by simp [IntKind.wrap, IntKind.bits, IntKind.signed]

/-- The bytes of a number: sevens of bits, the lowest first, 128 more in each but the last. -/
def num (n : Nat) : List Int :=
  if h : n < 128 then [(n : Int)] else ((n % 128 + 128 : Nat) : Int) :: num (n / 128)
termination_by n
decreasing_by omega

theorem num_small {n : Nat} (h : n < 128) : num n = [(n : Int)] := by rw [num, dif_pos h]
theorem num_big {n : Nat} (h : ¬ n < 128) : num n = ((n % 128 + 128 : Nat) : Int) :: num (n / 128) := by rw [num, dif_neg h]

/-- How many bytes a number has. -/
theorem num_len (d : Nat) : ∀ n : Nat, n < 128 ^ (d + 1) → 1 ≤ (num n).length ∧ (num n).length ≤ d + 1 := by
  induction d with
  | zero => intro n h; rw [num_small (by omega)]; simp
  | succ d ih =>
    intro n h
    by_cases hn : n < 128
    · rw [num_small hn]; simp
    · rw [num_big hn]
      have h2 : n / 128 < 128 ^ (d + 1) := by
        rw [Nat.div_lt_iff_lt_mul (by decide)]
        rw [Nat.pow_succ] at h; exact h
      have := ih (n / 128) h2
      simp only [List.length_cons]; omega

theorem num_len10 {n : Nat} (h : n < 18446744073709551616) : 1 ≤ (num n).length ∧ (num n).length ≤ 10 :=
  num_len 9 n (by omega)

/-- `x | 128` of a byte. -/
theorem or128 {x : Int} (h0 : 0 ≤ x) (h1 : x < 256) : bits .or .u8 x 128 = x % 128 + 128 := by
  obtain ⟨a, rfl⟩ := Int.eq_ofNat_of_zero_le h0
  have ha : a < 2 ^ 8 := by omega
  have := (bits_nat .u8 8 (by decide) wraps_u8 a 128 ha (by decide)).2
  rw [show ((128 : Int)) = ((128 : Nat) : Int) from rfl, this]
  have h2 : a ||| 128 = a % 128 + 128 := by
    have key : ∀ b : Fin 256, (b.val ||| 128) = b.val % 128 + 128 := by decide +kernel
    exact key ⟨a, by omega⟩
  rw [h2]; omega

/-- The zigzag of a number that may be below 0. -/
def zig (n : Int) : Nat := if 0 ≤ n then (2 * n).toNat else (-2 * n - 1).toNat

theorem bits_xor_nat (k : IntKind) (hk : ∀ n : Int, 0 ≤ n → n < 2 ^ k.bits → k.wrap n = n) (a b : Nat) (ha : a < 2 ^ k.bits) (hb : b < 2 ^ k.bits) :
    bits .xor k a b = ((a ^^^ b : Nat) : Int) := by
  have ha' : a % 2 ^ k.bits = a := Nat.mod_eq_of_lt ha
  have hb' : b % 2 ^ k.bits = b := Nat.mod_eq_of_lt hb
  have cast : ∀ n : Nat, n < 2 ^ k.bits → ((n : Nat) : Int) < 2 ^ k.bits := fun n h => by exact_mod_cast h
  simp only [bits, BitVec.ofInt_natCast, BitVec.toNat_xor, BitVec.toNat_ofNat, ha', hb']
  exact hk _ (Int.natCast_nonneg _) (cast _ (Nat.xor_lt_two_pow ha hb))

theorem wraps_u64 (n : Int) (h₀ : 0 ≤ n) (h₁ : n < 2 ^ IntKind.u64.bits) : IntKind.u64.wrap n = n := by
  rw [wrap_u64]; have : (2 : Int) ^ IntKind.u64.bits = 18446744073709551616 := by decide
  omega

theorem nat_xor_ones (a : Nat) (h : a < 2 ^ 64) : a ^^^ 18446744073709551615 = 18446744073709551615 - a := by
  have e : (BitVec.ofNat 64 a ^^^ BitVec.allOnes 64) = ~~~ (BitVec.ofNat 64 a) := BitVec.xor_allOnes
  have e2 := congrArg BitVec.toNat e
  rw [BitVec.toNat_xor, BitVec.toNat_not, BitVec.toNat_ofNat, Nat.mod_eq_of_lt h, BitVec.toNat_allOnes] at e2
  exact e2

theorem xor_zero64 {x : Int} (h0 : 0 ≤ x) (h1 : x < 18446744073709551616) : bits .xor .u64 x 0 = x := by
  obtain ⟨a, rfl⟩ := Int.eq_ofNat_of_zero_le h0
  have ha : a < 2 ^ IntKind.u64.bits := by show a < 2 ^ 64; omega
  have := bits_xor_nat .u64 wraps_u64 a 0 ha (by decide)
  rw [Nat.xor_zero] at this
  exact this

theorem xor_ones64 {x : Int} (h0 : 0 ≤ x) (h1 : x < 18446744073709551616) : bits .xor .u64 x 18446744073709551615 = 18446744073709551615 - x := by
  obtain ⟨a, rfl⟩ := Int.eq_ofNat_of_zero_le h0
  have ha : a < 2 ^ 64 := by omega
  have := bits_xor_nat .u64 wraps_u64 a 18446744073709551615 ha (by decide)
  rw [nat_xor_ones a ha] at this
  have e : ((18446744073709551615 : Nat) : Int) = 18446744073709551615 := rfl
  rw [e] at this
  rw [this]; omega

theorem zig_bits {n : Int} (h0 : -9223372036854775808 ≤ n) (h1 : n ≤ 9223372036854775807) :
    bits .xor .u64 (IntKind.u64.wrap ((IntKind.u64.wrap n) * 2)) (IntKind.u64.wrap (n / 9223372036854775808)) = (zig n : Int) := by
  unfold zig
  by_cases h : 0 ≤ n
  · have e : IntKind.u64.wrap (n / 9223372036854775808) = 0 := by
      rw [wrap_u64]; have : n / 9223372036854775808 = 0 := by omega
      rw [this]; rfl
    rw [e, xor_zero64 (by rw [wrap_u64]; omega) (by rw [wrap_u64]; omega), if_pos h]
    simp only [wrap_u64]; omega
  · have e : IntKind.u64.wrap (n / 9223372036854775808) = 18446744073709551615 := by
      rw [wrap_u64]; have : n / 9223372036854775808 = -1 := by omega
      rw [this]; rfl
    rw [e, xor_ones64 (by rw [wrap_u64]; omega) (by rw [wrap_u64]; omega), if_neg h]
    simp only [wrap_u64]; omega

theorem zig_lt {n : Int} (h0 : -9223372036854775808 ≤ n) (h1 : n ≤ 9223372036854775807) : zig n < 18446744073709551616 := by
  unfold zig; split <;> omega

theorem bits_or_nat (a b : Nat) (ha : a < 2 ^ 64) (hb : b < 2 ^ 64) : bits .or .u64 (a : Int) (b : Int) = ((a ||| b : Nat) : Int) :=
  (bits_nat .u64 64 (by decide) (fun n h0 h1 => wraps_u64 n h0 h1) a b ha hb).2

/-- Sevens of bits that are laid above what is there. -/
theorem or_hi (n k x : Nat) (hk : k ≤ 9) (hn : n < 2 ^ (7 * k)) (hx : x * 2 ^ (7 * k) < 18446744073709551616) :
    bits .or .u64 (n : Int) (IntKind.u64.wrap ((x : Int) * 2 ^ (7 * k))) = ((n + x * 2 ^ (7 * k) : Nat) : Int) := by
  have e : ((x : Int) * 2 ^ (7 * k)) = ((x * 2 ^ (7 * k) : Nat) : Int) := by simp
  have e2 : IntKind.u64.wrap ((x * 2 ^ (7 * k) : Nat) : Int) = ((x * 2 ^ (7 * k) : Nat) : Int) := by rw [wrap_u64]; omega
  have hp : 2 ^ (7 * k) ≤ 2 ^ 63 := Nat.pow_le_pow_right (by decide) (by omega)
  rw [e, e2, bits_or_nat n _ (by omega) (by omega), Nat.or_comm, Nat.mul_comm x, ← Nat.two_pow_add_eq_or_of_lt hn x, Nat.add_comm]

theorem or_zero (n : Nat) (h : n < 2 ^ 64) : bits .or .u64 (n : Int) 0 = (n : Int) := by
  have := bits_or_nat n 0 h (by decide)
  rw [Nat.or_zero] at this
  exact this

theorem drop_bytes (s : ByteArray) (j : Nat) : s.extract j s.size = ⟨(s.data.toList.drop j).toArray⟩ := by
  apply ByteArray.ext
  rw [ByteArray.data_extract]
  apply Array.toList_inj.1
  rw [Array.toList_extract, List.extract_eq_take_drop]
  have h : s.size - j = (s.data.toList.drop j).length := by rw [List.length_drop]; rfl
  rw [h, List.take_length]

theorem take_bytes (s : ByteArray) (j : Nat) : s.extract 0 j = ⟨(s.data.toList.take j).toArray⟩ := by
  apply ByteArray.ext
  rw [ByteArray.data_extract]
  apply Array.toList_inj.1
  rw [Array.toList_extract, List.extract_eq_take_drop]; rfl

theorem drop_next {l t : List UInt8} {k : Nat} {c : UInt8} (h : l.drop k = c :: t) : l.drop (k + 1) = t := by
  rw [← List.drop_drop, h]; rfl

/-- What a string begins with: from its k-th byte on, of which n is behind. -/
def tk : List UInt8 → Nat → Nat → Option (Nat × List UInt8)
  | [], _, _ => none
  | c :: t, k, n => if 9 < k ∨ (k = 9 ∧ 2 ≤ c.toNat) then none else if c.toNat < 128 then (if c.toNat = 0 ∧ 0 < k then none else some (n + c.toNat * 2 ^ (7 * k), t)) else tk t (k + 1) (n + c.toNat % 128 * 2 ^ (7 * k))

theorem tk_err {c : UInt8} {t : List UInt8} {k n : Nat} (h : 9 < k ∨ (k = 9 ∧ 2 ≤ c.toNat)) : tk (c :: t) k n = none := by
  rw [tk, if_pos h]
theorem tk_zero {c : UInt8} {t : List UInt8} {k n : Nat} (h : ¬ (9 < k ∨ (k = 9 ∧ 2 ≤ c.toNat))) (hc : c.toNat = 0) (hk : 0 < k) : tk (c :: t) k n = none := by
  rw [tk, if_neg h, if_pos (by omega), if_pos ⟨hc, hk⟩]
theorem tk_end {c : UInt8} {t : List UInt8} {k n : Nat} (h : ¬ (9 < k ∨ (k = 9 ∧ 2 ≤ c.toNat))) (hc : c.toNat < 128) (hk : ¬ (c.toNat = 0 ∧ 0 < k)) : tk (c :: t) k n = some (n + c.toNat * 2 ^ (7 * k), t) := by
  rw [tk, if_neg h, if_pos hc, if_neg hk]
theorem tk_more {c : UInt8} {t : List UInt8} {k n : Nat} (h : ¬ (9 < k ∨ (k = 9 ∧ 2 ≤ c.toNat))) (hc : ¬ c.toNat < 128) : tk (c :: t) k n = tk t (k + 1) (n + c.toNat % 128 * 2 ^ (7 * k)) := by
  rw [tk, if_neg h, if_neg hc]

/-- The three results, as the machine has them. -/
def tnV : Option (Nat × List UInt8) → Value
  | none => .tuple #[.int .u64 0, .string ⟨#[]⟩, .int .i64 2]
  | some (n, r) => .tuple #[.int .u64 (n : Int), .string ⟨r.toArray⟩, .int .i64 0]

/-- The number that may be below 0, out of its zigzag. -/
def unzig (n : Nat) : Int := if n % 2 = 0 then ((n / 2 : Nat) : Int) else -((n / 2 : Nat) : Int) - 1

theorem zig_unzig (n : Nat) : zig (unzig n) = n := by unfold zig unzig; split <;> split <;> omega
theorem unzig_zig (n : Int) : unzig (zig n) = n := by unfold zig unzig; split <;> split <;> omega
theorem unzig_bd {n : Nat} (h : n < 18446744073709551616) : -9223372036854775808 ≤ unzig n ∧ unzig n ≤ 9223372036854775807 := by
  unfold unzig; split <;> omega

theorem i64_wrap (n : Int) : IntKind.i64.wrap n = (n + 9223372036854775808) % 18446744073709551616 - 9223372036854775808 := IntKind.wrap_i64 n

theorem and_one64 {x : Int} (h0 : 0 ≤ x) (h1 : x < 18446744073709551616) : bits .and .u64 x 1 = x % 2 := by
  have := bits_mask .u64 64 (by decide) (fun n h0 h1 => wraps_u64 n h0 h1) 1 (by decide) x h0 (by omega)
  simpa using this

theorem xor_i64_zero {x : Int} (h0 : 0 ≤ x) (h1 : x < 9223372036854775808) : bits .xor .i64 x 0 = x := by
  obtain ⟨a, rfl⟩ := Int.eq_ofNat_of_zero_le h0
  have e : (BitVec.ofInt 64 (a : Int) ^^^ 0#64) = BitVec.ofNat 64 a := by rw [BitVec.xor_zero, BitVec.ofInt_natCast]
  have : bits .xor .i64 (a : Int) 0 = IntKind.i64.wrap ((BitVec.ofInt 64 (a : Int) ^^^ 0#64).toNat : Int) := rfl
  rw [this, e, BitVec.toNat_ofNat, i64_wrap]; omega

theorem xor_i64_ones {x : Int} (h0 : 0 ≤ x) (h1 : x < 9223372036854775808) : bits .xor .i64 x (-1) = -x - 1 := by
  obtain ⟨a, rfl⟩ := Int.eq_ofNat_of_zero_le h0
  have e : (BitVec.ofInt 64 (a : Int) ^^^ BitVec.allOnes 64) = ~~~ (BitVec.ofNat 64 a) := by rw [BitVec.xor_allOnes, BitVec.ofInt_natCast]
  have : bits .xor .i64 (a : Int) (-1) = IntKind.i64.wrap ((BitVec.ofInt 64 (a : Int) ^^^ BitVec.allOnes 64).toNat : Int) := rfl
  rw [this, e, BitVec.toNat_not, BitVec.toNat_ofNat, i64_wrap]; omega

theorem unzig_bits {n : Nat} (h : n < 18446744073709551616) : bits .xor .i64 ((n : Int) / 2) (-((n : Int) % 2)) = unzig n := by
  unfold unzig
  by_cases hn : n % 2 = 0
  · rw [if_pos hn, show -((n : Int) % 2) = 0 from by omega, xor_i64_zero (by omega) (by omega)]; omega
  · rw [if_neg hn, show -((n : Int) % 2) = -1 from by omega, xor_i64_ones (by omega) (by omega)]; omega

/-- The three results of a number that may be below 0. -/
def tiV : Option (Nat × List UInt8) → Value
  | none => .tuple #[.int .i64 0, .string ⟨#[]⟩, .int .i64 2]
  | some (n, r) => .tuple #[.int .i64 (unzig n), .string ⟨r.toArray⟩, .int .i64 0]

/-- What a string begins with is a number of 64 bits. -/
theorem tk_bd : ∀ (l : List UInt8) (k n m : Nat) (r : List UInt8), n < 2 ^ (7 * k) → k ≤ 9 → tk l k n = some (m, r) → m < 18446744073709551616
  | [], k, n, m, r, _, _, h => by simp [tk] at h
  | c :: t, k, n, m, r, hn, hk, h => by
    have hc := c.toNat_lt
    have hp : 2 ^ (7 * k) ≤ 2 ^ (7 * 9) := Nat.pow_le_pow_right (by decide) (by omega)
    unfold tk at h
    split at h
    · exact absurd h (by simp)
    · rename_i h1
      split at h
      · split at h
        · exact absurd h (by simp)
        · simp only [Option.some.injEq, Prod.mk.injEq] at h
          rw [← h.1]
          by_cases h9 : k = 9
          · subst h9
            have : c.toNat < 2 := by omega
            have : c.toNat * 2 ^ (7 * 9) ≤ 1 * 2 ^ (7 * 9) := Nat.mul_le_mul_right _ (by omega)
            omega
          · have hp : 2 ^ (7 * k) ≤ 2 ^ (7 * 8) := Nat.pow_le_pow_right (by decide) (by omega)
            have : c.toNat * 2 ^ (7 * k) ≤ 127 * 2 ^ (7 * 8) := Nat.mul_le_mul (by omega) hp
            omega
      · have h9 : k ≤ 8 := by omega
        refine tk_bd t (k + 1) _ m r ?_ (by omega) h
        have h2 : c.toNat % 128 * 2 ^ (7 * k) ≤ 127 * 2 ^ (7 * k) := Nat.mul_le_mul_right _ (by omega)
        rw [show 7 * (k + 1) = 7 * k + 7 from by omega, Nat.pow_add]; omega

/-- The text with which a string begins. -/
def tx (most : Int) : Option (Nat × List UInt8) → Option (List UInt8 × List UInt8)
  | none => none
  | some (n, r) => if most < 0 ∨ most < n ∨ r.length < n then none else some (r.take n, r.drop n)
def txV : Option (List UInt8 × List UInt8) → Value
  | none => .tuple #[.string ⟨#[]⟩, .string ⟨#[]⟩, .int .i64 2]
  | some (a, b) => .tuple #[.string ⟨a.toArray⟩, .string ⟨b.toArray⟩, .int .i64 0]

theorem tk_len : ∀ (l : List UInt8) (k n m : Nat) (r : List UInt8), tk l k n = some (m, r) → r.length < l.length
  | [], k, n, m, r, h => by simp [tk] at h
  | c :: t, k, n, m, r, h => by
    unfold tk at h
    split at h
    · exact absurd h (by simp)
    · split at h
      · split at h
        · exact absurd h (by simp)
        · simp only [Option.some.injEq, Prod.mk.injEq] at h
          rw [← h.2]; simp
      · have := tk_len t _ _ m r h
        simp only [List.length_cons]; omega

theorem size_of (l : List UInt8) : (⟨l.toArray⟩ : ByteArray).size = l.length := by simp [ByteArray.size]

end Go.Proofs.YtcgkkjfbdappoaaGreat.Pk

/- pack.Num and pack.Int tell the bytes of a number: their contracts. -/
namespace Go.Proofs.YtcgkkjfbdappoaaGreat
open Go.RowKit Go.Proofs.YtcgkkjfbdappoaaGreatW.PrintWords Go.Proofs.YtcgkkjfbdappoaaGreatW.PrintLast Go.Proofs.YtcgkkjfbdappoaaGreatW.PrintMore Pk
set_option linter.unusedVariables false
set_option linter.unusedSimpArgs false

theorem num_pos (n : Nat) : 0 < (num n).length := by rw [num]; split <;> simp

set_option maxHeartbeats 1000000 in
theorem pack_Num (n : Nat) (hn : Hd (n < 18446744073709551616)) (w : World) :
    Calls Tryz.prog 81 #[.int .u64 (n : Int)] w fun e w' => e = .returned (.string (strOfNums (num n))) ∧ Below w.heap.size w w' := by
  have HB0 := Hd.mk (Below.refl w.heap.size w)
  go_enter Tryz.func81, Tryz.ntmps81
  go_wp2
  go_loopg [0, 3] (num n).length (fun kq v0 v3 w' => ∃ (m : Nat) (xs : List Int), v0 = .int .u64 (m : Int) ∧ Hd (m < 18446744073709551616) ∧ Hd (xs ++ num m = num n) ∧ Hd ((num m).length = kq) ∧ Hd (Kd.R (Kd.int .u8) 5 w' w.heap.size (fun _ => True) v3 xs) ∧ Hd (Below w.heap.size w w'))
  case atStart => exact ⟨n, [], rfl, hn, ⟨rfl⟩, ⟨rfl⟩, ⟨Kd.R_nil _ _ _ _ _⟩, HB0⟩
  case round =>
    clear HB0
    obtain ⟨m, xs, rfl, Hm, HX, HK, HO, HB⟩ := hrel
    have hlen : Hd (xs.length + (num m).length ≤ 10) := ⟨by have h1 := congrArg List.length HX.out; rw [List.length_append] at h1; have := (num_len10 hn.out).2; omega⟩
    by_cases c : m < 128
    · have cb : decide ((128 : Int) ≤ (m : Int)) = false := by simp; omega
      go_wp2_with (first | ((with_reducible refine gate_builtin (b := .append) (xs := #[.tmp 14, .tmp 17]) rfl ?_); at_builtin; refine Kd.R_append (Kd.int .u8) (w0 := w) w.heap.size rfl (.tmp 14) (.tmp 17) 24 5 (.int .u8 0) 1 rfl Tryz.underlying24 info_u8 rfl (by decide) (by omega) u3 xs ((m : Int)) [.int .u8 ((m : Int))] (fun _ => True) (fun _ => False) rfl rfl ?aP (fun _ hk => hk.elim) ?aF ?aO ?aB ?aS ?aL ?_; (case aP => exact rfl); (case aB => exact (by repeat (first | (with_reducible first | exact HB.out | apply below_alloc | apply pw_below_drewN | apply below_drew1) | exact HB.out))); (case aF => exact (fun _ _ => trivial)); (case aO => exact (by (with_reducible repeat (first | apply Kd.R_alloc | apply Kd.R_drewN | apply Kd.R_drew)); exact HO.out)); (case aS => exact (below_size (by repeat (first | (with_reducible first | exact HB.out | apply below_alloc | apply pw_below_drewN | apply below_drew1) | exact HB.out)))); (case aL => have := hlen.out; omega); intro v105 w6 ho hb hg hat; have HB2 := Hd.mk hb; have HO2 := Hd.mk ho; clear HB HO; clear ho hb hg hat; have hcv7 := own_string (P := Tryz.prog) Tryz.underlying24 Tryz.underlying5 Tryz.underlying9 (Kd.own_of_R HO2.out)))
      go_ret
      refine ⟨?_, HB2.out⟩
      have e : xs ++ [(m : Int)] = num n := by rw [← HX.out, num_small c]
      rw [e]; rfl
    · have cb : decide ((128 : Int) ≤ (m : Int)) = true := by simp; omega
      have hl := num_pos (m / 128)
      go_wp2_with (first | ((with_reducible refine gate_builtin (b := .append) (xs := #[.tmp 8, .tmp 12]) rfl ?_); at_builtin; refine Kd.R_append (Kd.int .u8) (w0 := w) w.heap.size rfl (.tmp 8) (.tmp 12) 24 5 (.int .u8 0) 1 rfl Tryz.underlying24 info_u8 rfl (by decide) (by omega) u3 xs (Go.bits .or .u8 ((m : Int) % 256) 128) [.int .u8 (Go.bits .or .u8 ((m : Int) % 256) 128)] (fun _ => True) (fun _ => False) rfl rfl ?aP (fun _ hk => hk.elim) ?aF ?aO ?aB ?aS ?aL ?_; (case aP => exact rfl); (case aB => exact (by repeat (first | (with_reducible first | exact HB.out | apply below_alloc | apply pw_below_drewN | apply below_drew1) | exact HB.out))); (case aF => exact (fun _ _ => trivial)); (case aO => exact (by (with_reducible repeat (first | apply Kd.R_alloc | apply Kd.R_drewN | apply Kd.R_drew)); exact HO.out)); (case aS => exact (below_size (by repeat (first | (with_reducible first | exact HB.out | apply below_alloc | apply pw_below_drewN | apply below_drew1) | exact HB.out)))); (case aL => have := hlen.out; omega); intro v105 w6 ho hb hg hat; have HB2 := Hd.mk hb; have HO2 := Hd.mk ho; clear HB HO; clear ho hb hg hat))
      go_roundg (num (m / 128)).length
      case measure => have := HK.out; rw [num_big c] at this; simp only [List.length_cons] at this; omega
      case rel => exact ⟨m / 128, xs ++ [Go.bits .or .u8 ((m : Int) % 256) 128], by congr 1, ⟨by have := Hm.out; omega⟩, ⟨by rw [← HX.out, num_big c, or128 (by omega) (by omega), show ((m : Int) % 256 % 128 + 128) = ((m % 128 + 128 : Nat) : Int) from by omega]; simp⟩, ⟨rfl⟩, HO2, HB2⟩

theorem pack_Int (n : Int) (h0 : -9223372036854775808 ≤ n) (h1 : n ≤ 9223372036854775807) (w : World) :
    Calls Tryz.prog 48 #[.int .i64 n] w fun e w' => e = .returned (.string (strOfNums (num (zig n)))) ∧ Below w.heap.size w w' := by
  have hz := Hd.mk (zig_bits h0 h1)
  have hl := Hd.mk (zig_lt h0 h1)
  clear h0 h1
  go_enter Tryz.func48, Tryz.ntmps48
  go_wp2_with (go_at_call 81; rw [hz.out]; refine (pack_Num _ ⟨hl.out⟩ _).mono ?_; rintro e w1 ⟨rfl, hb⟩)
  go_ret
  exact ⟨rfl, hb⟩
end Go.Proofs.YtcgkkjfbdappoaaGreat

/- pack.TakeNum, TakeInt and TakeText tell what a string begins with: their contracts. -/
namespace Go.Proofs.YtcgkkjfbdappoaaGreat
open Go.RowKit Go.Proofs.YtcgkkjfbdappoaaGreatW.PrintWords Go.Proofs.YtcgkkjfbdappoaaGreatW.PrintLast Go.Proofs.YtcgkkjfbdappoaaGreatW.PrintMore Pk
set_option linter.unusedVariables false
set_option linter.unusedSimpArgs false

set_option maxHeartbeats 1000000 in
set_option maxRecDepth 100000 in
theorem pack_TakeNum (s : ByteArray) (hs : s.size ≤ maxLen) (w : World) :
    Calls Tryz.prog 68 #[.string s] w fun e w' => e = .returned (tnV (tk s.data.toList 0 0)) ∧ Below w.heap.size w w' := by
  unfold maxLen at hs
  go_enter Tryz.func68, Tryz.ntmps68
  go_wp2
  go_step3
  go_wp2
  go_step3
  go_wp2
  go_loopg [5, 10] (s.size) (fun kq v5 v10 w' => ∃ (k n : Nat), k ≤ s.size ∧ k ≤ 10 ∧ v5 = .int .u64 (n : Int) ∧ v10 = .int .i64 (k : Int) ∧ Hd (kq + k = s.size) ∧ Hd (tk (s.data.toList.drop k) k n = tk s.data.toList 0 0) ∧ Hd (n < 2 ^ (7 * k)) ∧ Hd (Below w.heap.size w w'))
  case atStart => exact ⟨0, 0, by omega, by omega, rfl, rfl, ⟨by omega⟩, ⟨rfl⟩, ⟨by simp⟩, ⟨Below.refl _ _⟩⟩
  case round =>
    obtain ⟨k, n, hk, hk9, rfl, rfl, HK, HT, HN, HB⟩ := hrel
    by_cases hlt : k < s.size
    · obtain ⟨c, t, hct⟩ : ∃ (c : UInt8) (t : List UInt8), s.data.toList.drop k = c :: t := by
        have : k < s.data.toList.length := by simpa using hlt
        exact ⟨_, _, List.drop_eq_getElem_cons this⟩
      have hcs : s[k] = c := by
        have h1 : k < s.data.toList.length := by simpa using hlt
        rw [List.drop_eq_getElem_cons h1] at hct
        exact (List.cons.inj hct).1
      have HC := Hd.mk hct
      clear hct
      have hc256 : c.toNat < 256 := c.toNat_lt
      have hd := Hd.mk (drop_next HC.out)
      by_cases h10 : k = 10
      · obtain rfl := h10
        go_wp2_with fail
        (try rw [Exit.noGoto_ret])
        go_ret3
        exact ⟨by rw [← HT.out, HC.out, tk_err (by omega)]; rfl, HB.out⟩
      · by_cases h9 : k = 9
        · obtain rfl := h9
          by_cases h2 : 2 ≤ c.toNat
          · have hb : ((c.toNat : Int) / 2 != 0) = true := by simp; omega
            go_wp2_with fail
            (try rw [Exit.noGoto_ret])
            go_ret3
            exact ⟨by rw [← HT.out, HC.out, tk_err (by omega)]; rfl, HB.out⟩
          · have hb : ((c.toNat : Int) / 2 != 0) = false := by simp; omega
            by_cases h0 : c.toNat = 0
            · have h0b : ((c.toNat : Int) == 0) = true := by simp; omega
              go_wp2_with fail
              (try rw [Exit.noGoto_ret])
              go_ret3
              exact ⟨by rw [← HT.out, HC.out, tk_zero (by omega) h0 (by omega)]; rfl, HB.out⟩
            · have h0b : ((c.toNat : Int) == 0) = false := by simp; omega
              have hor := Hd.mk (or_hi n 9 c.toNat (by omega) HN.out (by omega))
              go_wp2_with fail
              go_quiet (fail)
              go_wp2
              (try rw [Exit.noGoto_ret])
              go_ret3
              refine ⟨?_, by repeat (first | (with_reducible first | exact HB.out | apply below_alloc | apply pw_below_drewN | apply below_drew1) | exact HB.out)⟩
              rw [← HT.out, HC.out, tk_end (by omega) (by omega) (by omega)]
              have e1 : (c.toNat : Int) % 128 * 9223372036854775808 = IntKind.u64.wrap ((c.toNat : Int) * 2 ^ (7 * 9)) := by rw [wrap_u64]; omega
              have e2 := hor.out
              rw [← e1] at e2
              refine congrArg Ending.returned ?_
              show Value.tuple #[.int .u64 (bits BinOp.or IntKind.u64 (↑n) (↑c.toNat % 128 * 9223372036854775808)), .string (s.extract 10 s.size), .int .i64 0] = _
              rw [e2, drop_bytes, hd.out]; rfl
        · have h8 : k ≤ 8 := by omega
          have hp : Hd (2 ^ (7 * k) ≤ 2 ^ 56) := ⟨Nat.pow_le_pow_right (by decide) (by omega)⟩
          have hx : Hd (c.toNat % 128 * 2 ^ (7 * k) < 9223372036854775808) := ⟨by
            have h2 : c.toNat % 128 * 2 ^ (7 * k) ≤ 127 * 2 ^ 56 := Nat.mul_le_mul (by omega) hp.out
            omega⟩
          clear h9 h10 hk9
          by_cases hc : c.toNat < 128
          · have hor := Hd.mk (or_hi n k c.toNat (by omega) HN.out (by have := hx.out; rw [Nat.mod_eq_of_lt hc] at this; omega))
            by_cases h0 : c.toNat = 0
            · have h0b : ((c.toNat : Int) == 0) = true := by simp; omega
              by_cases hk0 : 0 < k
              · go_wp2_with fail
                (try rw [Exit.noGoto_ret])
                go_ret3
                exact ⟨by rw [← HT.out, HC.out, tk_zero (by omega) h0 hk0]; rfl, HB.out⟩
              · go_wp2_with fail
                go_quiet (fail)
                go_wp2
                (try rw [Exit.noGoto_ret])
                go_ret3
                refine ⟨?_, by repeat (first | (with_reducible first | exact HB.out | apply below_alloc | apply pw_below_drewN | apply below_drew1) | exact HB.out)⟩
                rw [← HT.out, HC.out, tk_end (by omega) (by omega) (by omega)]
                refine congrArg Ending.returned ?_
                show Value.tuple #[.int .u64 (bits BinOp.or IntKind.u64 (↑n) 0), .string (s.extract (k + 1) s.size), .int .i64 0] = _
                have hk1 : k = 0 := by omega
                have hn1 : n < 2 ^ 64 := by have := HN.out; rw [hk1] at this; omega
                rw [or_zero n hn1, drop_bytes, hd.out, h0]; simp [tnV]
            · have h0b : ((c.toNat : Int) == 0) = false := by simp; omega
              go_wp2_with fail
              go_quiet (fail)
              go_wp2
              (try rw [Exit.noGoto_ret])
              go_ret3
              refine ⟨?_, by repeat (first | (with_reducible first | exact HB.out | apply below_alloc | apply pw_below_drewN | apply below_drew1) | exact HB.out)⟩
              rw [← HT.out, HC.out, tk_end (by omega) (by omega) (by omega)]
              have e1 : (c.toNat : Int) % 128 = (c.toNat : Int) := by omega
              refine congrArg Ending.returned ?_
              show Value.tuple #[.int .u64 (bits BinOp.or IntKind.u64 (↑n) (IntKind.u64.wrap (↑c.toNat % 128 * 2 ^ (7 * k)))), .string (s.extract (k + 1) s.size), .int .i64 0] = _
              rw [e1, hor.out, drop_bytes, hd.out]; rfl
          · have hor := Hd.mk (or_hi n k (c.toNat % 128) (by omega) HN.out (by have := hx.out; omega))
            go_wp2_with fail
            go_roundg (gk - 1)
            case measure => have := HK.out; omega
            case rel => exact ⟨k + 1, n + c.toNat % 128 * 2 ^ (7 * k), by omega, by omega, by rw [← hor.out]; simp, rfl, ⟨by have := HK.out; omega⟩, ⟨by rw [hd.out, ← HT.out, HC.out, tk_more (by omega) hc]⟩, ⟨by have h1 := HN.out; have h2 : c.toNat % 128 * 2 ^ (7 * k) ≤ 127 * 2 ^ (7 * k) := Nat.mul_le_mul_right _ (by omega); rw [show 7 * (k + 1) = 7 * k + 7 from by omega, Nat.pow_add]; omega⟩, HB⟩
    · go_wp2_with fail
      (try rw [Exit.noGoto_ret])
      go_ret3
      have e : s.data.toList.drop k = [] := List.drop_eq_nil_of_le (by simp; omega)
      exact ⟨by rw [← HT.out, e]; rfl, HB.out⟩
end Go.Proofs.YtcgkkjfbdappoaaGreat

/- pack.Text, TakeInt and TakeText: their contracts. -/
namespace Go.Proofs.YtcgkkjfbdappoaaGreat
open Go.RowKit Go.Proofs.YtcgkkjfbdappoaaGreatW.PrintWords Go.Proofs.YtcgkkjfbdappoaaGreatW.PrintLast Go.Proofs.YtcgkkjfbdappoaaGreatW.PrintMore Pk
set_option linter.unusedVariables false
set_option linter.unusedSimpArgs false

theorem pack_Text (t : ByteArray) (ht : t.size ≤ 140737488355328) (w : World) :
    Calls Tryz.prog 83 #[.string t] w fun e w' => e = .returned (.string (strOfNums (num t.size) ++ t)) ∧ Below w.heap.size w w' := by
  have hl := (num_len10 (n := t.size) (by omega)).2
  have hz : (strOfNums (num t.size)).size ≤ 10 := by rw [strOfNums_size]; exact hl
  have hs : (strOfNums (num t.size)).size + t.size ≤ 9223372036854775807 := by omega
  have hlt : Hd (t.size < 18446744073709551616) := ⟨by omega⟩
  go_enter Tryz.func83, Tryz.ntmps83
  go_wp2_with (go_at_call 81; refine (pack_Num _ hlt _).mono ?_; rintro e w1 ⟨rfl, hb⟩)
  go_ret
  exact ⟨rfl, hb⟩
theorem unzig_walk {n : Nat} (h : n < 18446744073709551616) : bits BinOp.xor IntKind.i64 (wrap64 ((n : Int) / 2)) (wrap64 (-wrap64 (bits BinOp.and IntKind.u64 (n : Int) 1))) = unzig n := by
  rw [and_one64 (x := n) (by omega) (by omega)]
  have e1 : wrap64 ((n : Int) / 2) = (n : Int) / 2 := by unfold wrap64; omega
  have e2 : wrap64 (-wrap64 ((n : Int) % 2)) = -((n : Int) % 2) := by
    have : wrap64 ((n : Int) % 2) = (n : Int) % 2 := by unfold wrap64; omega
    rw [this]; unfold wrap64; omega
  rw [e1, e2, unzig_bits h]

theorem pack_TakeInt (s : ByteArray) (hs : s.size ≤ maxLen) (w : World) :
    Calls Tryz.prog 41 #[.string s] w fun e w' => e = .returned (tiV (tk s.data.toList 0 0)) ∧ Below w.heap.size w w' := by
  have H := pack_TakeNum s hs
  cases hT : tk s.data.toList 0 0 with
  | none =>
    rw [hT] at H
    simp only [tnV] at H
    have H' := Hd.mk H
    clear H hT
    go_enter Tryz.func41, Tryz.ntmps41
    have e0 := xor_i64_zero (x := 0) (by decide) (by decide)
    have e1 := and_one64 (x := 0) (by decide) (by decide)
    go_wp2_with (go_at_call 68; refine (H'.out _).mono ?_; rintro e w1 ⟨rfl, hb⟩)
    go_ret3
    exact ⟨rfl, hb⟩
  | some p =>
    obtain ⟨n, r⟩ := p
    have hbd := Hd.mk (tk_bd _ _ _ _ _ (by decide) (by decide) hT)
    rw [hT] at H
    simp only [tnV] at H
    have H' := Hd.mk H
    clear H hT
    have hu := Hd.mk (unzig_walk hbd.out)
    go_enter Tryz.func41, Tryz.ntmps41
    go_wp2_with (go_at_call 68; refine (H'.out _).mono ?_; rintro e w1 ⟨rfl, hb⟩)
    go_ret3
    refine ⟨congrArg Ending.returned ?_, hb⟩
    show Value.tuple #[.int .i64 (bits BinOp.xor IntKind.i64 (wrap64 ((n : Int) / 2)) (wrap64 (-wrap64 (bits BinOp.and IntKind.u64 (n : Int) 1)))), .string ⟨r.toArray⟩, .int .i64 0] = _
    rw [hu.out]; rfl

theorem pack_TakeText (s : ByteArray) (hs : s.size ≤ 140737488355328) (most : Int) (h0 : -9223372036854775808 ≤ most) (h1 : most ≤ 9223372036854775807) (w : World) :
    Calls Tryz.prog 97 #[.string s, .int .i64 most] w fun e w' => e = .returned (txV (tx most (tk s.data.toList 0 0))) ∧ Below w.heap.size w w' := by
  have H := pack_TakeNum s (by unfold maxLen; omega)
  cases hT : tk s.data.toList 0 0 with
  | none =>
    rw [hT] at H
    simp only [tnV] at H
    have H' := Hd.mk H
    clear H hT
    go_enter Tryz.func97, Tryz.ntmps97
    go_wp2_with (go_at_call 68; refine (H'.out _).mono ?_; rintro e w1 ⟨rfl, hb⟩)
    go_ret3
    exact ⟨rfl, hb⟩
  | some p =>
    obtain ⟨n, r⟩ := p
    have hbd := Hd.mk (tk_bd _ _ _ _ _ (by decide) (by decide) hT)
    have hrl := tk_len _ _ _ _ _ hT
    have hrs : (⟨r.toArray⟩ : ByteArray).size ≤ 140737488355328 := by
      rw [size_of]; have : s.data.toList.length = s.size := rfl; omega
    rw [hT] at H
    simp only [tnV] at H
    have H' := Hd.mk H
    have hn : Hd ((⟨r.toArray⟩ : ByteArray).size = r.length) := ⟨size_of r⟩
    obtain ⟨q, hq⟩ : ∃ q : ByteArray, q = ⟨r.toArray⟩ := ⟨_, rfl⟩
    rw [← hq] at hn hrs H'
    have HQ := Hd.mk hq
    clear H hT hrl hq
    by_cases hbad : most < 0 ∨ most < n ∨ r.length < n
    · have hv : Hd (tx most (some (n, r)) = none) := ⟨by show (if _ then _ else _) = _; rw [if_pos hbad]⟩
      rw [← hn.out] at hbad
      go_enter Tryz.func97, Tryz.ntmps97
      go_wp2_with (go_at_call 68; refine (H'.out _).mono ?_; rintro e w1 ⟨rfl, hb⟩)
      all_goals first | (exfalso; omega) | (go_ret3; exact ⟨by rw [hv.out]; rfl, hb⟩)
    · have hv : Hd (tx most (some (n, r)) = some (r.take n, r.drop n)) := ⟨by show (if _ then _ else _) = _; rw [if_neg hbad]⟩
      rw [← hn.out] at hbad
      have e1 : Hd (q.extract n q.size = ⟨(r.drop n).toArray⟩) := ⟨by rw [drop_bytes, HQ.out]⟩
      have e2 : Hd (q.extract 0 n = ⟨(r.take n).toArray⟩) := ⟨by rw [take_bytes, HQ.out]⟩
      have g1 : (n : Int) ≤ (q.size : Int) := by omega
      have g2 : 0 ≤ most := by omega
      have g3 : (n : Int) ≤ most := by omega
      have g4 : ¬ q.size < n := by omega
      clear hbad
      go_enter Tryz.func97, Tryz.ntmps97
      go_wp2_with (go_at_call 68; refine (H'.out _).mono ?_; rintro e w1 ⟨rfl, hb⟩)
      go_quiet (fail)
      go_wp2
      go_ret3
      refine ⟨congrArg Ending.returned ?_, by repeat (first | (with_reducible first | exact hb | apply below_alloc | apply pw_below_drewN | apply below_drew1) | exact hb)⟩
      show Value.tuple #[.string (q.extract 0 n), .string (q.extract n q.size), .int .i64 0] = _
      rw [hv.out, e1.out, e2.out]; rfl
end Go.Proofs.YtcgkkjfbdappoaaGreat

/- Plain laws of packing: what was packed is taken whatever stands behind, and what is taken has the very bytes. -/
namespace Go.Proofs.YtcgkkjfbdappoaaGreat.Pk

/-- A number's bytes. -/
def numB (n : Nat) : List UInt8 := (num n).map fun x => UInt8.ofNat x.toNat

theorem numB_small {n : Nat} (h : n < 128) : numB n = [UInt8.ofNat n] := by unfold numB; rw [num_small h]; rfl
theorem numB_big {n : Nat} (h : ¬ n < 128) : numB n = UInt8.ofNat (n % 128 + 128) :: numB (n / 128) := by unfold numB; rw [num_big h]; rfl
theorem numB_str (n : Nat) : strOfNums (num n) = ⟨(numB n).toArray⟩ := rfl
theorem numB_len (n : Nat) : (numB n).length = (num n).length := by unfold numB; rw [List.length_map]

theorem pow_step (m k : Nat) : m % 128 * 2 ^ (7 * k) + m / 128 * 2 ^ (7 * (k + 1)) = m * 2 ^ (7 * k) := by
  have e : 2 ^ (7 * (k + 1)) = 128 * 2 ^ (7 * k) := by rw [show 7 * (k + 1) = 7 + 7 * k from by omega, Nat.pow_add]
  rw [e, ← Nat.mul_assoc, ← Nat.add_mul]
  congr 1; omega

theorem tk_num (m : Nat) : ∀ (k acc : Nat) (r : List UInt8), k ≤ 9 → m * 2 ^ (7 * k) < 18446744073709551616 → (0 < k → 0 < m) →
    tk (numB m ++ r) k acc = some (acc + m * 2 ^ (7 * k), r) := by
  induction m using Nat.strongRecOn with
  | _ m ih =>
    intro k acc r hk hm h0
    have h9 : k = 9 → m < 2 := by rintro rfl; omega
    by_cases h : m < 128
    · have hc : (UInt8.ofNat m).toNat = m := by simp; omega
      rw [numB_small h]
      show tk (UInt8.ofNat m :: r) k acc = _
      rw [tk_end (by rw [hc]; omega) (by rw [hc]; exact h) (by rw [hc]; omega), hc]
    · have hc : (UInt8.ofNat (m % 128 + 128)).toNat = m % 128 + 128 := by simp; omega
      have h8 : k ≤ 8 := by
        apply Nat.le_of_not_lt; intro h8
        have := h9 (by omega); omega
      rw [numB_big h]
      show tk (UInt8.ofNat (m % 128 + 128) :: (numB (m / 128) ++ r)) k acc = _
      have hs := pow_step m k
      rw [tk_more (by rw [hc]; omega) (by rw [hc]; omega), hc, ih (m / 128) (by omega) (k + 1) _ r (by omega) (by omega) (by omega)]
      rw [show (m % 128 + 128) % 128 = m % 128 from by omega, Nat.add_assoc, hs]

theorem tk_back {n : Nat} (h : n < 18446744073709551616) (r : List UInt8) : tk (numB n ++ r) 0 0 = some (n, r) := by
  rw [tk_num n 0 0 r (by decide) (by omega) (by omega)]; simp

theorem tk_very : ∀ (l : List UInt8) (k acc v : Nat) (r : List UInt8), tk l k acc = some (v, r) → ∃ m, l = numB m ++ r ∧ v = acc + m * 2 ^ (7 * k) ∧ (0 < k → 0 < m)
  | [], k, acc, v, r, h => by simp [tk] at h
  | c :: t, k, acc, v, r, h => by
    have hc := c.toNat_lt
    unfold tk at h
    split at h
    · exact absurd h (by simp)
    · split at h
      · rename_i h2
        split at h
        · exact absurd h (by simp)
        · simp only [Option.some.injEq, Prod.mk.injEq] at h
          refine ⟨c.toNat, ?_, h.1.symm, by omega⟩
          rw [numB_small h2, ← h.2]; simp
      · rename_i h2
        obtain ⟨m, e1, e2, e3⟩ := tk_very t (k + 1) _ v r h
        have hm := e3 (by omega)
        refine ⟨c.toNat % 128 + 128 * m, ?_, ?_, by omega⟩
        · rw [numB_big (by omega), e1]
          rw [show (c.toNat % 128 + 128 * m) % 128 + 128 = c.toNat from by omega, show (c.toNat % 128 + 128 * m) / 128 = m from by omega]
          simp
        · rw [e2, ← pow_step (c.toNat % 128 + 128 * m) k]
          rw [show (c.toNat % 128 + 128 * m) % 128 = c.toNat % 128 from by omega, show (c.toNat % 128 + 128 * m) / 128 = m from by omega, Nat.add_assoc]

theorem tk_bytes {l : List UInt8} {n : Nat} {r : List UInt8} (h : tk l 0 0 = some (n, r)) : l = numB n ++ r := by
  obtain ⟨m, e1, e2, _⟩ := tk_very l 0 0 n r h
  have : n = m := by rw [e2]; simp
  rw [this]; exact e1

theorem bytes_eq {a : ByteArray} {l : List UInt8} (h : a.data.toList = l) : a = ⟨l.toArray⟩ := by
  subst h; rfl
theorem append_list (a b : ByteArray) : (a ++ b).data.toList = a.data.toList ++ b.data.toList := by simp
theorem mk_append (a b : List UInt8) : (⟨a.toArray⟩ : ByteArray) ++ ⟨b.toArray⟩ = ⟨(a ++ b).toArray⟩ := by
  apply ByteArray.ext; simp
theorem mk_toList (a : ByteArray) : (⟨a.data.toList.toArray⟩ : ByteArray) = a := rfl
theorem mk_list (l : List UInt8) : (⟨l.toArray⟩ : ByteArray).data.toList = l := rfl

/-- A number's bytes, and what is behind, as the machine has them. -/
theorem num_list (n : Nat) (s : ByteArray) : (strOfNums (num n) ++ s).data.toList = numB n ++ s.data.toList := by
  rw [append_list, numB_str]

end Go.Proofs.YtcgkkjfbdappoaaGreat.Pk

/- pack's contracts as its callers use them: what was packed, with something behind it. -/
namespace Go.Proofs.YtcgkkjfbdappoaaGreat
open Go.RowKit Go.Proofs.YtcgkkjfbdappoaaGreatW.PrintWords Go.Proofs.YtcgkkjfbdappoaaGreatW.PrintLast Go.Proofs.YtcgkkjfbdappoaaGreatW.PrintMore Pk
set_option linter.unusedVariables false
set_option linter.unusedSimpArgs false

theorem num_size {n : Nat} (h : n < 18446744073709551616) : (strOfNums (num n)).size ≤ 10 := by rw [strOfNums_size]; exact (num_len10 h).2
theorem size_app (a b : ByteArray) : (a ++ b).size = a.size + b.size := ByteArray.size_append

theorem take_num (n : Nat) (hn : n < 18446744073709551616) (s : ByteArray) (hs : s.size ≤ 9223372036854775000) (w : World) :
    Calls Tryz.prog 68 #[.string (strOfNums (num n) ++ s)] w fun e w' => e = .returned (.tuple #[.int .u64 (n : Int), .string s, .int .i64 0]) ∧ Below w.heap.size w w' := by
  have h := pack_TakeNum (strOfNums (num n) ++ s) (by rw [size_app]; have := num_size hn; unfold maxLen; omega) w
  rw [num_list, tk_back hn] at h
  exact h

theorem take_int (n : Int) (h0 : -9223372036854775808 ≤ n) (h1 : n ≤ 9223372036854775807) (s : ByteArray) (hs : s.size ≤ 9223372036854775000) (w : World) :
    Calls Tryz.prog 41 #[.string (strOfNums (num (zig n)) ++ s)] w fun e w' => e = .returned (.tuple #[.int .i64 n, .string s, .int .i64 0]) ∧ Below w.heap.size w w' := by
  have hz := zig_lt h0 h1
  have h := pack_TakeInt (strOfNums (num (zig n)) ++ s) (by rw [size_app]; have := num_size hz; unfold maxLen; omega) w
  rw [num_list, tk_back hz] at h
  simp only [tiV, unzig_zig] at h
  exact h

theorem take_text (t s : ByteArray) (ht : t.size ≤ 10000000) (hs : s.size ≤ 10000000) (most : Int) (h0 : (t.size : Int) ≤ most) (h1 : most ≤ 9223372036854775807) (w : World) :
    Calls Tryz.prog 97 #[.string (strOfNums (num t.size) ++ t ++ s), .int .i64 most] w fun e w' => e = .returned (.tuple #[.string t, .string s, .int .i64 0]) ∧ Below w.heap.size w w' := by
  have hn : t.size < 18446744073709551616 := by omega
  have h := pack_TakeText (strOfNums (num t.size) ++ t ++ s) (by rw [size_app, size_app]; have := num_size hn; omega) most (by omega) h1 w
  have e : (strOfNums (num t.size) ++ t ++ s).data.toList = numB t.size ++ (t.data.toList ++ s.data.toList) := by
    rw [append_list, append_list, numB_str]; simp
  rw [e, tk_back hn] at h
  have e2 : tx most (some (t.size, t.data.toList ++ s.data.toList)) = some (t.data.toList, s.data.toList) := by
    show (if _ then _ else _) = _
    have hl : t.data.toList.length = t.size := rfl
    rw [if_neg (by rw [List.length_append]; omega)]
    rw [← hl, List.take_left, List.drop_left]
  rw [e2] at h
  exact h

theorem take_text_short (t s : ByteArray) (ht : t.size ≤ 10000000) (hs : s.size ≤ 10000000) (most : Int) (h0 : most < (t.size : Int)) (h1 : -9223372036854775808 ≤ most) (w : World) :
    Calls Tryz.prog 97 #[.string (strOfNums (num t.size) ++ t ++ s), .int .i64 most] w fun e w' => e = .returned (.tuple #[.string ⟨#[]⟩, .string ⟨#[]⟩, .int .i64 2]) ∧ Below w.heap.size w w' := by
  have hn : t.size < 18446744073709551616 := by omega
  have h := pack_TakeText (strOfNums (num t.size) ++ t ++ s) (by rw [size_app, size_app]; have := num_size hn; omega) most h1 (by omega) w
  have e : (strOfNums (num t.size) ++ t ++ s).data.toList = numB t.size ++ (t.data.toList ++ s.data.toList) := by
    rw [append_list, append_list, numB_str]; simp
  rw [e, tk_back hn] at h
  have e2 : tx most (some (t.size, t.data.toList ++ s.data.toList)) = none := by
    show (if _ then _ else _) = _
    rw [if_pos (by omega)]
  rw [e2] at h
  exact h
end Go.Proofs.YtcgkkjfbdappoaaGreat
