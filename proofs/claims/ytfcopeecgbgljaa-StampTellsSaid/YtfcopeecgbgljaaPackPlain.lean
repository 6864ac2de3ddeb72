/- Plain numbers: the bytes of a number in sevens of bits, the zigzag of a number that may be below 0, and what is taken back from bytes. No program in sight. -/
import Derived.Laws.BitsLemmas
import Derived.Laws.BytesArg
namespace Go.Proofs.Ytfcopeecgbgljaa.Pk

theorem wrap_u64 (n : Int) : IntKind.u64.wrap n = n % 18446744073709551616 := by simp [IntKind.wrap, IntKind.bits, IntKind.signed]

/-- The bytes of a number: sevens of bits, the lowest first, 128 more in each but the last. -/
def num (n : Nat) : List Int :=
  if h : n < 128 then [(n : Int)] else ((n % 128 + 128 : Nat) : Int) :: num (n / 128)
termination_by n
decreasing_by omega

theorem num_small {n : Nat} (h : n < 128) : num n = [(n : Int)] := by rw [num, dif_pos h]
theorem num_big {n : Nat} (h : ¬ n < 128) : num n = ((n % 128 + 128 : Nat) : Int) :: num (n / 128) := by rw [num, dif_neg h]

/-- How many bytes a number has. -/
theorem num_len (d : Nat) : ∀ n : Nat, n < 128 ^ (d + 1) → 1 ≤ (num n).length ∧ (num n).length ≤ d + 1 := by
  induction d with
  | zero => intro n h; rw [num_small (by omega)]; simp
  | succ d ih =>
    intro n h
    by_cases hn : n < 128
    · rw [num_small hn]; simp
    · rw [num_big hn]
      have h2 : n / 128 < 128 ^ (d + 1) := by
        rw [Nat.div_lt_iff_lt_mul (by decide)]
        rw [Nat.pow_succ] at h; exact h
      have := ih (n / 128) h2
      simp only [List.length_cons]; omega

theorem num_len10 {n : Nat} (h : n < 18446744073709551616) : 1 ≤ (num n).length ∧ (num n).length ≤ 10 :=
  num_len 9 n (by omega)

/-- `x | 128` of a byte. -/
theorem or128 {x : Int} (h0 : 0 ≤ x) (h1 : x < 256) : bits .or .u8 x 128 = x % 128 + 128 := by
  obtain ⟨a, rfl⟩ := Int.eq_ofNat_of_zero_le h0
  have ha : a < 2 ^ 8 := by omega
  have := (bits_nat .u8 8 (by decide) wraps_u8 a 128 ha (by decide)).2
  rw [show ((128 : Int)) = ((128 : Nat) : Int) from rfl, this]
  have h2 : a ||| 128 = a % 128 + 128 := by
    have key : ∀ b : Fin 256, (b.val ||| 128) = b.val % 128 + 128 := by decide +kernel
    exact key ⟨a, by omega⟩
  rw [h2]; omega

/-- The zigzag of a number that may be below 0. -/
def zig (n : Int) : Nat := if 0 ≤ n then (2 * n).toNat else (-2 * n - 1).toNat

theorem bits_xor_nat (k : IntKind) (hk : ∀ n : Int, 0 ≤ n → n < 2 ^ k.bits → k.wrap n = n) (a b : Nat) (ha : a < 2 ^ k.bits) (hb : b < 2 ^ k.bits) :
    bits .xor k a b = ((a ^^^ b : Nat) : Int) := by
  have ha' : a % 2 ^ k.bits = a := Nat.mod_eq_of_lt ha
  have hb' : b % 2 ^ k.bits = b := Nat.mod_eq_of_lt hb
  have cast : ∀ n : Nat, n < 2 ^ k.bits → ((n : Nat) : Int) < 2 ^ k.bits := fun n h => by exact_mod_cast h
  simp only [bits, BitVec.ofInt_natCast, BitVec.toNat_xor, BitVec.toNat_ofNat, ha', hb']
  exact hk _ (Int.natCast_nonneg _) (cast _ (Nat.xor_lt_two_pow ha hb))

theorem wraps_u64 (n : Int) (h₀ : 0 ≤ n) (h₁ : n < 2 ^ IntKind.u64.bits) : IntKind.u64.wrap n = n := by
  rw [wrap_u64]; have : (2 : Int) ^ IntKind.u64.bits = 18446744073709551616 := by decide
  omega

theorem nat_xor_ones (a : Nat) (h : a < 2 ^ 64) : a ^^^ 18446744073709551615 = 18446744073709551615 - a := by
  have e : (BitVec.ofNat 64 a ^^^ BitVec.allOnes 64) = ~~~ (BitVec.ofNat 64 a) := BitVec.xor_allOnes
  have e2 := congrArg BitVec.toNat e
  rw [BitVec.toNat_xor, BitVec.toNat_not, BitVec.toNat_ofNat, Nat.mod_eq_of_lt h, BitVec.toNat_allOnes] at e2
  exact e2

theorem xor_zero64 {x : Int} (h0 : 0 ≤ x) (h1 : x < 18446744073709551616) : bits .xor .u64 x 0 = x := by
  obtain ⟨a, rfl⟩ := Int.eq_ofNat_of_zero_le h0
  have ha : a < 2 ^ IntKind.u64.bits := by show a < 2 ^ 64; omega
  have := bits_xor_nat .u64 wraps_u64 a 0 ha (by decide)
  rw [Nat.xor_zero] at this
  exact this

theorem xor_ones64 {x : Int} (h0 : 0 ≤ x) (h1 : x < 18446744073709551616) : bits .xor .u64 x 18446744073709551615 = 18446744073709551615 - x := by
  obtain ⟨a, rfl⟩ := Int.eq_ofNat_of_zero_le h0
  have ha : a < 2 ^ 64 := by omega
  have := bits_xor_nat .u64 wraps_u64 a 18446744073709551615 ha (by decide)
  rw [nat_xor_ones a ha] at this
  have e : ((18446744073709551615 : Nat) : Int) = 18446744073709551615 := rfl
  rw [e] at this
  rw [this]; omega

theorem zig_bits {n : Int} (h0 : -9223372036854775808 ≤ n) (h1 : n ≤ 9223372036854775807) :
    bits .xor .u64 (IntKind.u64.wrap ((IntKind.u64.wrap n) * 2)) (IntKind.u64.wrap (n / 9223372036854775808)) = (zig n : Int) := by
  unfold zig
  by_cases h : 0 ≤ n
  · have e : IntKind.u64.wrap (n / 9223372036854775808) = 0 := by
      rw [wrap_u64]; have : n / 9223372036854775808 = 0 := by omega
      rw [this]; rfl
    rw [e, xor_zero64 (by rw [wrap_u64]; omega) (by rw [wrap_u64]; omega), if_pos h]
    simp only [wrap_u64]; omega
  · have e : IntKind.u64.wrap (n / 9223372036854775808) = 18446744073709551615 := by
      rw [wrap_u64]; have : n / 9223372036854775808 = -1 := by omega
      rw [this]; rfl
    rw [e, xor_ones64 (by rw [wrap_u64]; omega) (by rw [wrap_u64]; omega), if_neg h]
    simp only [wrap_u64]; omega

theorem zig_lt {n : Int} (h0 : -9223372036854775808 ≤ n) (h1 : n ≤ 9223372036854775807) : zig n < 18446744073709551616 := by
  unfold zig; split <;> omega

theorem bits_or_nat (a b : Nat) (ha : a < 2 ^ 64) (hb : b < 2 ^ 64) : bits .or .u64 (a : Int) (b : Int) = ((a ||| b : Nat) : Int) :=
  (bits_nat .u64 64 (by decide) (fun n h0 h1 => wraps_u64 n h0 h1) a b ha hb).2

/-- Sevens of bits that are laid above what is there. -/
theorem or_hi (n k x : Nat) (hk : k ≤ 9) (hn : n < 2 ^ (7 * k)) (hx : x * 2 ^ (7 * k) < 18446744073709551616) :
    bits .or .u64 (n : Int) (IntKind.u64.wrap ((x : Int) * 2 ^ (7 * k))) = ((n + x * 2 ^ (7 * k) : Nat) : Int) := by
  have e : ((x : Int) * 2 ^ (7 * k)) = ((x * 2 ^ (7 * k) : Nat) : Int) := by simp
  have e2 : IntKind.u64.wrap ((x * 2 ^ (7 * k) : Nat) : Int) = ((x * 2 ^ (7 * k) : Nat) : Int) := by rw [wrap_u64]; omega
  have hp : 2 ^ (7 * k) ≤ 2 ^ 63 := Nat.pow_le_pow_right (by decide) (by omega)
  rw [e, e2, bits_or_nat n _ (by omega) (by omega), Nat.or_comm, Nat.mul_comm x, ← Nat.two_pow_add_eq_or_of_lt hn x, Nat.add_comm]

theorem or_zero (n : Nat) (h : n < 2 ^ 64) : bits .or .u64 (n : Int) 0 = (n : Int) := by
  have := bits_or_nat n 0 h (by decide)
  rw [Nat.or_zero] at this
  exact this

theorem drop_bytes (s : ByteArray) (j : Nat) : s.extract j s.size = ⟨(s.data.toList.drop j).toArray⟩ := by
  apply ByteArray.ext
  rw [ByteArray.data_extract]
  apply Array.toList_inj.1
  rw [Array.toList_extract, List.extract_eq_take_drop]
  have h : s.size - j = (s.data.toList.drop j).length := by rw [List.length_drop]; rfl
  rw [h, List.take_length]

theorem take_bytes (s : ByteArray) (j : Nat) : s.extract 0 j = ⟨(s.data.toList.take j).toArray⟩ := by
  apply ByteArray.ext
  rw [ByteArray.data_extract]
  apply Array.toList_inj.1
  rw [Array.toList_extract, List.extract_eq_take_drop]; rfl

theorem drop_next {l t : List UInt8} {k : Nat} {c : UInt8} (h : l.drop k = c :: t) : l.drop (k + 1) = t := by
  rw [← List.drop_drop, h]; rfl

/-- What a string begins with: from its k-th byte on, of which n is behind. -/
def tk : List UInt8 → Nat → Nat → Option (Nat × List UInt8)
  | [], _, _ => none
  | c :: t, k, n => if 9 < k ∨ (k = 9 ∧ 2 ≤ c.toNat) then none else if c.toNat < 128 then (if c.toNat = 0 ∧ 0 < k then none else some (n + c.toNat * 2 ^ (7 * k), t)) else tk t (k + 1) (n + c.toNat % 128 * 2 ^ (7 * k))

theorem tk_err {c : UInt8} {t : List UInt8} {k n : Nat} (h : 9 < k ∨ (k = 9 ∧ 2 ≤ c.toNat)) : tk (c :: t) k n = none := by
  rw [tk, if_pos h]
theorem tk_zero {c : UInt8} {t : List UInt8} {k n : Nat} (h : ¬ (9 < k ∨ (k = 9 ∧ 2 ≤ c.toNat))) (hc : c.toNat = 0) (hk : 0 < k) : tk (c :: t) k n = none := by
  rw [tk, if_neg h, if_pos (by omega), if_pos ⟨hc, hk⟩]
theorem tk_end {c : UInt8} {t : List UInt8} {k n : Nat} (h : ¬ (9 < k ∨ (k = 9 ∧ 2 ≤ c.toNat))) (hc : c.toNat < 128) (hk : ¬ (c.toNat = 0 ∧ 0 < k)) : tk (c :: t) k n = some (n + c.toNat * 2 ^ (7 * k), t) := by
  rw [tk, if_neg h, if_pos hc, if_neg hk]
theorem tk_more {c : UInt8} {t : List UInt8} {k n : Nat} (h : ¬ (9 < k ∨ (k = 9 ∧ 2 ≤ c.toNat))) (hc : ¬ c.toNat < 128) : tk (c :: t) k n = tk t (k + 1) (n + c.toNat % 128 * 2 ^ (7 * k)) := by
  rw [tk, if_neg h, if_neg hc]

/-- The three results, as the machine has them. -/
def tnV : Option (Nat × List UInt8) → Value
  | none => .tuple #[.int .u64 0, .string ⟨#[]⟩, .int .i64 2]
  | some (n, r) => .tuple #[.int .u64 (n : Int), .string ⟨r.toArray⟩, .int .i64 0]

/-- The number that may be below 0, out of its zigzag. -/
def unzig (n : Nat) : Int := if n % 2 = 0 then ((n / 2 : Nat) : Int) else -((n / 2 : Nat) : Int) - 1

theorem zig_unzig (n : Nat) : zig (unzig n) = n := by unfold zig unzig; split <;> split <;> omega
theorem unzig_zig (n : Int) : unzig (zig n) = n := by unfold zig unzig; split <;> split <;> omega
theorem unzig_bd {n : Nat} (h : n < 18446744073709551616) : -9223372036854775808 ≤ unzig n ∧ unzig n ≤ 9223372036854775807 := by
  unfold unzig; split <;> omega

theorem i64_wrap (n : Int) : IntKind.i64.wrap n = (n + 9223372036854775808) % 18446744073709551616 - 9223372036854775808 := IntKind.wrap_i64 n

theorem and_one64 {x : Int} (h0 : 0 ≤ x) (h1 : x < 18446744073709551616) : bits .and .u64 x 1 = x % 2 := by
  have := bits_mask .u64 64 (by decide) (fun n h0 h1 => wraps_u64 n h0 h1) 1 (by decide) x h0 (by omega)
  simpa using this

theorem xor_i64_zero {x : Int} (h0 : 0 ≤ x) (h1 : x < 9223372036854775808) : bits .xor .i64 x 0 = x := by
  obtain ⟨a, rfl⟩ := Int.eq_ofNat_of_zero_le h0
  have e : (BitVec.ofInt 64 (a : Int) ^^^ 0#64) = BitVec.ofNat 64 a := by rw [BitVec.xor_zero, BitVec.ofInt_natCast]
  have : bits .xor .i64 (a : Int) 0 = IntKind.i64.wrap ((BitVec.ofInt 64 (a : Int) ^^^ 0#64).toNat : Int) := rfl
  rw [this, e, BitVec.toNat_ofNat, i64_wrap]; omega

theorem xor_i64_ones {x : Int} (h0 : 0 ≤ x) (h1 : x < 9223372036854775808) : bits .xor .i64 x (-1) = -x - 1 := by
  obtain ⟨a, rfl⟩ := Int.eq_ofNat_of_zero_le h0
  have e : (BitVec.ofInt 64 (a : Int) ^^^ BitVec.allOnes 64) = ~~~ (BitVec.ofNat 64 a) := by rw [BitVec.xor_allOnes, BitVec.ofInt_natCast]
  have : bits .xor .i64 (a : Int) (-1) = IntKind.i64.wrap ((BitVec.ofInt 64 (a : Int) ^^^ BitVec.allOnes 64).toNat : Int) := rfl
  rw [this, e, BitVec.toNat_not, BitVec.toNat_ofNat, i64_wrap]; omega

theorem unzig_bits {n : Nat} (h : n < 18446744073709551616) : bits .xor .i64 ((n : Int) / 2) (-((n : Int) % 2)) = unzig n := by
  unfold unzig
  by_cases hn : n % 2 = 0
  · rw [if_pos hn, show -((n : Int) % 2) = 0 from by omega, xor_i64_zero (by omega) (by omega)]; omega
  · rw [if_neg hn, show -((n : Int) % 2) = -1 from by omega, xor_i64_ones (by omega) (by omega)]; omega

/-- The three results of a number that may be below 0. -/
def tiV : Option (Nat × List UInt8) → Value
  | none => .tuple #[.int .i64 0, .string ⟨#[]⟩, .int .i64 2]
  | some (n, r) => .tuple #[.int .i64 (unzig n), .string ⟨r.toArray⟩, .int .i64 0]

/-- What a string begins with is a number of 64 bits. -/
theorem tk_bd : ∀ (l : List UInt8) (k n m : Nat) (r : List UInt8), n < 2 ^ (7 * k) → k ≤ 9 → tk l k n = some (m, r) → m < 18446744073709551616
  | [], k, n, m, r, _, _, h => by simp [tk] at h
  | c :: t, k, n, m, r, hn, hk, h => by
    have hc := c.toNat_lt
    have hp : 2 ^ (7 * k) ≤ 2 ^ (7 * 9) := Nat.pow_le_pow_right (by decide) (by omega)
    unfold tk at h
    split at h
    · exact absurd h (by simp)
    · rename_i h1
      split at h
      · split at h
        · exact absurd h (by simp)
        · simp only [Option.some.injEq, Prod.mk.injEq] at h
          rw [← h.1]
          by_cases h9 : k = 9
          · subst h9
            have : c.toNat < 2 := by omega
            have : c.toNat * 2 ^ (7 * 9) ≤ 1 * 2 ^ (7 * 9) := Nat.mul_le_mul_right _ (by omega)
            omega
          · have hp : 2 ^ (7 * k) ≤ 2 ^ (7 * 8) := Nat.pow_le_pow_right (by decide) (by omega)
            have : c.toNat * 2 ^ (7 * k) ≤ 127 * 2 ^ (7 * 8) := Nat.mul_le_mul (by omega) hp
            omega
      · have h9 : k ≤ 8 := by omega
        refine tk_bd t (k + 1) _ m r ?_ (by omega) h
        have h2 : c.toNat % 128 * 2 ^ (7 * k) ≤ 127 * 2 ^ (7 * k) := Nat.mul_le_mul_right _ (by omega)
        rw [show 7 * (k + 1) = 7 * k + 7 from by omega, Nat.pow_add]; omega

/-- The text with which a string begins. -/
def tx (most : Int) : Option (Nat × List UInt8) → Option (List UInt8 × List UInt8)
  | none => none
  | some (n, r) => if most < 0 ∨ most < n ∨ r.length < n then none else some (r.take n, r.drop n)
def txV : Option (List UInt8 × List UInt8) → Value
  | none => .tuple #[.string ⟨#[]⟩, .string ⟨#[]⟩, .int .i64 2]
  | some (a, b) => .tuple #[.string ⟨a.toArray⟩, .string ⟨b.toArray⟩, .int .i64 0]

theorem tk_len : ∀ (l : List UInt8) (k n m : Nat) (r : List UInt8), tk l k n = some (m, r) → r.length < l.length
  | [], k, n, m, r, h => by simp [tk] at h
  | c :: t, k, n, m, r, h => by
    unfold tk at h
    split at h
    · exact absurd h (by simp)
    · split at h
      · split at h
        · exact absurd h (by simp)
        · simp only [Option.some.injEq, Prod.mk.injEq] at h
          rw [← h.2]; simp
      · have := tk_len t _ _ m r h
        simp only [List.length_cons]; omega

theorem size_of (l : List UInt8) : (⟨l.toArray⟩ : ByteArray).size = l.length := by simp [ByteArray.size]

end Go.Proofs.Ytfcopeecgbgljaa.Pk
