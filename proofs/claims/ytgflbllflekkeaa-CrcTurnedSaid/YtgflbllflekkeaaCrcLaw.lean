/- Plain laws of the checksum: steps are linear and lose nothing; eight steps of a number are the table's number of its lowest byte, by exclusive or with the rest. -/
import Derived.Test.YtgflbllflekkeaaCrcPlain
namespace Go.Proofs.Ytgflbllflekkeaa.Cr
set_option linter.unusedVariables false

theorem stp_xor (a b : Nat) : stp (a ^^^ b) = stp a ^^^ stp b := by
  have h1 : (a ^^^ b) / 2 = a / 2 ^^^ b / 2 := by
    have := Nat.shiftRight_xor_distrib (a := a) (b := b) (i := 1)
    simpa [Nat.shiftRight_eq_div_pow] using this
  have h2 : (a ^^^ b) % 2 = (a % 2) ^^^ (b % 2) := Nat.xor_mod_two_pow (n := 1)
  have h3 : ((a % 2) ^^^ (b % 2)) * 3988292384 = (a % 2 * 3988292384) ^^^ (b % 2 * 3988292384) := by
    rcases Nat.mod_two_eq_zero_or_one a with ha | ha <;> rcases Nat.mod_two_eq_zero_or_one b with hb | hb <;> rw [ha, hb] <;> decide
  unfold stp
  rw [h1, h2, h3]
  ac_rfl
theorem stps_xor (k a b : Nat) : stps k (a ^^^ b) = stps k a ^^^ stps k b := by
  induction k generalizing a b with
  | zero => rfl
  | succ k ih => rw [stps, stps, stps, stp_xor, ih]
theorem stp_two (h : Nat) : stp (2 * h) = h := by
  unfold stp
  rw [show 2 * h / 2 = h from by omega, show 2 * h % 2 = 0 from by omega]; simp
theorem stps_pow (k h : Nat) : stps k (2 ^ k * h) = h := by
  induction k with
  | zero => simp [stps]
  | succ k ih => rw [stps, show 2 ^ (k + 1) * h = 2 * (2 ^ k * h) from by rw [Nat.pow_succ, Nat.mul_comm (2 ^ k) 2, Nat.mul_assoc], stp_two, ih]

theorem parts (x : Nat) : x = (x % 256) ^^^ (2 ^ 8 * (x / 256)) := by
  apply Nat.eq_of_testBit_eq
  intro i
  have e1 : x % 256 = x % 2 ^ 8 := rfl
  have e2 : x / 256 = x / 2 ^ 8 := rfl
  rw [Nat.testBit_xor, e1, e2, Nat.testBit_mod_two_pow, Nat.testBit_two_pow_mul, Nat.testBit_div_two_pow]
  by_cases h : i < 8
  · simp [h, show ¬ 8 ≤ i by omega]
  · simp [h, show 8 ≤ i by omega, show i - 8 + 8 = i by omega]

theorem stps_parts (x : Nat) : stps 8 x = tabv (x % 256) ^^^ x / 256 := by
  have := stps_xor 8 (x % 256) (2 ^ 8 * (x / 256))
  rw [← parts x, stps_pow] at this
  exact this

theorem xor_parts (c : Nat) (b : UInt8) : (c ^^^ b.toNat) % 256 = c % 256 ^^^ b.toNat ∧ (c ^^^ b.toNat) / 256 = c / 256 := by
  have hb := b.toNat_lt
  constructor
  · have := Nat.xor_mod_two_pow (a := c) (b := b.toNat) (n := 8)
    rw [Nat.mod_eq_of_lt (a := b.toNat) hb] at this
    exact this
  · have := Nat.shiftRight_xor_distrib (a := c) (b := b.toNat) (i := 8)
    rw [Nat.shiftRight_eq_div_pow, Nat.shiftRight_eq_div_pow, Nat.shiftRight_eq_div_pow, Nat.div_eq_of_lt (a := b.toNat) hb, Nat.xor_zero] at this
    exact this

/-- One byte more is eight steps of the sum by exclusive or with it. -/
theorem byte_step (c : Nat) (b : UInt8) : tabv (c % 256 ^^^ b.toNat) ^^^ c / 256 = stps 8 (c ^^^ b.toNat) := by
  rw [stps_parts, (xor_parts c b).1, (xor_parts c b).2]

theorem eq_of_xor {x y : Nat} (h : x ^^^ y = 0) : x = y := by
  have := congrArg (fun z => z ^^^ y) h
  simpa [Nat.xor_assoc] using this

/-- Steps lose nothing. -/
theorem stp_inj {a b : Nat} (ha : a < 4294967296) (hb : b < 4294967296) (h : stp a = stp b) : a = b := by
  have key : ∀ x : Nat, x < 4294967296 → stp x = 0 → x = 0 := by
    intro x hx h0
    unfold stp at h0
    rcases Nat.mod_two_eq_zero_or_one x with h2 | h2
    · rw [h2] at h0; simp at h0; omega
    · rw [h2] at h0
      have e := eq_of_xor h0
      omega
  have e : stp (a ^^^ b) = 0 := by rw [stp_xor, h, Nat.xor_self]
  have := key _ (Nat.xor_lt_two_pow (n := 32) ha hb) e
  exact eq_of_xor this
theorem stps_inj (k : Nat) {a b : Nat} (ha : a < 4294967296) (hb : b < 4294967296) (h : stps k a = stps k b) : a = b := by
  induction k generalizing a b with
  | zero => exact h
  | succ k ih => exact stp_inj ha hb (ih (stp_lt ha) (stp_lt hb) h)

theorem xor_inj {c a b : Nat} (h : c ^^^ a = c ^^^ b) : a = b := by
  have := congrArg (fun x => c ^^^ x) h
  simpa [← Nat.xor_assoc] using this

theorem mor_cons (b : UInt8) (t : List UInt8) (c : Nat) : mor (b :: t) c = mor t (stps 8 (c ^^^ b.toNat)) := by
  rw [mor, byte_step]
theorem xor_byte_lt {c : Nat} (h : c < 4294967296) (b : UInt8) : c ^^^ b.toNat < 4294967296 := Nat.xor_lt_two_pow (n := 32) h (by have := b.toNat_lt; omega)

theorem mor_inj : ∀ (l : List UInt8) (a b : Nat), a < 4294967296 → b < 4294967296 → mor l a = mor l b → a = b
  | [], a, b, _, _, h => h
  | x :: t, a, b, ha, hb, h => by
    rw [mor_cons, mor_cons] at h
    have h1 := mor_inj t _ _ (stps_lt (xor_byte_lt ha x) 8) (stps_lt (xor_byte_lt hb x) 8) h
    have h2 := stps_inj 8 (xor_byte_lt ha x) (xor_byte_lt hb x) h1
    rw [Nat.xor_comm a, Nat.xor_comm b] at h2
    exact xor_inj h2

theorem tabv_xor (a b : Nat) : tabv (a ^^^ b) = tabv a ^^^ tabv b := stps_xor 8 a b
theorem tabv_inj {a b : Nat} (ha : a < 256) (hb : b < 256) (h : tabv a = tabv b) : a = b := stps_inj 8 (by omega) (by omega) h
theorem tabv_fix {d : Nat} (hd : d < 256) (h : tabv d = d) : d = 0 := by
  have key : ∀ d : Fin 256, tabv d.val = d.val → d.val = 0 := by decide +kernel
  exact key ⟨d, hd⟩ h

/-- A byte that is another one makes another sum. -/
theorem turned_one (p t : List UInt8) (x y : UInt8) (c : Nat) (hc : c < 4294967296) (h : mor (p ++ x :: t) c = mor (p ++ y :: t) c) : x = y := by
  rw [mor_append, mor_append, mor_cons, mor_cons] at h
  have hp := mor_lt p c hc
  have h1 := mor_inj t _ _ (stps_lt (xor_byte_lt hp x) 8) (stps_lt (xor_byte_lt hp y) 8) h
  have h2 := xor_inj (stps_inj 8 (xor_byte_lt hp x) (xor_byte_lt hp y) h1)
  exact UInt8.toNat_inj.1 h2

/-- Two unlike ones, one behind the other, that change places make another sum. -/
theorem turned_two (p t : List UInt8) (x y : UInt8) (c : Nat) (hc : c < 4294967296) (h : mor (p ++ x :: y :: t) c = mor (p ++ y :: x :: t) c) : x = y := by
  rw [mor_append, mor_append, mor_cons, mor_cons, mor_cons, mor_cons] at h
  have hp := mor_lt p c hc
  have ax := stps_lt (xor_byte_lt hp x) 8
  have ay := stps_lt (xor_byte_lt hp y) 8
  have h1 := mor_inj t _ _ (stps_lt (xor_byte_lt ax y) 8) (stps_lt (xor_byte_lt ay x) 8) h
  have h2 := stps_inj 8 (xor_byte_lt ax y) (xor_byte_lt ay x) h1
  rw [stps_xor, stps_xor] at h2
  have h3 : stps 8 (x.toNat ^^^ y.toNat) = x.toNat ^^^ y.toNat := by
    rw [stps_xor]
    have h4 : stps 8 x.toNat ^^^ y.toNat = stps 8 y.toNat ^^^ x.toNat := xor_inj (c := stps 8 (mor p c)) (by rw [← Nat.xor_assoc, ← Nat.xor_assoc]; exact h2)
    have h5 := congrArg (fun z => z ^^^ (stps 8 y.toNat ^^^ y.toNat)) h4
    calc stps 8 x.toNat ^^^ stps 8 y.toNat = stps 8 x.toNat ^^^ y.toNat ^^^ (stps 8 y.toNat ^^^ y.toNat) := by
          rw [Nat.xor_comm (stps 8 y.toNat) y.toNat, Nat.xor_assoc, ← Nat.xor_assoc y.toNat, Nat.xor_self, Nat.zero_xor]
      _ = stps 8 y.toNat ^^^ x.toNat ^^^ (stps 8 y.toNat ^^^ y.toNat) := h5
      _ = x.toNat ^^^ y.toNat := by
          rw [Nat.xor_comm (stps 8 y.toNat) x.toNat, Nat.xor_assoc, ← Nat.xor_assoc (stps 8 y.toNat), Nat.xor_self, Nat.zero_xor]
  have h6 := tabv_fix (d := x.toNat ^^^ y.toNat) (Nat.xor_lt_two_pow (n := 8) x.toNat_lt y.toNat_lt) h3
  exact UInt8.toNat_inj.1 (eq_of_xor h6)

end Go.Proofs.Ytgflbllflekkeaa.Cr
