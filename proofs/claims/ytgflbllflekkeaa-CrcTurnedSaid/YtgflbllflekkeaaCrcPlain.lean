/- Plain numbers: the checksum's steps and its table. -/
import Derived.Test.YtgflbllflekkeaaPackPlain
namespace Go.Proofs.Ytgflbllflekkeaa.Cr
open Pk
set_option linter.unusedVariables false

/-- One step of the checksum. -/
def stp (c : Nat) : Nat := c / 2 ^^^ (c % 2 * 3988292384)
def stps : Nat → Nat → Nat
  | 0, c => c
  | k + 1, c => stps k (stp c)
/-- The table's number of a byte. -/
def tabv (n : Nat) : Nat := stps 8 n

theorem stps_succ (k c : Nat) : stps (k + 1) c = stp (stps k c) := by
  induction k generalizing c with
  | zero => rfl
  | succ k ih => rw [stps, ih (stp c)]; rfl

theorem stp_lt {c : Nat} (h : c < 4294967296) : stp c < 4294967296 := by
  unfold stp
  exact Nat.xor_lt_two_pow (n := 32) (by omega) (by omega)
theorem stps_lt {c : Nat} (h : c < 4294967296) (k : Nat) : stps k c < 4294967296 := by
  induction k with
  | zero => exact h
  | succ k ih => rw [stps_succ]; exact stp_lt ih

theorem wraps_u32 (n : Int) (h₀ : 0 ≤ n) (h₁ : n < 2 ^ IntKind.u32.bits) : IntKind.u32.wrap n = n := by
  rw [IntKind.wrap_u32]; have : (2 : Int) ^ IntKind.u32.bits = 4294967296 := by decide
  omega

theorem xor32 (a b : Nat) (ha : a < 4294967296) (hb : b < 4294967296) : bits .xor .u32 (a : Int) (b : Int) = ((a ^^^ b : Nat) : Int) :=
  bits_xor_nat .u32 wraps_u32 a b ha hb

theorem stp_walk {c : Nat} (h : c < 4294967296) : bits .xor .u32 ((c : Int) / 2) ((c : Int) % 2 * 3988292384) = ((stp c : Nat) : Int) := by
  have e1 : (c : Int) / 2 = ((c / 2 : Nat) : Int) := by omega
  have e2 : (c : Int) % 2 * 3988292384 = ((c % 2 * 3988292384 : Nat) : Int) := by omega
  rw [e1, e2, xor32 _ _ (by omega) (by omega)]; rfl

/-- The table, of which so many are told. -/
def tabUp (k : Nat) : Array Value := (Array.range 256).map fun i => .int .u32 (if i < k then (tabv i : Int) else 0)
def tab : Array Value := (Array.range 256).map fun i => .int .u32 (tabv i : Int)
def zeros256 : Array Value := Array.replicate 256 (.int .u32 0)

theorem tabUp_zero : tabUp 0 = zeros256 := by
  apply Array.ext
  · simp [tabUp, zeros256]
  · intro i h1 h2; simp [tabUp, zeros256]
theorem tabUp_full : tabUp 256 = tab := by
  apply Array.ext
  · simp [tabUp, tab]
  · intro i h1 h2
    have : i < 256 := by simpa [tabUp] using h1
    simp [tabUp, tab, this]
theorem tabUp_size (k : Nat) : (tabUp k).size = 256 := by simp [tabUp]
theorem tab_size : tab.size = 256 := by simp [tab]
theorem tabUp_at (k i : Nat) (h : i < 256) : (tabUp k)[i]? = some (.int .u32 (if i < k then (tabv i : Int) else 0)) := by simp [tabUp, h]
theorem tab_at (i : Nat) (h : i < 256) : tab[i]? = some (.int .u32 (tabv i : Int)) := by simp [tab, h]
theorem tabUp_set (k : Nat) (h : k < 256) : (tabUp k).setIfInBounds k (.int .u32 (tabv k : Int)) = tabUp (k + 1) := by
  apply Array.ext
  · simp [tabUp]
  · intro i h1 h2
    have hi : i < 256 := by simpa [tabUp] using h2
    rw [Array.getElem_setIfInBounds (by simpa [tabUp] using hi)]
    by_cases e : k = i
    · subst e; simp [tabUp]
    · rw [if_neg e]
      simp only [tabUp, Array.getElem_map, Array.getElem_range]
      by_cases h3 : i < k
      · rw [if_pos h3, if_pos (by omega)]
      · rw [if_neg h3, if_neg (by omega)]
theorem zeros_tab : zeros256.size = tab.size := by rw [tab_size]; simp [zeros256]
theorem tab_one : tab.all (·.oneCell') = true := by
  rw [Array.all_eq_true]
  intro i h
  simp [tab]
  rfl

/-- So many bytes more: the sum's bits are turned. -/
def mor : List UInt8 → Nat → Nat
  | [], c => c
  | b :: t, c => mor t (tabv (c % 256 ^^^ b.toNat) ^^^ c / 256)

theorem byte_xor (c : Nat) (b : UInt8) : c % 256 ^^^ b.toNat < 256 := Nat.xor_lt_two_pow (n := 8) (by omega) b.toNat_lt
theorem tabv_lt {i : Nat} (h : i < 256) : tabv i < 4294967296 := stps_lt (by omega) 8
theorem mor_step_lt {c : Nat} (h : c < 4294967296) (b : UInt8) : tabv (c % 256 ^^^ b.toNat) ^^^ c / 256 < 4294967296 :=
  Nat.xor_lt_two_pow (n := 32) (tabv_lt (byte_xor c b)) (by omega)
theorem mor_lt : ∀ (l : List UInt8) (c : Nat), c < 4294967296 → mor l c < 4294967296
  | [], c, h => h
  | b :: t, c, h => mor_lt t _ (mor_step_lt h b)
theorem mor_append : ∀ (l k : List UInt8) (c : Nat), mor (l ++ k) c = mor k (mor l c)
  | [], _, _ => rfl
  | _ :: t, k, _ => mor_append t k _

theorem wraps_u8' (n : Int) (h₀ : 0 ≤ n) (h₁ : n < 2 ^ IntKind.u8.bits) : IntKind.u8.wrap n = n := by
  rw [IntKind.wrap_u8]; have : (2 : Int) ^ IntKind.u8.bits = 256 := by decide
  omega
theorem xor8 (a b : Nat) (ha : a < 256) (hb : b < 256) : bits .xor .u8 (a : Int) (b : Int) = ((a ^^^ b : Nat) : Int) :=
  bits_xor_nat .u8 wraps_u8' a b ha hb

theorem nat_xor_ones32 (a : Nat) (h : a < 4294967296) : 4294967295 ^^^ a = 4294967295 - a := by
  have e : (BitVec.allOnes 32 ^^^ BitVec.ofNat 32 a) = ~~~ (BitVec.ofNat 32 a) := BitVec.allOnes_xor
  have e2 := congrArg BitVec.toNat e
  rw [BitVec.toNat_xor, BitVec.toNat_not, BitVec.toNat_ofNat, Nat.mod_eq_of_lt h, BitVec.toNat_allOnes] at e2
  exact e2
theorem not32 {c : Nat} (h : c < 4294967296) : bits .xor .u32 IntKind.u32.max (c : Int) = ((4294967295 - c : Nat) : Int) := by
  have e : IntKind.u32.max = ((4294967295 : Nat) : Int) := by decide
  rw [e, xor32 _ _ (by decide) h, nat_xor_ones32 c h]

end Go.Proofs.Ytgflbllflekkeaa.Cr
