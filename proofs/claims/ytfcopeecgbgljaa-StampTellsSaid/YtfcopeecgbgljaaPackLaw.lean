/- Plain laws of packing: what was packed is taken whatever stands behind, and what is taken has the very bytes. -/
import Derived.Test.YtfcopeecgbgljaaPackPlain
import Derived.Lib.Strings
namespace Go.Proofs.Ytfcopeecgbgljaa.Pk

/-- A number's bytes. -/
def numB (n : Nat) : List UInt8 := (num n).map fun x => UInt8.ofNat x.toNat

theorem numB_small {n : Nat} (h : n < 128) : numB n = [UInt8.ofNat n] := by unfold numB; rw [num_small h]; rfl
theorem numB_big {n : Nat} (h : ¬ n < 128) : numB n = UInt8.ofNat (n % 128 + 128) :: numB (n / 128) := by unfold numB; rw [num_big h]; rfl
theorem numB_str (n : Nat) : strOfNums (num n) = ⟨(numB n).toArray⟩ := rfl
theorem numB_len (n : Nat) : (numB n).length = (num n).length := by unfold numB; rw [List.length_map]

theorem pow_step (m k : Nat) : m % 128 * 2 ^ (7 * k) + m / 128 * 2 ^ (7 * (k + 1)) = m * 2 ^ (7 * k) := by
  have e : 2 ^ (7 * (k + 1)) = 128 * 2 ^ (7 * k) := by rw [show 7 * (k + 1) = 7 + 7 * k from by omega, Nat.pow_add]
  rw [e, ← Nat.mul_assoc, ← Nat.add_mul]
  congr 1; omega

theorem tk_num (m : Nat) : ∀ (k acc : Nat) (r : List UInt8), k ≤ 9 → m * 2 ^ (7 * k) < 18446744073709551616 → (0 < k → 0 < m) →
    tk (numB m ++ r) k acc = some (acc + m * 2 ^ (7 * k), r) := by
  induction m using Nat.strongRecOn with
  | _ m ih =>
    intro k acc r hk hm h0
    have h9 : k = 9 → m < 2 := by rintro rfl; omega
    by_cases h : m < 128
    · have hc : (UInt8.ofNat m).toNat = m := by simp; omega
      rw [numB_small h]
      show tk (UInt8.ofNat m :: r) k acc = _
      rw [tk_end (by rw [hc]; omega) (by rw [hc]; exact h) (by rw [hc]; omega), hc]
    · have hc : (UInt8.ofNat (m % 128 + 128)).toNat = m % 128 + 128 := by simp; omega
      have h8 : k ≤ 8 := by
        apply Nat.le_of_not_lt; intro h8
        have := h9 (by omega); omega
      rw [numB_big h]
      show tk (UInt8.ofNat (m % 128 + 128) :: (numB (m / 128) ++ r)) k acc = _
      have hs := pow_step m k
      rw [tk_more (by rw [hc]; omega) (by rw [hc]; omega), hc, ih (m / 128) (by omega) (k + 1) _ r (by omega) (by omega) (by omega)]
      rw [show (m % 128 + 128) % 128 = m % 128 from by omega, Nat.add_assoc, hs]

theorem tk_back {n : Nat} (h : n < 18446744073709551616) (r : List UInt8) : tk (numB n ++ r) 0 0 = some (n, r) := by
  rw [tk_num n 0 0 r (by decide) (by omega) (by omega)]; simp

theorem tk_very : ∀ (l : List UInt8) (k acc v : Nat) (r : List UInt8), tk l k acc = some (v, r) → ∃ m, l = numB m ++ r ∧ v = acc + m * 2 ^ (7 * k) ∧ (0 < k → 0 < m)
  | [], k, acc, v, r, h => by simp [tk] at h
  | c :: t, k, acc, v, r, h => by
    have hc := c.toNat_lt
    unfold tk at h
    split at h
    · exact absurd h (by simp)
    · split at h
      · rename_i h2
        split at h
        · exact absurd h (by simp)
        · simp only [Option.some.injEq, Prod.mk.injEq] at h
          refine ⟨c.toNat, ?_, h.1.symm, by omega⟩
          rw [numB_small h2, ← h.2]; simp
      · rename_i h2
        obtain ⟨m, e1, e2, e3⟩ := tk_very t (k + 1) _ v r h
        have hm := e3 (by omega)
        refine ⟨c.toNat % 128 + 128 * m, ?_, ?_, by omega⟩
        · rw [numB_big (by omega), e1]
          rw [show (c.toNat % 128 + 128 * m) % 128 + 128 = c.toNat from by omega, show (c.toNat % 128 + 128 * m) / 128 = m from by omega]
          simp
        · rw [e2, ← pow_step (c.toNat % 128 + 128 * m) k]
          rw [show (c.toNat % 128 + 128 * m) % 128 = c.toNat % 128 from by omega, show (c.toNat % 128 + 128 * m) / 128 = m from by omega, Nat.add_assoc]

theorem tk_bytes {l : List UInt8} {n : Nat} {r : List UInt8} (h : tk l 0 0 = some (n, r)) : l = numB n ++ r := by
  obtain ⟨m, e1, e2, _⟩ := tk_very l 0 0 n r h
  have : n = m := by rw [e2]; simp
  rw [this]; exact e1

theorem bytes_eq {a : ByteArray} {l : List UInt8} (h : a.data.toList = l) : a = ⟨l.toArray⟩ := by
  subst h; rfl
theorem append_list (a b : ByteArray) : (a ++ b).data.toList = a.data.toList ++ b.data.toList := by simp
theorem mk_append (a b : List UInt8) : (⟨a.toArray⟩ : ByteArray) ++ ⟨b.toArray⟩ = ⟨(a ++ b).toArray⟩ := by
  apply ByteArray.ext; simp
theorem mk_toList (a : ByteArray) : (⟨a.data.toList.toArray⟩ : ByteArray) = a := rfl
theorem mk_list (l : List UInt8) : (⟨l.toArray⟩ : ByteArray).data.toList = l := rfl

/-- A number's bytes, and what is behind, as the machine has them. -/
theorem num_list (n : Nat) (s : ByteArray) : (strOfNums (num n) ++ s).data.toList = numB n ++ s.data.toList := by
  rw [append_list, numB_str]

end Go.Proofs.Ytfcopeecgbgljaa.Pk
