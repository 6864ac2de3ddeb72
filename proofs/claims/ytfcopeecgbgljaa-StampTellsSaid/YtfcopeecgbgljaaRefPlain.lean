/- Plain law: what the document's TakeNum tells (a begin up to the first byte below 128, held against what was packed) is what pack's tells. -/
import Derived.Test.YtfcopeecgbgljaaPackLaw
namespace Go.Proofs.Ytfcopeecgbgljaa.Pk

/-- How many bytes the begin has: up to the first one below 128, ten at most; 0: there is none. -/
def bg : List UInt8 → Nat → Nat
  | [], _ => 0
  | c :: t, i => if 10 ≤ i then 0 else if c.toNat < 128 then i + 1 else bg t (i + 1)

/-- The number that bytes are, as numbers of 64 bits. -/
def hv : List UInt8 → Nat
  | [] => 0
  | c :: t => (128 * hv t + c.toNat % 128) % 18446744073709551616

theorem bg_num (m : Nat) : ∀ (i : Nat) (r : List UInt8), i + (numB m).length ≤ 10 → bg (numB m ++ r) i = i + (numB m).length := by
  induction m using Nat.strongRecOn with
  | _ m ih =>
    intro i r hi
    by_cases h : m < 128
    · have hc : (UInt8.ofNat m).toNat = m := by simp; omega
      rw [numB_small h] at hi ⊢
      simp only [List.length_cons, List.length_nil] at hi ⊢
      show bg (UInt8.ofNat m :: r) i = _
      rw [bg, if_neg (by omega), hc, if_pos h]
    · have hc : (UInt8.ofNat (m % 128 + 128)).toNat = m % 128 + 128 := by simp; omega
      rw [numB_big h] at hi ⊢
      simp only [List.length_cons] at hi ⊢
      show bg (UInt8.ofNat (m % 128 + 128) :: (numB (m / 128) ++ r)) i = _
      rw [bg, if_neg (by omega), hc, if_neg (by omega), ih (m / 128) (by omega) (i + 1) r (by omega)]
      omega

theorem hv_num (m : Nat) : m < 18446744073709551616 → hv (numB m) = m := by
  induction m using Nat.strongRecOn with
  | _ m ih =>
    intro hm
    by_cases h : m < 128
    · have hc : (UInt8.ofNat m).toNat = m := by simp; omega
      rw [numB_small h]
      simp only [hv, hc]; omega
    · have hc : (UInt8.ofNat (m % 128 + 128)).toNat = m % 128 + 128 := by simp; omega
      rw [numB_big h]
      simp only [hv, hc]
      rw [ih (m / 128) (by omega) (by omega)]; omega

theorem bg_le : ∀ (l : List UInt8) (i : Nat), bg l i ≤ i + l.length
  | [], i => by simp [bg]
  | c :: t, i => by
    unfold bg
    split
    · omega
    · split
      · simp
      · have := bg_le t (i + 1)
        simp only [List.length_cons]; omega

theorem hv_lt (l : List UInt8) : hv l < 18446744073709551616 := by
  cases l with
  | nil => simp [hv]
  | cons c t => simp only [hv]; omega

/-- Where something is taken, the begin is its bytes, and its number it. -/
theorem ref_some {l : List UInt8} {n : Nat} {r : List UInt8} (h : tk l 0 0 = some (n, r)) :
    bg l 0 = (numB n).length ∧ l.take (bg l 0) = numB n ∧ hv (numB n) = n ∧ l.drop (bg l 0) = r ∧ numB n ≠ [] := by
  have hb := tk_bytes h
  have hn := tk_bd _ _ _ _ _ (by decide) (by decide) h
  have hl := num_len10 hn
  rw [← numB_len] at hl
  have e : bg l 0 = (numB n).length := by rw [hb, bg_num n 0 r (by omega)]; omega
  refine ⟨e, ?_, hv_num n hn, ?_, ?_⟩
  · rw [e, hb, List.take_left]
  · rw [e, hb, List.drop_left]
  · intro h0; rw [h0] at hl; simp at hl

/-- Where nothing is taken, the begin is empty, or no number's bytes. -/
theorem ref_none {l : List UInt8} (h : tk l 0 0 = none) : numB (hv (l.take (bg l 0))) ≠ l.take (bg l 0) := by
  intro e
  have h2 : l = numB (hv (l.take (bg l 0))) ++ l.drop (bg l 0) := by rw [e, List.take_append_drop]
  rw [h2, tk_back (hv_lt _)] at h
  exact absurd h (by simp)

end Go.Proofs.Ytfcopeecgbgljaa.Pk
