/- Records that were laid, a byte of one of them turned: plain. -/
import Derived.Test.YtcekecpbjmfbhaaFramePlain
namespace Go.Proofs.Ytcekecpbjmfbhaa
open Pk Cr
set_option linter.unusedVariables false

theorem numB_head {n : Nat} (h : n < 16384) : (numB n).length = if n < 128 then 1 else 2 := by
  by_cases h1 : n < 128
  · rw [if_pos h1, numB_small h1]; rfl
  · rw [if_neg h1, numB_big h1, numB_small (by omega)]; rfl
theorem allF_turned {ls : List (List UInt8)} (h : ∀ b ∈ ls, b.length ≤ 200) {k m : Nat} {b : List UInt8} (hb : ls[m]? = some b) (h1 : (laidF (ls.take m)).length + (if b.length < 128 then 1 else 2) ≤ k)
    (h2 : k < (laidF (ls.take (m + 1))).length) {x z : UInt8} (hx : (laidF ls)[k]? = some x) (hz : x ≠ z) :
    allF ((laidF ls).set k z) = (ls.take m, ((laidF ls).set k z).drop (laidF (ls.take m)).length) := by
  have hm := (List.getElem?_eq_some_iff.1 hb).1
  have hbl : b.length ≤ 200 := h b (List.mem_of_getElem? hb)
  have ht : ls.take (m + 1) = ls.take m ++ [b] := by
    rw [List.take_succ_eq_append_getElem hm]
    rw [List.getElem?_eq_getElem hm] at hb
    rw [Option.some.inj hb]
  have e : laidF ls = laidF (ls.take (m + 1)) ++ laidF (ls.drop (m + 1)) := by rw [← laidF_append, List.take_append_drop]
  have hH := numB_head (n := b.length) (by omega)
  rw [← hH] at h1
  rw [ht, laidF_append, laidF_one] at e h2
  have ep : putF b = numB b.length ++ (b ++ be4 (ofv (headF b))) := by unfold putF headF; rw [List.append_assoc]
  rw [ep] at e h2
  generalize hA : laidF (ls.take m) = A at *
  generalize hT : laidF (ls.drop (m + 1)) = T at *
  generalize hHH : numB b.length = H at *
  obtain ⟨R, hR⟩ : ∃ R, R = b ++ be4 (ofv (headF b)) := ⟨_, rfl⟩
  rw [← hR] at e h2
  rw [List.length_append, List.length_append] at h2
  rw [List.append_assoc, List.append_assoc] at e
  have hi : k - A.length - H.length < R.length := by omega
  have hxR : R[k - A.length - H.length]? = some x := by
    rw [e, List.getElem?_append_right (by omega), List.getElem?_append_right (by omega), List.getElem?_append_left hi] at hx
    exact hx
  have hsR : R = R.take (k - A.length - H.length) ++ x :: R.drop (k - A.length - H.length + 1) := by
    have := List.getElem?_eq_some_iff.1 hxR
    rw [← this.2, ← List.drop_eq_getElem_cons, List.take_append_drop]
  have hsz : R.set (k - A.length - H.length) z = R.take (k - A.length - H.length) ++ z :: R.drop (k - A.length - H.length + 1) := List.set_eq_take_append_cons_drop.trans (if_pos hi)
  have hset : (laidF ls).set k z = A ++ (H ++ (R.take (k - A.length - H.length) ++ z :: R.drop (k - A.length - H.length + 1)) ++ T) := by
    rw [e, List.set_append_right _ _ (by omega), List.set_append_right _ _ (by omega), List.set_append_left _ _ hi, hsz]; simp only [List.append_assoc]
  have hn := tkF_turned (b := b) (t := T) (by omega) hz (hR.symm.trans hsR)
  rw [hHH] at hn
  have hall := allF_laid (ls.take m) (fun y hy => by have := h y (List.mem_of_mem_take hy); omega) (H ++ (R.take (k - A.length - H.length) ++ z :: R.drop (k - A.length - H.length + 1)) ++ T)
  rw [hA, allF_none hn, List.append_nil] at hall
  rw [hset, hall, List.drop_left]
end Go.Proofs.Ytcekecpbjmfbhaa
