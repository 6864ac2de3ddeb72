/- Records, in plain Lean: what one is, what a string begins with, all of it; what was laid is found, and nothing else. -/
import Derived.Test.YtcekecpbjmfbhaaPackAll
import Derived.Test.YtcekecpbjmfbhaaCrcAll
namespace Go.Proofs.Ytcekecpbjmfbhaa
open Pk Cr
set_option linter.unusedVariables false
set_option linter.unusedSimpArgs false

/-- Four bytes of a number, the highest first. -/
def be4 (c : Nat) : List UInt8 := [UInt8.ofNat (c / 16777216), UInt8.ofNat (c / 65536), UInt8.ofNat (c / 256), UInt8.ofNat c]
theorem be4_inj {c d : Nat} (hc : c < 4294967296) (hd : d < 4294967296) (h : be4 c = be4 d) : c = d := by
  unfold be4 at h
  simp only [List.cons.injEq, and_true] at h
  obtain ⟨h1, h2, h3, h4⟩ := h
  have e : ∀ x y : Nat, UInt8.ofNat x = UInt8.ofNat y → x % 256 = y % 256 := fun x y h => by
    have := congrArg UInt8.toNat h
    simpa using this
  have := e _ _ h1; have := e _ _ h2; have := e _ _ h3; have := e _ _ h4
  omega
/-- A body's record, ahead of its sum; the record. -/
def headF (b : List UInt8) : List UInt8 := numB b.length ++ b
def putF (b : List UInt8) : List UInt8 := headF b ++ be4 (ofv (headF b))
/-- The record with which a string begins. -/
def tkF (l : List UInt8) : Option (List UInt8 × List UInt8) :=
  match tx 65536 (tk l 0 0) with
  | none => none
  | some (b, r) => if r.length < 4 then none else if be4 (ofv (l.take (l.length - r.length))) = r.take 4 then some (b, r.drop 4) else none
theorem tx_head {b r : List UInt8} (h : b.length ≤ 65536) : tx 65536 (tk (headF b ++ r) 0 0) = some (b, r) := by
  unfold headF
  rw [List.append_assoc, tk_back (by omega)]
  show (if _ then none else some _) = _
  rw [if_neg (by rw [List.length_append]; omega), List.take_left, List.drop_left]
theorem tx_very {l b r : List UInt8} (h : tx 65536 (tk l 0 0) = some (b, r)) : b.length ≤ 65536 ∧ l = headF b ++ r := by
  cases hT : tk l 0 0 with
  | none => rw [hT] at h; cases h
  | some p =>
    obtain ⟨n, q⟩ := p
    rw [hT] at h
    have hb := tk_bytes hT
    unfold tx at h
    simp only at h
    split at h
    · cases h
    · rename_i hq
      simp only [Option.some.injEq, Prod.mk.injEq] at h
      obtain ⟨rfl, rfl⟩ := h
      have hl : (q.take n).length = n := by rw [List.length_take]; omega
      refine ⟨by rw [hl]; omega, ?_⟩
      unfold headF
      rw [hl, List.append_assoc, List.take_append_drop]
      exact hb
theorem tkF_put {b : List UInt8} (h : b.length ≤ 65536) (r : List UInt8) : tkF (putF b ++ r) = some (b, r) := by
  unfold tkF putF
  rw [List.append_assoc, tx_head h]
  simp only
  have h4 : (be4 (ofv (headF b))).length = 4 := rfl
  rw [if_neg (by rw [List.length_append, h4]; omega)]
  have e1 : (headF b ++ (be4 (ofv (headF b)) ++ r)).length - (be4 (ofv (headF b)) ++ r).length = (headF b).length := by rw [List.length_append]; omega
  rw [e1, List.take_left, ← h4, List.take_left, if_pos rfl, List.drop_left]
theorem tkF_very {l b r : List UInt8} (h : tkF l = some (b, r)) : b.length ≤ 65536 ∧ l = putF b ++ r := by
  unfold tkF at h
  split at h
  · cases h
  · rename_i b' q hx
    obtain ⟨hb, rfl⟩ := tx_very hx
    split at h
    · cases h
    · rename_i hq
      split at h
      · rename_i he
        simp only [Option.some.injEq, Prod.mk.injEq] at h
        obtain ⟨rfl, rfl⟩ := h
        refine ⟨hb, ?_⟩
        have e1 : (headF b' ++ q).length - q.length = (headF b').length := by rw [List.length_append]; omega
        rw [e1, List.take_left] at he
        unfold putF
        rw [he, List.append_assoc, List.take_append_drop]
      · cases h
theorem putF_len (b : List UInt8) : (putF b).length = (headF b).length + 4 := by unfold putF; rw [List.length_append]; rfl
theorem tkF_len {l b r : List UInt8} (h : tkF l = some (b, r)) : r.length < l.length := by
  obtain ⟨_, rfl⟩ := tkF_very h
  rw [List.length_append, putF_len]; omega
/-- All records of a string, and what is left behind them. -/
def allF (l : List UInt8) : List (List UInt8) × List UInt8 :=
  match h : tkF l with
  | none => ([], l)
  | some (b, r) => (b :: (allF r).1, (allF r).2)
termination_by l.length
decreasing_by exact tkF_len h
theorem allF_none {l : List UInt8} (h : tkF l = none) : allF l = ([], l) := by
  rw [allF]
  split
  · rfl
  · rename_i h2; rw [h] at h2; cases h2
theorem allF_some {l b r : List UInt8} (h : tkF l = some (b, r)) : allF l = (b :: (allF r).1, (allF r).2) := by
  rw [allF]
  split
  · rename_i h2; rw [h] at h2; cases h2
  · rename_i h2
    rw [h] at h2
    cases h2
    rfl
/-- Records, one behind the other. -/
def laidF (ls : List (List UInt8)) : List UInt8 := (ls.map putF).flatten
theorem laidF_nil : laidF [] = [] := rfl
theorem laidF_cons (b : List UInt8) (t : List (List UInt8)) : laidF (b :: t) = putF b ++ laidF t := rfl
theorem laidF_append (a b : List (List UInt8)) : laidF (a ++ b) = laidF a ++ laidF b := by unfold laidF; rw [List.map_append, List.flatten_append]
theorem laidF_one (b : List UInt8) : laidF [b] = putF b := by rw [laidF_cons, laidF_nil, List.append_nil]
theorem allF_laid : ∀ (ls : List (List UInt8)), (∀ b ∈ ls, b.length ≤ 65536) → ∀ r, allF (laidF ls ++ r) = (ls ++ (allF r).1, (allF r).2)
  | [], _, r => by simp [laidF_nil]
  | b :: t, h, r => by
    rw [laidF_cons, List.append_assoc, allF_some (tkF_put (h b List.mem_cons_self) _), allF_laid t (fun x hx => h x (List.mem_cons_of_mem _ hx)) r]
    rfl
theorem allF_back (l : List UInt8) : l = laidF (allF l).1 ++ (allF l).2 ∧ tkF (allF l).2 = none ∧ ∀ b ∈ (allF l).1, b.length ≤ 65536 := by
  cases h : tkF l with
  | none => rw [allF_none h]; exact ⟨rfl, h, by simp⟩
  | some p =>
    obtain ⟨b, r⟩ := p
    obtain ⟨hb, e⟩ := tkF_very h
    have hl := tkF_len h
    obtain ⟨h1, h2, h3⟩ := allF_back r
    rw [allF_some h]
    refine ⟨?_, h2, ?_⟩
    · show l = laidF (b :: (allF r).1) ++ (allF r).2
      rw [laidF_cons, List.append_assoc, ← h1]; exact e
    · intro x hx
      rcases List.mem_cons.1 hx with rfl | hx
      · exact hb
      · exact h3 x hx
termination_by l.length
/-- A begin of a record that isn't all of it is none. -/
theorem tkF_part {b p t : List UInt8} (hb : b.length ≤ 65536) (h : putF b = p ++ t) (ht : t ≠ []) : tkF p = none := by
  cases hp : tkF p with
  | none => rfl
  | some x =>
    obtain ⟨b', r'⟩ := x
    obtain ⟨hb', e⟩ := tkF_very hp
    have h1 := tkF_put hb []
    rw [List.append_nil, h, e, List.append_assoc, tkF_put hb'] at h1
    simp only [Option.some.injEq, Prod.mk.injEq, List.append_eq_nil_iff] at h1
    exact absurd h1.2.2 ht
/-- Records that were laid, cut off: those that are whole are found. -/
theorem allF_cut {ls : List (List UInt8)} (h : ∀ b ∈ ls, b.length ≤ 65536) {k m : Nat} (hm : m ≤ ls.length) (h1 : (laidF (ls.take m)).length ≤ k) (h2 : ∀ j, m < j → j ≤ ls.length → k < (laidF (ls.take j)).length) (hk : k ≤ (laidF ls).length) :
    allF ((laidF ls).take k) = (ls.take m, ((laidF ls).take k).drop (laidF (ls.take m)).length) := by
  have e : laidF ls = laidF (ls.take m) ++ laidF (ls.drop m) := by rw [← laidF_append, List.take_append_drop]
  have hpre : ∀ b ∈ ls.take m, b.length ≤ 65536 := fun b hb => h b (List.mem_of_mem_take hb)
  have e2 : (laidF ls).take k = laidF (ls.take m) ++ (laidF (ls.drop m)).take (k - (laidF (ls.take m)).length) := by
    rw [e, List.take_append, List.take_of_length_le h1]
  have hnone : tkF ((laidF (ls.drop m)).take (k - (laidF (ls.take m)).length)) = none := by
    cases hd : ls.drop m with
    | nil => rw [laidF_nil, List.take_nil]; rfl
    | cons b t =>
      have hml : m < ls.length := by
        rcases Nat.lt_or_ge m ls.length with h | h
        · exact h
        · rw [List.drop_eq_nil_of_le h] at hd; cases hd
      have hb : b ∈ ls := List.mem_of_mem_drop (by rw [hd]; exact List.mem_cons_self)
      have ht : ls.take (m + 1) = ls.take m ++ [b] := by
        rw [List.take_succ_eq_append_getElem hml]
        congr 2
        have := List.drop_eq_getElem_cons hml
        rw [hd] at this
        exact (List.cons.inj this).1.symm
      have hlt := h2 (m + 1) (by omega) (by omega)
      rw [ht, laidF_append, laidF_one, List.length_append] at hlt
      rw [laidF_cons, List.take_append_of_le_length (by omega)]
      refine tkF_part (t := (putF b).drop (k - (laidF (ls.take m)).length)) (h b hb) (List.take_append_drop _ _).symm ?_
      intro hc
      have := congrArg List.length hc
      rw [List.length_drop] at this
      simp at this
      omega
  rw [e2, allF_laid _ hpre, allF_none hnone, List.append_nil, List.drop_left]
/-- A byte of a record that is another one, behind the bytes of its length: it is none. -/
theorem tkF_turned {b t : List UInt8} (hb : b.length ≤ 65536) {p q : List UInt8} {x y : UInt8} (hxy : x ≠ y) (h : b ++ be4 (ofv (headF b)) = p ++ x :: q) : tkF (numB b.length ++ (p ++ y :: q) ++ t) = none := by
  have h4 : (be4 (ofv (headF b))).length = 4 := rfl
  have hl : (p ++ y :: q).length = b.length + 4 := by
    have := congrArg List.length h
    rw [List.length_append, h4] at this
    simp only [List.length_append, List.length_cons] at this ⊢
    omega
  cases hT : tkF (numB b.length ++ (p ++ y :: q) ++ t) with
  | none => rfl
  | some z =>
    exfalso
    obtain ⟨b', r'⟩ := z
    obtain ⟨hb', e⟩ := tkF_very hT
    have e1 := tk_back (n := b.length) (by omega) ((p ++ y :: q) ++ t)
    have e2 := tk_back (n := b'.length) (by omega) (b' ++ be4 (ofv (headF b')) ++ r')
    have e3 : numB b'.length ++ (b' ++ be4 (ofv (headF b')) ++ r') = putF b' ++ r' := by unfold putF headF; simp
    rw [e3, ← e, List.append_assoc, e1] at e2
    simp only [Option.some.injEq, Prod.mk.injEq] at e2
    obtain ⟨hn, e2⟩ := e2
    have e4 : p ++ y :: q = b' ++ be4 (ofv (headF b')) := (List.append_inj e2 (by rw [hl, List.length_append, hn]; rfl)).1
    -- where is it?
    rcases Nat.lt_or_ge p.length b.length with hp | hp
    · -- in the body
      have hb1 : b = p ++ x :: q.take (b.length - p.length - 1) := by
        have := congrArg (List.take b.length) h
        rw [List.take_left, List.take_append, List.take_of_length_le (by omega), show b.length - p.length = (b.length - p.length - 1) + 1 from by omega, List.take_succ_cons] at this
        exact this
      have hb2 : b' = p ++ y :: q.take (b.length - p.length - 1) := by
        have := congrArg (List.take b.length) e4
        rw [hn, List.take_left, ← hn, List.take_append, List.take_of_length_le (by omega), show b.length - p.length = (b.length - p.length - 1) + 1 from by omega, List.take_succ_cons] at this
        exact this.symm
      have hs1 : be4 (ofv (headF b)) = q.drop (b.length - p.length - 1) := by
        have := congrArg (List.drop b.length) h
        rw [List.drop_left, List.drop_append, List.drop_eq_nil_of_le (by omega), List.nil_append, show b.length - p.length = (b.length - p.length - 1) + 1 from by omega, List.drop_succ_cons] at this
        exact this
      have hs2 : be4 (ofv (headF b')) = q.drop (b.length - p.length - 1) := by
        have := congrArg (List.drop b.length) e4
        rw [hn, List.drop_left, ← hn, List.drop_append, List.drop_eq_nil_of_le (by omega), List.nil_append, show b.length - p.length = (b.length - p.length - 1) + 1 from by omega, List.drop_succ_cons] at this
        exact this.symm
      have hc := be4_inj (ofv_lt _) (ofv_lt _) (hs1.trans hs2.symm)
      unfold ofv at hc
      have m1 := mor_lt (headF b) 4294967295 (by decide)
      have m2 := mor_lt (headF b') 4294967295 (by decide)
      have hm : mor (headF b) 4294967295 = mor (headF b') 4294967295 := by omega
      unfold headF at hm
      rw [← hn] at hm
      generalize numB b.length = nb at hm
      rw [hb1, hb2, ← List.append_assoc, ← List.append_assoc] at hm
      exact hxy (turned_one _ _ _ _ _ (by decide) hm)
    · -- in the sum
      have hb1 : b = p.take b.length := by
        have := congrArg (List.take b.length) h
        rw [List.take_left, List.take_append_of_le_length hp] at this
        exact this
      have hb2 : b' = p.take b.length := by
        have := congrArg (List.take b.length) e4
        rw [hn, List.take_left, ← hn, List.take_append_of_le_length hp] at this
        exact this.symm
      have hbb : b = b' := hb1.trans hb2.symm
      subst hbb
      have := h.symm.trans (e4.symm ▸ rfl : b ++ be4 (ofv (headF b)) = p ++ y :: q)
      have := List.append_cancel_left this
      exact hxy (List.cons.inj this).1
end Go.Proofs.Ytcekecpbjmfbhaa
