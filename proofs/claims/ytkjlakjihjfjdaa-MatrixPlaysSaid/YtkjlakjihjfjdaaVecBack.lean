/- What a vector was put as is taken; what is taken has the very bytes. -/
import Derived.Test.YtkjlakjihjfjdaaVecTake
namespace Go.Proofs.Ytkjlakjihjfjdaa
open Go.RowKit Go.Proofs.YtkjlakjihjfjdaaW.PrintWords Pk
set_option linter.unusedVariables false
set_option linter.unusedSimpArgs false

theorem tkN_put : ∀ (v : List Int) (hb : Fits64 v) (t : List UInt8), tkN v.length (putL v ++ t) = some (v, t)
  | [], _, t => rfl
  | x :: v, hb, t => by
    have hx := hb x List.mem_cons_self
    have ih := tkN_put v (fun y hy => hb y (List.mem_cons_of_mem _ hy)) t
    have e : putL (x :: v) ++ t = numB (zig x) ++ (putL v ++ t) := by simp [putL]
    rw [e]
    show (match tk (numB (zig x) ++ (putL v ++ t)) 0 0 with | none => none | some (m, r) => match tkN v.length r with | none => none | some (v, q) => some (unzig m :: v, q)) = _
    rw [tk_back (zig_lt hx.1 hx.2)]
    show (match tkN v.length (putL v ++ t) with | none => none | some (v, q) => some (unzig (zig x) :: v, q)) = _
    rw [ih, unzig_zig]
theorem tkV_put {v : List Int} (hv : v.length = 8) (hb : Fits64 v) (s : ByteArray) : tkV (putV v ++ s).data.toList = if mayV v = true then some (v, s.data.toList) else none := by
  have e : (putV v ++ s).data.toList = putL v ++ s.data.toList := by unfold putV; rw [append_list]
  have h := tkN_put v hb s.data.toList
  rw [hv] at h
  unfold tkV
  rw [e, h]; rfl
theorem tkN_very : ∀ (n : Nat) (l : List UInt8) (v : List Int) (q : List UInt8), tkN n l = some (v, q) → v.length = n ∧ Fits64 v ∧ putL v ++ q = l ∧ q.length ≤ l.length
  | 0, l, v, q, h => by
    simp only [tkN, Option.some.injEq, Prod.mk.injEq] at h
    obtain ⟨rfl, rfl⟩ := h
    exact ⟨rfl, fun x hx => by simp at hx, rfl, Nat.le_refl _⟩
  | n + 1, l, v, q, h => by
    change (match tk l 0 0 with | none => none | some (m, r) => match tkN n r with | none => none | some (v, q) => some (unzig m :: v, q)) = _ at h
    cases hT : tk l 0 0 with
    | none => rw [hT] at h; simp at h
    | some p =>
      obtain ⟨m, r⟩ := p
      rw [hT] at h
      change (match tkN n r with | none => none | some (v, q) => some (unzig m :: v, q)) = _ at h
      cases hR : tkN n r with
      | none => rw [hR] at h; simp at h
      | some p2 =>
        obtain ⟨v2, q2⟩ := p2
        rw [hR] at h
        simp only [Option.some.injEq, Prod.mk.injEq] at h
        obtain ⟨rfl, rfl⟩ := h
        obtain ⟨h1, h2, h3, h4⟩ := tkN_very n r v2 q2 hR
        have b1 := tk_bytes hT
        have l1 := tk_len _ _ _ _ _ hT
        refine ⟨by simp [h1], ?_, ?_, by omega⟩
        · intro x hx
          rcases List.mem_cons.1 hx with rfl | hx
          · exact unzig_bd (tk_bd _ _ _ _ _ (by decide) (by decide) hT)
          · exact h2 x hx
        · have e : putL (unzig m :: v2) ++ q2 = numB (zig (unzig m)) ++ (putL v2 ++ q2) := by simp [putL]
          rw [e, zig_unzig, h3, ← b1]
theorem tkV_very {s : ByteArray} {v : List Int} {q : List UInt8} (h : tkV s.data.toList = some (v, q)) : v.length = 8 ∧ Fits64 v ∧ mayV v = true ∧ putV v ++ ⟨q.toArray⟩ = s ∧ q.length ≤ s.size := by
  unfold tkV at h
  cases hT : tkN 8 s.data.toList with
  | none => rw [hT] at h; simp [fin] at h
  | some p =>
    obtain ⟨v2, q2⟩ := p
    rw [hT] at h
    change (if mayV ([] ++ v2) = true then some ([] ++ v2, q2) else none) = _ at h
    rw [List.nil_append] at h
    split at h
    · rename_i hm
      simp only [Option.some.injEq, Prod.mk.injEq] at h
      obtain ⟨rfl, rfl⟩ := h
      obtain ⟨h1, h2, h3, h4⟩ := tkN_very 8 _ _ _ hT
      refine ⟨h1, h2, hm, ?_, h4⟩
      unfold putV
      rw [mk_append, h3]
    · simp at h
end Go.Proofs.Ytkjlakjihjfjdaa
