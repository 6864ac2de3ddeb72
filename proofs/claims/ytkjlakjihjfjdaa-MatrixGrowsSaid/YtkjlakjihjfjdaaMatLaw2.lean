/- Rows that grow, in plain Lean; ranges of numbers, loaded. -/
import Derived.Test.YtkjlakjihjfjdaaMatLaw
namespace Go.Proofs.Ytkjlakjihjfjdaa
open Go.RowKit Go.Proofs.YtkjlakjihjfjdaaW.PrintWords
set_option linter.unusedVariables false
set_option linter.unusedSimpArgs false

theorem below_range {n b o : Nat} {w w' : World} {cs : List Value} (h : Below n w w') (hc : w.rangeAt b o cs) (hb : b < n) : w'.rangeAt b o cs := fun j v hj => (h.cell (p := ⟨b, o + j, none⟩) hb).trans (hc j v hj)
theorem run_load_range {o : Oper} {ρ : Operand → Value} {w : World} (ty : TypeId) (x : Operand) (ho : o.op = .load ty x) (b off : Nat) (r : List Int) (hx : ρ x = .pointer (some ⟨b, off, none⟩)) (hc : w.rangeAt b off (vec r).toList)
    (d : TypeDesc) (hu : Try.prog.underlying ty = some d) (hd : d.isRow = true) (hi : (Try.prog.info? ty).map (·.size) = some r.length) : (execOp ρ o).run Try.prog w = .ok (.value (.agg (vec r))) w := by
  unfold execOp
  simp only [ho, hx, Instr.loadAt, Instr.sureAddr, Sem.run_bind, Sem.run_pure, Result.andThen_ok, run_loadVar_mid w b off ty _ d hc hu hd (by rw [len_vec]; exact hi), vec_toList]

theorem join_self_join (a r : List Int) : joinL (joinL a r) r = joinL a r := by rw [joinA, joinS]
theorem join_back (a r : List Int) : joinL (joinL a r) a = joinL a r := by rw [joinC, ← joinA, joinS]
theorem cov_self (a : List Int) : covL a a = true := by unfold covL; rw [joinS]; exact eqV_refl a
/-- What a row was, it covers. -/
theorem now_covers {wS nS : List Int} {wT nT : Int} (hw : wS.length = 8) (hn : nS.length = 8) {r : List Int} (hr : r.length = 9) (h : nS ++ [nT] = joinL (wS ++ [wT]) r ∨ nS ++ [nT] = wS ++ [wT]) : covL nS wS = true ∧ ¬ nT < wT := by
  rcases h with h | h
  · obtain ⟨u, y, hu, rfl⟩ := nine hr
    have e : joinL (wS ++ [wT]) (u ++ [y]) = joinL wS u ++ [mx wT y] := bothL_app hw hu wT y
    rw [e] at h
    have h2 := List.append_inj h (by rw [hn]; exact (bothL_len hw hu).symm)
    obtain ⟨rfl, h3⟩ := h2
    have h4 : nT = mx wT y := by simpa using h3
    refine ⟨?_, by rw [h4, mxd]; omega⟩
    unfold covL
    rw [join_back]; exact eqV_refl _
  · have h2 := List.append_inj h (by omega)
    obtain ⟨rfl, h3⟩ := h2
    have h4 : nT = wT := by simpa using h3
    exact ⟨cov_self _, by omega⟩
theorem inM_told {n rep : Int} {r : List Int} (h : takes n rep r = true) : inM n rep = true := by unfold takes at h; cases h1 : inM n rep <;> simp_all
/-- What was told is not lacked. -/
theorem told_lacks {n rep : Int} {L r : List Int} (hL : L.length = 72) (hn : n ≤ 8) (hr : r.length = 9) (h : takes n rep r = true) : eqV (joinL (rowAt n (told n L rep r) rep) r) (rowAt n (told n L rep r) rep) = true := by
  have hin := inM_told h
  have e : rowAt n (told n L rep r) rep = joinL (rowM L rep.toNat) r := by
    unfold rowAt
    have hin2 := hin
    simp [inM] at hin2
    rw [if_pos hin, rowM_told hL hn hr, if_pos ⟨h, by omega⟩]
  rw [e, join_self_join]
  exact eqV_refl _
/-- The times are none below zero. -/
def PosM (L : List Int) : Prop := ∀ j x, j < 8 → (rowM L j)[8]? = some x → 0 ≤ x
theorem PosM.zero : PosM zero72 := by
  intro j x hj hx
  rw [rowM_zero j hj] at hx
  have : x = 0 := by
    unfold zero9 at hx
    rw [List.getElem?_replicate] at hx
    simp at hx
    exact hx.symm
  omega
theorem PosM.told {n rep : Int} {L r : List Int} (h : PosM L) (hL : L.length = 72) (hn : n ≤ 8) (hr : r.length = 9) : PosM (told n L rep r) := by
  intro j x hj hx
  rw [rowM_told hL hn hr] at hx
  split at hx
  · unfold joinL bothL at hx
    rw [List.getElem?_zipWith] at hx
    have h9 := rowM_len hL hj
    have e1 : (rowM L j)[8]? = some ((rowM L j)[8]) := List.getElem?_eq_getElem (by omega)
    have e2 : r[8]? = some (r[8]) := List.getElem?_eq_getElem (by omega)
    rw [e1, e2] at hx
    have := h j _ hj e1
    simp [mxd] at hx
    omega
  · exact h j x hj hx
theorem least_pos {L : List Int} (h : PosM L) (hL : L.length = 72) : ∀ n, n ≤ 8 → 0 ≤ leastM L n
  | 0, _ => h 0 _ (by omega) (rowM_at hL (by omega) (by omega))
  | n + 1, hn => by
    have h1 := least_pos h hL n (by omega)
    have h2 := h n _ (by omega) (rowM_at hL (i := n) (k := 8) (by omega) (by omega))
    unfold leastM
    split <;> assumption
theorem stab_pos {L : List Int} (h : PosM L) (hL : L.length = 72) (n : Nat) (hn : n ≤ 8) : 0 ≤ stabM n L := by
  by_cases hb : BadM n L
  · rw [stabM_bad hb]; omega
  · rw [stabM_good hb]; exact least_pos h hL n hn
end Go.Proofs.Ytkjlakjihjfjdaa
