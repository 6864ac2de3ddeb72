/- Texts that belong together, in one. -/
import Derived.Test.YtcpgfllnaiabkaaMatShAll
/- Rows that are merged, and told, in plain Lean. -/
namespace Go.Proofs.Ytcpgfllnaiabkaa
open Go.RowKit Go.Proofs.YtcpgfllnaiabkaaW.PrintWords
set_option linter.unusedVariables false
set_option linter.unusedSimpArgs false

theorem mxd (x y : Int) : mx x y = max x y := by unfold mx; split <;> omega
theorem joinC : ∀ (a b : List Int), joinL a b = joinL b a
  | [], b => by simp [joinL, bothL]
  | a :: s, [] => by simp [joinL, bothL]
  | a :: s, b :: t => by
    have h := joinC s t
    unfold joinL bothL at *
    rw [List.zipWith_cons_cons, List.zipWith_cons_cons, h, mxd, mxd]
    congr 1; omega
theorem joinA : ∀ (a b c : List Int), joinL (joinL a b) c = joinL a (joinL b c)
  | [], b, c => by simp [joinL, bothL]
  | a :: s, [], c => by simp [joinL, bothL]
  | a :: s, b :: t, [] => by simp [joinL, bothL]
  | a :: s, b :: t, c :: u => by
    have h := joinA s t u
    unfold joinL bothL at *
    simp only [List.zipWith_cons_cons, h, mxd]
    congr 1; omega
theorem joinS : ∀ (a : List Int), joinL a a = a
  | [] => rfl
  | a :: s => by
    have h := joinS s
    unfold joinL bothL at *
    rw [List.zipWith_cons_cons, h, mxd]
    congr 1; omega
theorem joinZ {a : List Int} (ha : a.length = 9) (hm : mayV a = true) : joinL zero9 a = a := by
  have key : ∀ (n : Nat) (a : List Int), a.length = n → mayV a = true → joinL (List.replicate n 0) a = a := by
    intro n
    induction n with
    | zero => intro a ha _; obtain rfl := List.eq_nil_of_length_eq_zero ha; rfl
    | succ n ih =>
      intro a ha hm
      match a, ha, hm with
      | x :: s, ha, hm =>
        rw [mayV_cons] at hm
        simp only [Bool.and_eq_true, decide_eq_true_eq] at hm
        have h := ih s (by simpa using ha) hm.2
        unfold joinL bothL at *
        rw [List.replicate_succ, List.zipWith_cons_cons, h, mxd]
        congr 1; omega
  exact key 9 a ha hm
theorem merge3 (a b c : List Int) : joinL (joinL a b) c = joinL c (joinL b a) := by rw [joinC (joinL a b) c, joinC a b]
theorem eqV_refl (a : List Int) : eqV a a = true := by simp [eqV]
theorem rowM_tell {L r : List Int} (hL : L.length = 72) {k : Nat} (hk : k < 8) (hr : r.length = 9) : rowM (tellM L k r) k = joinL (rowM L k) r := by
  have h9 := join9 (rowM_len hL hk) hr
  unfold tellM
  have := layL_at L (9 * k) (joinL (rowM L k) r) (by rw [h9]; omega)
  rw [h9] at this
  exact this
theorem rowM_tell_other {L r : List Int} (hL : L.length = 72) {k j : Nat} (hk : k < 8) (hr : r.length = 9) (hj : j ≠ k) : rowM (tellM L k r) j = rowM L j := by
  have h9 := join9 (rowM_len hL hk) hr
  unfold tellM
  exact layL_off L (9 * k) _ (by rw [h9]; omega) (9 * j) 9 (by rw [h9]; omega)
/-- A row behind what was told to some replica. -/
theorem rowM_told {n : Int} {L r : List Int} (hL : L.length = 72) (hn : n ≤ 8) (hr : r.length = 9) (rep : Int) (j : Nat) : rowM (told n L rep r) j = if takes n rep r = true ∧ (j : Int) = rep then joinL (rowM L j) r else rowM L j := by
  unfold told
  by_cases ht : takes n rep r = true
  · rw [if_pos ht]
    have ht2 := ht
    simp [takes, inM] at ht2
    obtain ⟨k, rfl⟩ : ∃ k : Nat, rep = (k : Int) := ⟨rep.toNat, by omega⟩
    by_cases hj : j = k
    · subst hj
      rw [if_pos ⟨ht, rfl⟩]
      exact rowM_tell hL (by omega) hr
    · rw [if_neg (by omega)]
      exact rowM_tell_other hL (by omega) hr (by simpa using hj)
  · rw [if_neg ht, if_neg (fun h => ht h.1)]
theorem rowM_zero (k : Nat) (hk : k < 8) : rowM zero72 k = zero9 := by
  unfold rowM zero72 zero9
  rw [List.drop_replicate, List.take_replicate]
  congr 1; omega
theorem takes0 (r : List Int) : takes 2 0 r = mayV r := by simp [takes, inM]
/-- What the law MatrixMerges tells of two rows. -/
theorem merges_law {a b : List Int} (ha : a.length = 9) (hb : b.length = 9) :
    let L1 := told 2 zero72 0 a; let L2 := told 2 L1 0 b; let L3 := told 2 L2 0 a
    L1.length = 72 ∧ L2.length = 72 ∧ L3.length = 72 ∧ rowM L3 0 = rowM L2 0 ∧ rowM L3 1 = zero9 ∧ (mayV a = true → mayV b = true → rowM L2 0 = joinL a b) := by
  intro L1 L2 L3
  have h1 : L1.length = 72 := told_len rfl (by omega) ha
  have h2 : L2.length = 72 := told_len h1 (by omega) hb
  have h3 : L3.length = 72 := told_len h2 (by omega) ha
  have r1 : rowM L1 0 = if mayV a = true then joinL zero9 a else zero9 := by
    show rowM (told 2 zero72 0 a) 0 = _
    rw [rowM_told rfl (by omega) ha, takes0, rowM_zero 0 (by omega)]; simp
  have r2 : rowM L2 0 = if mayV b = true then joinL (rowM L1 0) b else rowM L1 0 := by
    show rowM (told 2 L1 0 b) 0 = _
    rw [rowM_told h1 (by omega) hb, takes0]; simp
  have r3 : rowM L3 0 = if mayV a = true then joinL (rowM L2 0) a else rowM L2 0 := by
    show rowM (told 2 L2 0 a) 0 = _
    rw [rowM_told h2 (by omega) ha, takes0]; simp
  have s3 : rowM L3 1 = zero9 := by
    show rowM (told 2 L2 0 a) 1 = _
    rw [rowM_told h2 (by omega) ha, if_neg (by simp)]
    show rowM (told 2 L1 0 b) 1 = _
    rw [rowM_told h1 (by omega) hb, if_neg (by simp)]
    show rowM (told 2 zero72 0 a) 1 = _
    rw [rowM_told rfl (by omega) ha, if_neg (by simp), rowM_zero 1 (by omega)]
  refine ⟨h1, h2, h3, ?_, s3, ?_⟩
  · rw [r3, r2, r1]
    cases hma : mayV a <;> cases hmb : mayV b <;> simp only [if_true, if_false, Bool.false_eq_true]
    · rw [joinA, joinS]
    · rw [joinA, joinC b a, ← joinA, joinA zero9 a a, joinS]
  · intro hma hmb
    rw [r2, r1, if_pos hma, if_pos hmb, joinZ ha hma]
end Go.Proofs.Ytcpgfllnaiabkaa

/- Rows that grow, in plain Lean; ranges of numbers, loaded. -/
namespace Go.Proofs.Ytcpgfllnaiabkaa
open Go.RowKit Go.Proofs.YtcpgfllnaiabkaaW.PrintWords
set_option linter.unusedVariables false
set_option linter.unusedSimpArgs false

theorem below_range {n b o : Nat} {w w' : World} {cs : List Value} (h : Below n w w') (hc : w.rangeAt b o cs) (hb : b < n) : w'.rangeAt b o cs := fun j v hj => (h.cell (p := ⟨b, o + j, none⟩) hb).trans (hc j v hj)
theorem run_load_range {o : Oper} {ρ : Operand → Value} {w : World} (ty : TypeId) (x : Operand) (ho : o.op = .load ty x) (b off : Nat) (r : List Int) (hx : ρ x = .pointer (some ⟨b, off, none⟩)) (hc : w.rangeAt b off (vec r).toList)
    (d : TypeDesc) (hu : Try.prog.underlying ty = some d) (hd : d.isRow = true) (hi : (Try.prog.info? ty).map (·.size) = some r.length) : (execOp ρ o).run Try.prog w = .ok (.value (.agg (vec r))) w := by
  unfold execOp
  simp only [ho, hx, Instr.loadAt, Instr.sureAddr, Sem.run_bind, Sem.run_pure, Result.andThen_ok, run_loadVar_mid w b off ty _ d hc hu hd (by rw [len_vec]; exact hi), vec_toList]

theorem join_self_join (a r : List Int) : joinL (joinL a r) r = joinL a r := by rw [joinA, joinS]
theorem join_back (a r : List Int) : joinL (joinL a r) a = joinL a r := by rw [joinC, ← joinA, joinS]
theorem cov_self (a : List Int) : covL a a = true := by unfold covL; rw [joinS]; exact eqV_refl a
/-- What a row was, it covers. -/
theorem now_covers {wS nS : List Int} {wT nT : Int} (hw : wS.length = 8) (hn : nS.length = 8) {r : List Int} (hr : r.length = 9) (h : nS ++ [nT] = joinL (wS ++ [wT]) r ∨ nS ++ [nT] = wS ++ [wT]) : covL nS wS = true ∧ ¬ nT < wT := by
  rcases h with h | h
  · obtain ⟨u, y, hu, rfl⟩ := nine hr
    have e : joinL (wS ++ [wT]) (u ++ [y]) = joinL wS u ++ [mx wT y] := bothL_app hw hu wT y
    rw [e] at h
    have h2 := List.append_inj h (by rw [hn]; exact (bothL_len hw hu).symm)
    obtain ⟨rfl, h3⟩ := h2
    have h4 : nT = mx wT y := by simpa using h3
    refine ⟨?_, by rw [h4, mxd]; omega⟩
    unfold covL
    rw [join_back]; exact eqV_refl _
  · have h2 := List.append_inj h (by omega)
    obtain ⟨rfl, h3⟩ := h2
    have h4 : nT = wT := by simpa using h3
    exact ⟨cov_self _, by omega⟩
theorem inM_told {n rep : Int} {r : List Int} (h : takes n rep r = true) : inM n rep = true := by unfold takes at h; cases h1 : inM n rep <;> simp_all
/-- What was told is not lacked. -/
theorem told_lacks {n rep : Int} {L r : List Int} (hL : L.length = 72) (hn : n ≤ 8) (hr : r.length = 9) (h : takes n rep r = true) : eqV (joinL (rowAt n (told n L rep r) rep) r) (rowAt n (told n L rep r) rep) = true := by
  have hin := inM_told h
  have e : rowAt n (told n L rep r) rep = joinL (rowM L rep.toNat) r := by
    unfold rowAt
    have hin2 := hin
    simp [inM] at hin2
    rw [if_pos hin, rowM_told hL hn hr, if_pos ⟨h, by omega⟩]
  rw [e, join_self_join]
  exact eqV_refl _
/-- The times are none below zero. -/
def PosM (L : List Int) : Prop := ∀ j x, j < 8 → (rowM L j)[8]? = some x → 0 ≤ x
theorem PosM.zero : PosM zero72 := by
  intro j x hj hx
  rw [rowM_zero j hj] at hx
  have : x = 0 := by
    unfold zero9 at hx
    rw [List.getElem?_replicate] at hx
    simp at hx
    exact hx.symm
  omega
theorem PosM.told {n rep : Int} {L r : List Int} (h : PosM L) (hL : L.length = 72) (hn : n ≤ 8) (hr : r.length = 9) : PosM (told n L rep r) := by
  intro j x hj hx
  rw [rowM_told hL hn hr] at hx
  split at hx
  · unfold joinL bothL at hx
    rw [List.getElem?_zipWith] at hx
    have h9 := rowM_len hL hj
    have e1 : (rowM L j)[8]? = some ((rowM L j)[8]) := List.getElem?_eq_getElem (by omega)
    have e2 : r[8]? = some (r[8]) := List.getElem?_eq_getElem (by omega)
    rw [e1, e2] at hx
    have := h j _ hj e1
    simp [mxd] at hx
    omega
  · exact h j x hj hx
theorem least_pos {L : List Int} (h : PosM L) (hL : L.length = 72) : ∀ n, n ≤ 8 → 0 ≤ leastM L n
  | 0, _ => h 0 _ (by omega) (rowM_at hL (by omega) (by omega))
  | n + 1, hn => by
    have h1 := least_pos h hL n (by omega)
    have h2 := h n _ (by omega) (rowM_at hL (i := n) (k := 8) (by omega) (by omega))
    unfold leastM
    split <;> assumption
theorem stab_pos {L : List Int} (h : PosM L) (hL : L.length = 72) (n : Nat) (hn : n ≤ 8) : 0 ≤ stabM n L := by
  by_cases hb : BadM n L
  · rw [stabM_bad hb]; omega
  · rw [stabM_good hb]; exact least_pos h hL n hn
end Go.Proofs.Ytcpgfllnaiabkaa
