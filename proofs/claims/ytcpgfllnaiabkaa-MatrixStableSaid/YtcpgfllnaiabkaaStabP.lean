/- Stability: what holds of rows, times and issued numbers, whatever replicas do: plain laws. -/
import Derived.Test.YtcpgfllnaiabkaaMatShAll
import Derived.Test.YtcpgfllnaiabkaaMatLawAll
namespace Go.Proofs.Ytcpgfllnaiabkaa.matrixStable
open Go.RowKit Go.Proofs.YtcpgfllnaiabkaaW.PrintWords Go.Proofs.YtcpgfllnaiabkaaW.PrintLast Go.Proofs.YtcpgfllnaiabkaaW.PrintMore
set_option linter.unusedVariables false
set_option linter.unusedSimpArgs false

theorem layL_getD (C r : List Int) (o j : Nat) (h : o + r.length ≤ C.length) : (layL C o r).getD j 0 = if o ≤ j ∧ j < o + r.length then r.getD (j - o) 0 else C.getD j 0 := by
  unfold layL
  rw [List.getD_eq_getElem?_getD, List.getD_eq_getElem?_getD, List.getD_eq_getElem?_getD]
  have h1 : (C.take o).length = o := by rw [List.length_take]; omega
  by_cases ho : o ≤ j
  · rw [List.getElem?_append_right (by omega), h1]
    by_cases hr : j < o + r.length
    · rw [if_pos ⟨ho, hr⟩, List.getElem?_append_left (by omega)]
    · rw [if_neg (by omega), List.getElem?_append_right (by omega), List.getElem?_drop]
      congr 2
      omega
  · rw [if_neg (by omega), List.getElem?_append_left (by omega), List.getElem?_take, if_pos (by omega)]
theorem set_getD (C : List Int) (o j : Nat) (x : Int) (h : o < C.length) : (C.set o x).getD j 0 = if j = o then x else C.getD j 0 := by
  rw [List.getD_eq_getElem?_getD, List.getD_eq_getElem?_getD, List.getElem?_set]
  by_cases hj : j = o
  · subst hj; rw [if_pos rfl, if_pos h, if_pos rfl]; rfl
  · rw [if_neg (fun e => hj e.symm), if_neg hj]
theorem join_getD (a b : List Int) (k : Nat) (ha : k < a.length) (hb : k < b.length) : (joinL a b).getD k 0 = mx (a.getD k 0) (b.getD k 0) := by
  unfold joinL bothL
  rw [List.getD_eq_getElem?_getD, List.getD_eq_getElem?_getD, List.getD_eq_getElem?_getD, List.getElem?_zipWith, List.getElem?_eq_getElem ha, List.getElem?_eq_getElem hb]
  rfl
/-- What a replica has seen of another one; its row of these. -/
def sN (S : List Int) (a k : Nat) : Int := S.getD (8 * a + k) 0
def sRow (S : List Int) (a : Nat) : List Int := (S.drop (8 * a)).take 8
theorem sRow_len {S : List Int} (hS : S.length = 32) {a : Nat} (ha : a < 4) : (sRow S a).length = 8 := by unfold sRow; rw [List.length_take, List.length_drop]; omega
theorem sRow_at (S : List Int) (a k : Nat) (hk : k < 8) : (sRow S a).getD k 0 = sN S a k := by
  unfold sRow sN
  rw [List.getD_eq_getElem?_getD, List.getD_eq_getElem?_getD, List.getElem?_take, if_pos hk, List.getElem?_drop]
theorem rowM_getD (L : List Int) (i k : Nat) (hk : k < 9) : (rowM L i).getD k 0 = atM L i k := by
  unfold rowM atM
  rw [List.getD_eq_getElem?_getD, List.getD_eq_getElem?_getD, List.getElem?_take, if_pos hk, List.getElem?_drop]
/-- What holds behind so many steps. -/
structure StInv (i : Nat) (L S T : List Int) (I : List (List Int)) : Prop where
  lenL : L.length = 72
  lenS : S.length = 32
  lenT : T.length = 4
  lenI : I.length = 4
  own : ∀ b : Nat, b < 4 → sN S b b = ((I.getD b []).length : Int)
  le : ∀ a b : Nat, a < 4 → b < 4 → sN S a b ≤ sN S b b
  bnd : ∀ a k : Nat, a < 4 → k < 8 → 0 ≤ sN S a k ∧ sN S a k ≤ i
  tb : ∀ a : Nat, a < 4 → 0 ≤ T.getD a 0 ∧ T.getD a 0 ≤ i
  row : ∀ a k : Nat, a < 4 → k < 8 → 0 ≤ atM L a k ∧ atM L a k ≤ sN S a k
  rt : ∀ a : Nat, a < 4 → 0 ≤ atM L a 8 ∧ atM L a 8 ≤ T.getD a 0
  iss : ∀ (b k : Nat) (x : Int), b < 4 → (I.getD b [])[k]? = some x → 1 ≤ x ∧ (x ≤ atM L b 8 → (k : Int) < atM L b b)
theorem StInv.start : StInv 0 zero72 (List.replicate 32 0) (List.replicate 4 0) [[], [], [], []] := by
  have z : ∀ (n j : Nat), (List.replicate n (0 : Int)).getD j 0 = 0 := fun n j => by
    rw [List.getD_eq_getElem?_getD, List.getElem?_replicate]; split <;> rfl
  have zs : ∀ a k, sN (List.replicate 32 0) a k = 0 := fun a k => z _ _
  have zl : ∀ a k, atM zero72 a k = 0 := fun a k => z _ _
  have zi : ∀ b, ([[], [], [], []] : List (List Int)).getD b [] = [] := fun b => by
    match b with
    | 0 => rfl
    | 1 => rfl
    | 2 => rfl
    | 3 => rfl
    | b + 4 => rfl
  refine ⟨rfl, by simp, by simp, rfl, fun b _ => by rw [zs, zi]; rfl, fun a b _ _ => by rw [zs, zs]; omega, fun a k _ _ => by rw [zs]; omega, fun a _ => by rw [z]; omega, fun a k _ _ => by rw [zs, zl]; omega, fun a _ => by rw [z, zl]; omega, fun b k x _ h => by rw [zi] at h; simp at h⟩
theorem StInv.more {i j : Nat} {L S T : List Int} {I : List (List Int)} (h : StInv i L S T I) (hj : i ≤ j) : StInv j L S T I :=
  ⟨h.lenL, h.lenS, h.lenT, h.lenI, h.own, h.le, fun a k ha hk => by have := h.bnd a k ha hk; omega, fun a ha => by have := h.tb a ha; omega, h.row, h.rt, h.iss⟩
/-- One more is issued. -/
theorem StInv.issue {i : Nat} {L S T : List Int} {I : List (List Int)} (h : StInv i L S T I) {r : Nat} (hr : r < 4) :
    StInv (i + 1) L (S.set (8 * r + r) (sN S r r + 1)) (T.set r (T.getD r 0 + 1)) (I.set r (I.getD r [] ++ [T.getD r 0 + 1])) := by
  have hS := h.lenS
  have s : ∀ a k, a < 4 → k < 8 → sN (S.set (8 * r + r) (sN S r r + 1)) a k = if a = r ∧ k = r then sN S r r + 1 else sN S a k := fun a k ha hk => by
    unfold sN
    rw [set_getD _ _ _ _ (by omega)]
    by_cases e : a = r ∧ k = r
    · obtain ⟨rfl, rfl⟩ := e; rw [if_pos rfl, if_pos ⟨rfl, rfl⟩]
    · rw [if_neg (by omega), if_neg e]
  have t : ∀ a, (T.set r (T.getD r 0 + 1)).getD a 0 = if a = r then T.getD r 0 + 1 else T.getD a 0 := fun a => set_getD _ _ _ _ (by rw [h.lenT]; exact hr)
  have il : ∀ b, (I.set r (I.getD r [] ++ [T.getD r 0 + 1])).getD b [] = if b = r then I.getD r [] ++ [T.getD r 0 + 1] else I.getD b [] := fun b => by
    rw [List.getD_eq_getElem?_getD, List.getElem?_set]
    by_cases e : b = r
    · subst e; rw [if_pos rfl, if_pos (by rw [h.lenI]; exact hr), if_pos rfl]; rfl
    · rw [if_neg (fun x => e x.symm), if_neg e, List.getD_eq_getElem?_getD]
  refine ⟨h.lenL, by simpa using h.lenS, by simpa using h.lenT, by simpa using h.lenI, ?_, ?_, ?_, ?_, ?_, ?_, ?_⟩
  · intro b hb
    rw [s b b hb (by omega), il]
    have h1 := h.own b hb
    by_cases e : b = r
    · subst e; rw [if_pos ⟨rfl, rfl⟩, if_pos rfl, h1]; simp
    · rw [if_neg (by omega), if_neg e, h1]
  · intro a b ha hb
    rw [s a b ha (by omega), s b b hb (by omega)]
    have h1 := h.le a b ha hb
    split <;> split <;> first | omega | (rename_i e1 e2; obtain ⟨rfl, rfl⟩ := e1; omega) | (rename_i e1 e2; obtain ⟨rfl, -⟩ := e2; omega)
  · intro a k ha hk
    rw [s a k ha hk]
    have h1 := h.bnd a k ha hk
    have h2 := h.bnd r r hr (by omega)
    split <;> omega
  · intro a ha
    rw [t]
    have h1 := h.tb a ha
    have h2 := h.tb r hr
    split <;> omega
  · intro a k ha hk
    rw [s a k ha hk]
    have h1 := h.row a k ha hk
    split
    · rename_i e; obtain ⟨rfl, rfl⟩ := e; omega
    · exact h1
  · intro a ha
    rw [t]
    have h1 := h.rt a ha
    split
    · rename_i e; subst e; omega
    · exact h1
  · intro b k x hb hx
    rw [il] at hx
    by_cases e : b = r
    · subst e
      rw [if_pos rfl] at hx
      have hi := fun h0 => h.iss b k x hb h0
      have h1 := h.rt b hb
      have h2 := h.tb b hb
      clear s t il
      generalize I.getD b [] = l at *
      generalize T.getD b 0 = t at *
      by_cases hk : k < l.length
      · rw [List.getElem?_append_left hk] at hx
        exact hi hx
      · rw [List.getElem?_append_right (by omega)] at hx
        have hk2 : k - l.length = 0 := by
          have := (List.getElem?_eq_some_iff.1 hx).1
          simp at this; omega
        rw [hk2] at hx
        simp at hx
        subst hx
        exact ⟨by omega, fun h3 => by omega⟩
    · rw [if_neg e] at hx
      exact h.iss b k x hb hx
/-- One takes in what another one has seen. -/
theorem StInv.join {i : Nat} {L S T : List Int} {I : List (List Int)} (h : StInv i L S T I) {r o : Nat} (hr : r < 4) (ho : o < 4) :
    StInv i L (layL S (8 * r) (joinL (sRow S r) (sRow S o))) (T.set r (mx (T.getD r 0) (T.getD o 0))) I := by
  have hS := h.lenS
  have hl : (joinL (sRow S r) (sRow S o)).length = 8 := by unfold joinL bothL; rw [List.length_zipWith, sRow_len hS hr, sRow_len hS ho]; rfl
  have s : ∀ a k, a < 4 → k < 8 → sN (layL S (8 * r) (joinL (sRow S r) (sRow S o))) a k = if a = r then mx (sN S r k) (sN S o k) else sN S a k := fun a k ha hk => by
    show (layL S (8 * r) (joinL (sRow S r) (sRow S o))).getD (8 * a + k) 0 = _
    rw [layL_getD _ _ _ _ (by rw [hl]; omega), hl]
    by_cases e : a = r
    · subst e
      rw [if_pos (by omega), if_pos rfl, show 8 * a + k - 8 * a = k from by omega, join_getD _ _ _ (by rw [sRow_len hS hr]; exact hk) (by rw [sRow_len hS ho]; exact hk), sRow_at _ _ _ hk, sRow_at _ _ _ hk]
    · rw [if_neg (by omega), if_neg e]; rfl
  have t : ∀ a, (T.set r (mx (T.getD r 0) (T.getD o 0))).getD a 0 = if a = r then mx (T.getD r 0) (T.getD o 0) else T.getD a 0 := fun a => set_getD _ _ _ _ (by rw [h.lenT]; exact hr)
  have m : ∀ x y : Int, x ≤ mx x y ∧ y ≤ mx x y ∧ (mx x y = x ∨ mx x y = y) := fun x y => by unfold mx; split <;> omega
  refine ⟨h.lenL, by rw [layL_len (by rw [hl]; omega)]; exact hS, by simpa using h.lenT, h.lenI, ?_, ?_, ?_, ?_, ?_, ?_, h.iss⟩
  · intro b hb
    rw [s b b hb (by omega)]
    have h1 := h.own b hb
    split
    · rename_i e; subst e
      have h2 := h.le o b ho hb
      have h3 := m (sN S b b) (sN S o b)
      omega
    · exact h1
  · intro a b ha hb
    rw [s a b ha (by omega), s b b hb (by omega)]
    have h1 := h.le a b ha hb
    have h2 := h.le o b ho hb
    have h4 := h.le r b hr hb
    have h3 := m (sN S r b) (sN S o b)
    split <;> split
    · omega
    · omega
    · rename_i e1 e2; subst e2; omega
    · omega
  · intro a k ha hk
    rw [s a k ha hk]
    have h1 := h.bnd a k ha hk
    have h2 := h.bnd o k ho hk
    have h4 := h.bnd r k hr hk
    have h3 := m (sN S r k) (sN S o k)
    split <;> omega
  · intro a ha
    rw [t]
    have h1 := h.tb a ha
    have h2 := h.tb r hr
    have h4 := h.tb o ho
    have h3 := m (T.getD r 0) (T.getD o 0)
    split <;> omega
  · intro a k ha hk
    rw [s a k ha hk]
    have h1 := h.row a k ha hk
    have h3 := m (sN S r k) (sN S o k)
    split
    · rename_i e; subst e; omega
    · exact h1
  · intro a ha
    rw [t]
    have h1 := h.rt a ha
    have h3 := m (T.getD r 0) (T.getD o 0)
    split
    · rename_i e; subst e; omega
    · exact h1
/-- One tells its row. -/
theorem StInv.tell {i : Nat} {L S T : List Int} {I : List (List Int)} (h : StInv i L S T I) {r : Nat} (hr : r < 4) : StInv i (tellM L r (sRow S r ++ [T.getD r 0])) S T I := by
  have hL := h.lenL
  have hS := h.lenS
  have hl : (sRow S r ++ [T.getD r 0]).length = 9 := by rw [List.length_append, sRow_len hS hr]; rfl
  have hj : (joinL (rowM L r) (sRow S r ++ [T.getD r 0])).length = 9 := join9 (rowM_len hL (by omega)) hl
  have ra : ∀ k, k < 8 → (sRow S r ++ [T.getD r 0]).getD k 0 = sN S r k := fun k hk => by
    rw [List.getD_eq_getElem?_getD, List.getElem?_append_left (by rw [sRow_len hS hr]; exact hk), ← List.getD_eq_getElem?_getD, sRow_at _ _ _ hk]
  have r8 : (sRow S r ++ [T.getD r 0]).getD 8 0 = T.getD r 0 := by
    rw [List.getD_eq_getElem?_getD, List.getElem?_append_right (by rw [sRow_len hS hr]; omega), sRow_len hS hr]; rfl
  have l : ∀ a k, a < 4 → k < 9 → atM (tellM L r (sRow S r ++ [T.getD r 0])) a k = if a = r then mx (atM L r k) ((sRow S r ++ [T.getD r 0]).getD k 0) else atM L a k := fun a k ha hk => by
    show (layL L (9 * r) (joinL (rowM L r) (sRow S r ++ [T.getD r 0]))).getD (9 * a + k) 0 = _
    rw [layL_getD _ _ _ _ (by rw [hj]; omega), hj]
    by_cases e : a = r
    · subst e
      rw [if_pos (by omega), if_pos rfl, show 9 * a + k - 9 * a = k from by omega, join_getD _ _ _ (by rw [rowM_len hL (by omega)]; exact hk) (by rw [hl]; exact hk), rowM_getD _ _ _ hk]
    · rw [if_neg (by omega), if_neg e]; rfl
  have mr : ∀ x y : Int, x ≤ y → mx x y = y := fun x y h => by unfold mx; split <;> omega
  have lk : ∀ k, k < 8 → atM (tellM L r (sRow S r ++ [T.getD r 0])) r k = sN S r k := fun k hk => by
    rw [l r k hr (by omega), if_pos rfl, ra k hk, mr _ _ (h.row r k hr hk).2]
  have l8 : atM (tellM L r (sRow S r ++ [T.getD r 0])) r 8 = T.getD r 0 := by
    rw [l r 8 hr (by omega), if_pos rfl, r8, mr _ _ (h.rt r hr).2]
  refine ⟨tellM_len hL (by omega) hl, hS, h.lenT, h.lenI, h.own, h.le, h.bnd, h.tb, ?_, ?_, ?_⟩
  · intro a k ha hk
    by_cases e : a = r
    · subst e; rw [lk k hk]; have := h.bnd a k ha hk; omega
    · rw [l a k ha (by omega), if_neg e]; exact h.row a k ha hk
  · intro a ha
    by_cases e : a = r
    · subst e; rw [l8]; have := h.tb a ha; omega
    · rw [l a 8 ha (by omega), if_neg e]; exact h.rt a ha
  · intro b k x hb hx
    have h1 := h.iss b k x hb hx
    by_cases e : b = r
    · subst e
      refine ⟨h1.1, fun _ => ?_⟩
      rw [lk b (by omega), h.own b hb]
      have := (List.getElem?_eq_some_iff.1 hx).1
      omega
    · rw [l b 8 hb (by omega), if_neg e, l b b hb (by omega), if_neg e]; exact h1
theorem leastM_le (L : List Int) : ∀ (n i : Nat), i < n → leastM L n ≤ atM L i 8
  | n + 1, i, h => by
    show (if atM L n 8 < leastM L n then atM L n 8 else leastM L n) ≤ _
    rcases Nat.lt_succ_iff_lt_or_eq.1 h with h | rfl
    · have := leastM_le L n i h
      split <;> omega
    · split <;> omega
theorem StInv.fresh {i : Nat} {L S T : List Int} {I : List (List Int)} (h : StInv i L S T I) {r : Nat} (hr : r < 4) : ¬ T.getD r 0 + 1 ≤ stabM 4 L := by
  have h1 := h.tb r hr
  have h2 := h.rt r hr
  by_cases hb : BadM 4 L
  · rw [stabM_bad hb]; omega
  · rw [stabM_good hb]
    have := leastM_le L 4 r hr
    omega
theorem StInv.known {i : Nat} {L S T : List Int} {I : List (List Int)} (h : StInv i L S T I) {a b k : Nat} {x : Int} (ha : a < 4) (hb : b < 4) (hx : (I.getD b [])[k]? = some x) (hs : x ≤ stabM 4 L) : ¬ sN S a b < (k : Int) + 1 := by
  obtain ⟨h1, h2⟩ := h.iss b k x hb hx
  by_cases hbad : BadM 4 L
  · rw [stabM_bad hbad] at hs; omega
  · rw [stabM_good hbad] at hs
    have h3 := leastM_le L 4 b hb
    have h4 := h2 (by omega)
    have h5 : ¬ atM L a b < atM L b b := fun h => hbad ⟨a, b, ha, hb, h⟩
    have h6 := (h.row a b ha (by omega)).2
    omega
theorem all_mayV {v : List Int} (h : ∀ k, k < v.length → 0 ≤ v.getD k 0 ∧ v.getD k 0 ≤ 1073741824) : mayV v = true := by
  unfold mayV
  rw [List.all_eq_true]
  intro x hx
  obtain ⟨k, hk, rfl⟩ := List.mem_iff_getElem.1 hx
  have := h k hk
  rw [List.getD_eq_getElem?_getD, List.getElem?_eq_getElem hk] at this
  simp only [Option.getD_some] at this
  rw [Bool.and_eq_true]
  exact ⟨decide_eq_true this.1, decide_eq_true this.2⟩
theorem StInv.mayTell {i : Nat} {L S T : List Int} {I : List (List Int)} (h : StInv i L S T I) (hi : i ≤ 200) {r : Nat} (hr : r < 4) : takes 4 (r : Int) (sRow S r ++ [T.getD r 0]) = true := by
  have hS := h.lenS
  have hl : (sRow S r ++ [T.getD r 0]).length = 9 := by rw [List.length_append, sRow_len hS hr]; rfl
  unfold takes inM
  rw [Bool.and_eq_true, Bool.and_eq_true]
  refine ⟨⟨decide_eq_true (by omega), decide_eq_true (by omega)⟩, all_mayV fun k hk => ?_⟩
  rw [hl] at hk
  by_cases h8 : k < 8
  · have e : (sRow S r ++ [T.getD r 0]).getD k 0 = sN S r k := by
      rw [List.getD_eq_getElem?_getD, List.getElem?_append_left (by rw [sRow_len hS hr]; exact h8), ← List.getD_eq_getElem?_getD, sRow_at _ _ _ h8]
    rw [e]
    have := h.bnd r k hr h8
    omega
  · have e : k = 8 := by omega
    subst e
    have e : (sRow S r ++ [T.getD r 0]).getD 8 0 = T.getD r 0 := by
      rw [List.getD_eq_getElem?_getD, List.getElem?_append_right (by rw [sRow_len hS hr]; omega), sRow_len hS hr]; rfl
    rw [e]
    have := h.tb r hr
    omega
theorem StInv.tellsOk {i : Nat} {L S T : List Int} {I : List (List Int)} (h : StInv i L S T I) (hi : i ≤ 200) {r : Nat} (hr : r < 4) : StInv i (told 4 L (r : Int) (sRow S r ++ [T.getD r 0])) S T I := by
  have e : told 4 L (r : Int) (sRow S r ++ [T.getD r 0]) = tellM L r (sRow S r ++ [T.getD r 0]) := by
    show (if _ = true then _ else _) = _
    rw [if_pos (h.mayTell hi hr)]; rfl
  rw [e]
  exact h.tell hr
end Go.Proofs.Ytcpgfllnaiabkaa.matrixStable
