/- Texts that belong together, in one. -/
import Derived.Test.YtcgkkjfbdappoaaCauShown
import Derived.Test.YtcgkkjfbdappoaaOpRefL
import Derived.Test.YtcgkkjfbdappoaaMsgOpen
/- Histories of messages: the plain law: what waits is seen, one by one. -/
namespace Go.Proofs.Ytcgkkjfbdappoaa
open Go.RowKit Go.Proofs.YtcgkkjfbdappoaaW.PrintWords
set_option linter.unusedVariables false
set_option linter.unusedSimpArgs false

/-- How many messages of a replica there are. -/
def cntM (r : Int) (l : List MsgV) : Int := ((l.filter fun m => m.r == r).length : Int)
theorem cntM_nil (r : Int) : cntM r [] = 0 := rfl
theorem cntM_snoc (r : Int) (l : List MsgV) (m : MsgV) : cntM r (l ++ [m]) = cntM r l + (if m.r = r then 1 else 0) := by
  unfold cntM
  rw [List.filter_append, List.length_append]
  by_cases h : m.r = r
  · simp [h]
  · simp [h]
theorem cntM_pos (r : Int) (l : List MsgV) : 0 ≤ cntM r l := by unfold cntM; omega
theorem sameM_iff (x y : MsgV) : sameM x y = true ↔ x.r = y.r ∧ x.q = y.q := by unfold sameM; simp
/-- Messages as replicas issue them: each has the next number of its replica, and had seen no more than there was. -/
inductive Hist : List MsgV → Prop
  | nil : Hist []
  | snoc {a : List MsgV} {m : MsgV} : Hist a → m.fine = true → m.q = cntM m.r a + 1 → (∀ k : Nat, k < 8 → nth m.deps (k : Int) ≤ cntM (k : Int) a) → Hist (a ++ [m])
theorem Hist.fine {h : List MsgV} (H : Hist h) : ∀ m ∈ h, m.fine = true := by
  induction H with
  | nil => intro m hm; cases hm
  | snoc _ h1 _ _ ih =>
    intro x hx
    rcases List.mem_append.1 hx with hx | hx
    · exact ih x hx
    · obtain rfl := List.mem_singleton.1 hx; exact h1
theorem Hist.le {h : List MsgV} (H : Hist h) : ∀ m ∈ h, 1 ≤ m.q ∧ m.q ≤ cntM m.r h := by
  induction H with
  | nil => intro m hm; cases hm
  | @snoc a y _ h1 h2 _ ih =>
    intro x hx
    rw [cntM_snoc]
    rcases List.mem_append.1 hx with hx | hx
    · have := ih x hx
      split <;> omega
    · obtain rfl := List.mem_singleton.1 hx
      have := cntM_pos x.r a
      rw [if_pos rfl]
      omega
/-- Each number is there. -/
theorem Hist.there {h : List MsgV} (H : Hist h) : ∀ (r q : Int), 1 ≤ q → q ≤ cntM r h → ∃ m ∈ h, m.r = r ∧ m.q = q := by
  induction H with
  | nil => intro r q h1 h2; rw [cntM_nil] at h2; omega
  | @snoc a y _ _ hq _ ih =>
    intro r q h1 h2
    rw [cntM_snoc] at h2
    by_cases e : y.r = r
    · rw [if_pos e] at h2
      by_cases e2 : q ≤ cntM r a
      · obtain ⟨m, hm, h3⟩ := ih r q h1 e2
        exact ⟨m, List.mem_append_left _ hm, h3⟩
      · exact ⟨y, by simp, e, by rw [hq, e]; omega⟩
    · rw [if_neg e] at h2
      obtain ⟨m, hm, h3⟩ := ih r q h1 (by omega)
      exact ⟨m, List.mem_append_left _ hm, h3⟩
/-- No two are the same. -/
theorem Hist.apart {h : List MsgV} (H : Hist h) : h.Pairwise fun x y => sameM x y = false := by
  induction H with
  | nil => exact List.Pairwise.nil
  | @snoc a y Ha _ hq _ ih =>
    rw [List.pairwise_append]
    refine ⟨ih, List.pairwise_singleton _ _, fun x hx z hz => ?_⟩
    obtain rfl := List.mem_singleton.1 hz
    rw [← Bool.not_eq_true, sameM_iff]
    rintro ⟨h1, h2⟩
    have := Ha.le x hx
    rw [h1] at this
    omega
theorem apart_eq {l : List MsgV} (h : l.Pairwise fun x y => sameM x y = false) {x y : MsgV} (hx : x ∈ l) (hy : y ∈ l) (hs : sameM x y = true) : x = y := by
  induction l with
  | nil => cases hx
  | cons a t ih =>
    rw [List.pairwise_cons] at h
    have hc : sameM y x = true := by rw [sameM_iff] at *; exact ⟨hs.1.symm, hs.2.symm⟩
    rcases List.mem_cons.1 hx with e1 | hx1
    · rcases List.mem_cons.1 hy with e2 | hy1
      · rw [e1, e2]
      · rw [e1, h.1 y hy1] at hs; cases hs
    · rcases List.mem_cons.1 hy with e2 | hy1
      · rw [e2, h.1 x hx1] at hc; cases hc
      · exact ih h.2 hx1 hy1
theorem sameM_comm {x y : MsgV} (h : sameM x y = false) : sameM y x = false := by
  rw [← Bool.not_eq_true, sameM_iff] at *
  exact fun e => h ⟨e.1.symm, e.2.symm⟩
/-- One goes, if no two are the same. -/
theorem apart_len {l : List MsgV} (h : l.Pairwise fun x y => sameM x y = false) {m : MsgV} (hm : m ∈ l) : (l.filter fun x => !sameM x m).length + 1 = l.length := by
  induction l with
  | nil => cases hm
  | cons a t ih =>
    rw [List.pairwise_cons] at h
    rcases List.mem_cons.1 hm with rfl | hm
    · have e1 : sameM m m = true := by rw [sameM_iff]; exact ⟨rfl, rfl⟩
      have e2 : (t.filter fun x => !sameM x m) = t := List.filter_eq_self.2 (fun x hx => by rw [sameM_comm (h.1 x hx)]; rfl)
      rw [List.filter_cons_of_neg (by rw [e1]; simp), e2]
      rfl
    · have e1 : sameM a m = false := h.1 m hm
      rw [List.filter_cons_of_pos (by rw [e1]; rfl), List.length_cons, List.length_cons, ih h.2 hm]
/-- What is known while messages are seen, one by one; those of ex never come. -/
structure Seeing (h : List MsgV) (ex : MsgV → Bool) (s : List Int) (lb : List MsgV) : Prop where
  len : s.length = 8
  pos : ∀ k : Nat, k < 8 → 0 ≤ nth s (k : Int)
  mem : ∀ m, m ∈ lb ↔ m ∈ h ∧ ex m = false ∧ nth s m.r < m.q
  apart : lb.Pairwise fun x y => sameM x y = false
theorem covL_of {a b : List Int} (ha : a.length = 8) (hb : b.length = 8) (h : ∀ k : Nat, k < 8 → nth b (k : Int) ≤ nth a (k : Int)) : covL a b = true := by
  match a, ha, b, hb with
  | [a0, a1, a2, a3, a4, a5, a6, a7], _, [b0, b1, b2, b3, b4, b5, b6, b7], _ =>
    have h0 := h 0 (by decide); have h1 := h 1 (by decide); have h2 := h 2 (by decide); have h3 := h 3 (by decide)
    have h4 := h 4 (by decide); have h5 := h 5 (by decide); have h6 := h 6 (by decide); have h7 := h 7 (by decide)
    simp [nth] at h0 h1 h2 h3 h4 h5 h6 h7
    unfold covL eqV joinL bothL
    simp only [List.zipWith, decide_eq_true_eq, List.cons.injEq, and_true]
    unfold mx
    refine ⟨?_, ?_, ?_, ?_, ?_, ?_, ?_, ?_⟩ <;> (first | (split <;> omega) | omega)
theorem cov_le {a b : List Int} (ha : a.length = 8) (hb : b.length = 8) (h : covL a b = true) : ∀ k : Nat, k < 8 → nth b (k : Int) ≤ nth a (k : Int) := by
  match a, ha, b, hb with
  | [a0, a1, a2, a3, a4, a5, a6, a7], _, [b0, b1, b2, b3, b4, b5, b6, b7], _ =>
    unfold covL eqV joinL bothL at h
    simp only [List.zipWith, decide_eq_true_eq, List.cons.injEq, and_true] at h
    obtain ⟨h0, h1, h2, h3, h4, h5, h6, h7⟩ := h
    have key : ∀ x y : Int, mx x y = x → y ≤ x := fun x y h => by unfold mx at h; (first | (split at h <;> omega) | omega)
    intro k hk
    match k, hk with
    | 0, _ => exact key _ _ h0
    | 1, _ => exact key _ _ h1
    | 2, _ => exact key _ _ h2
    | 3, _ => exact key _ _ h3
    | 4, _ => exact key _ _ h4
    | 5, _ => exact key _ _ h5
    | 6, _ => exact key _ _ h6
    | 7, _ => exact key _ _ h7
theorem fine_known {m : MsgV} (h : m.fine = true) : ∃ rr : Nat, rr < 8 ∧ m.r = (rr : Int) ∧ 1 ≤ m.q ∧ m.q ≤ 1073741824 ∧ nth m.deps (rr : Int) = m.q - 1 ∧ ∀ k : Nat, k < 8 → 0 ≤ nth m.deps (k : Int) := by
  obtain ⟨rr, h8, hr⟩ := may_rep (fine_may h)
  unfold MsgV.fine at h
  simp only [Bool.and_eq_true, decide_eq_true_eq, beq_iff_eq] at h
  obtain ⟨⟨⟨⟨-, h1⟩, h2⟩, h3⟩, h4⟩ := h
  refine ⟨rr, h8, hr, h1, h2, ?_, fun k hk => ?_⟩
  · rw [hr] at h4
    exact h4
  · unfold mayV at h3
    rw [List.all_eq_true] at h3
    have h5 := nth_at m.deps_len hk
    have h6 := h3 _ (List.mem_of_getElem? h5)
    simp only [Bool.and_eq_true, decide_eq_true_eq] at h6
    exact h6.1
theorem rdyB_of {s : List Int} {m : MsgV} {rr : Nat} (hs : s.length = 8) (h8 : rr < 8) (hr : m.r = (rr : Int)) (h1 : 1 ≤ m.q) (hq : nth s (rr : Int) = m.q - 1) (hd : nth m.deps (rr : Int) = m.q - 1) (hc : ∀ k : Nat, k < 8 → nth m.deps (k : Int) ≤ nth s (k : Int)) : rdyB s m = true := by
  unfold rdyB readyV
  rw [hr, hq, hd, covL_of hs m.deps_len hc]
  have : repV (rr : Int) = true := by unfold repV; simp; omega
  rw [this]
  simp
  exact h1
theorem upV_nth {s : List Int} (hs : s.length = 8) {rr k : Nat} (h8 : rr < 8) (hk : k < 8) : nth (upV s rr) (k : Int) = if k = rr then wrap64 (nth s (rr : Int) + 1) else nth s (k : Int) := by
  unfold upV nth
  rw [Int.toNat_natCast, Int.toNat_natCast, List.getD_eq_getElem?_getD, List.getD_eq_getElem?_getD]
  by_cases e : k = rr
  · subst e
    rw [List.getElem?_set_self (by omega), if_pos rfl]
    rfl
  · rw [List.getElem?_set_ne (fun h => e h.symm), if_neg e, List.getD_eq_getElem?_getD]
/-- While something waits, something is ready. -/
theorem Seeing.ready {h : List MsgV} (H : Hist h) {s : List Int} {lb : List MsgV} (S : Seeing h (fun _ => false) s lb) (hne : lb ≠ []) : lb.filter (rdyB s) ≠ [] := by
  -- the first in the history that waits
  have key : ∀ h0 : List MsgV, Hist h0 → (∀ m ∈ h0, m ∈ h) → (∀ m ∈ h0, nth s m.r < m.q → False) ∨ ∃ m ∈ h, nth s m.r < m.q ∧ rdyB s m = true := by
    intro h0 H0
    induction H0 with
    | nil => intro _; exact Or.inl (fun m hm => by cases hm)
    | @snoc a y Ha hf hq hd ih =>
      intro hsub
      rcases ih (fun m hm => hsub m (List.mem_append_left _ hm)) with h1 | h1
      · by_cases hy : nth s y.r < y.q
        · obtain ⟨rr, h8, hr, hq1, hq2, hdr, hdp⟩ := fine_known hf
          right
          refine ⟨y, hsub y (by simp), hy, rdyB_of S.len h8 hr hq1 ?_ hdr (fun k hk => ?_)⟩
          · rw [hr] at hy hq
            by_cases e : y.q = 1
            · have := S.pos rr h8; omega
            · obtain ⟨z, hz, hzr, hzq⟩ := Ha.there (rr : Int) (y.q - 1) (by omega) (by omega)
              have h5 : ¬ nth s z.r < z.q := h1 z hz
              rw [hzr, hzq] at h5
              omega
          · have h3 := hd k hk
            by_cases e : nth y.deps (k : Int) ≤ 0
            · have := S.pos k hk; omega
            · obtain ⟨z, hz, hzr, hzq⟩ := Ha.there (k : Int) (nth y.deps (k : Int)) (by omega) h3
              have h5 : ¬ nth s z.r < z.q := h1 z hz
              rw [hzr, hzq] at h5
              omega
        · left
          intro m hm hlt
          rcases List.mem_append.1 hm with hm | hm
          · exact h1 m hm hlt
          · obtain rfl := List.mem_singleton.1 hm
            exact hy hlt
      · exact Or.inr h1
  rcases key h H (fun m hm => hm) with h1 | ⟨m, hm, hlt, hrd⟩
  · exfalso
    cases lb with
    | nil => exact hne rfl
    | cons m t =>
      have h2 := (S.mem m).1 (by simp)
      exact h1 m h2.1 h2.2.2
  · intro e
    have : m ∈ lb.filter (rdyB s) := List.mem_filter.2 ⟨(S.mem m).2 ⟨hm, rfl, hlt⟩, hrd⟩
    rw [e] at this
    cases this
/-- One is seen. -/
theorem Seeing.step {h : List MsgV} (H : Hist h) {ex : MsgV → Bool} {s : List Int} {lb : List MsgV} (S : Seeing h ex s lb) {m : MsgV} (hm : m ∈ lb.filter (rdyB s)) (hex : ∀ x ∈ h, ex x = true → x.r = m.r → x.q ≠ m.q) : Seeing h ex (upV s m.r.toNat) (lb.filter fun x => !sameM x m) ∧ (lb.filter fun x => !sameM x m).length + 1 = lb.length := by
  obtain ⟨hm1, hm2⟩ := List.mem_filter.1 hm
  have hmh := (S.mem m).1 hm1
  obtain ⟨rr, h8, hr, hq1, hq2, hdr, hdp⟩ := fine_known (H.fine m hmh.1)
  have hsq : nth s (rr : Int) = m.q - 1 := by
    unfold rdyB readyV at hm2
    simp only [Bool.and_eq_true, decide_eq_true_eq] at hm2
    have := hm2.1.1.2
    rw [hr] at this
    exact this
  have hw : wrap64 (nth s (rr : Int) + 1) = m.q := by rw [hsq]; unfold wrap64; omega
  have hup : ∀ k : Nat, k < 8 → nth (upV s m.r.toNat) (k : Int) = if k = rr then m.q else nth s (k : Int) := fun k hk => by
    rw [hr, Int.toNat_natCast, upV_nth S.len h8 hk, hw]
  refine ⟨⟨by rw [upV_len]; exact S.len, fun k hk => ?_, fun x => ?_, S.apart.filter _⟩, apart_len S.apart hm1⟩
  · rw [hup k hk]
    split
    · omega
    · exact S.pos k hk
  · rw [List.mem_filter]
    constructor
    · rintro ⟨hx, hn⟩
      have h1 := (S.mem x).1 hx
      refine ⟨h1.1, h1.2.1, ?_⟩
      obtain ⟨rx, h8x, hrx, -⟩ := fine_known (H.fine x h1.1)
      rw [hrx, hup rx h8x]
      split
      · rename_i e
        have h2 := h1.2.2
        rw [hrx, e, hsq] at h2
        have h3 : x.q ≠ m.q := fun e2 => by
          have : sameM x m = true := (sameM_iff x m).2 ⟨by rw [hrx, hr, e], e2⟩
          rw [this] at hn; cases hn
        omega
      · rw [← hrx]; exact h1.2.2
    · rintro ⟨h1, h2, h3⟩
      obtain ⟨rx, h8x, hrx, -⟩ := fine_known (H.fine x h1)
      rw [hrx, hup rx h8x] at h3
      refine ⟨(S.mem x).2 ⟨h1, h2, ?_⟩, ?_⟩
      · rw [hrx]
        split at h3
        · rename_i e
          rw [e, hsq]; omega
        · exact h3
      · rcases hsx : sameM x m with _ | _
        · rfl
        · exfalso
          have h4 := (sameM_iff x m).1 hsx
          have e : rx = rr := by have := h4.1; rw [hrx, hr] at this; omega
          rw [if_pos e, h4.2] at h3
          omega
end Go.Proofs.Ytcgkkjfbdappoaa

/- Histories of messages: what the law's own function keeps: rows of numbers in one block; the plain law of it. -/
namespace Go.Proofs.Ytcgkkjfbdappoaa
open Go.RowKit Go.ChangeShapes Go.WideShapes Opn Go.Proofs.YtcgkkjfbdappoaaW.PrintWords Go.Proofs.YtcgkkjfbdappoaaW.PrintLast Go.Proofs.YtcgkkjfbdappoaaW.PrintMore
set_option linter.unusedVariables false
set_option linter.unusedSimpArgs false

def rowV (x : List Int) : List Value := (List.range 8).map fun k => Value.int .i64 (x.getD k 0)
def rowsV (R : List (List Int)) : List Value := (R.map rowV).flatten
theorem rowV_len (x : List Int) : (rowV x).length = 8 := by simp [rowV]
theorem rowV_eq {x : List Int} (h : x.length = 8) : rowV x = (vec x).toList := by
  match x, h with
  | [a, b, c, d, e, f, g, i], _ => rfl
theorem rowV_at (x : List Int) {k : Nat} (hk : k < 8) : (rowV x)[k]? = some (.int .i64 (x.getD k 0)) := by
  unfold rowV
  rw [List.getElem?_map, List.getElem?_range hk]
  rfl
theorem rowsV_len : ∀ R : List (List Int), (rowsV R).length = R.length * 8
  | [] => rfl
  | x :: R => by
    show (rowV x ++ rowsV R).length = _
    rw [List.length_append, rowV_len, rowsV_len R, List.length_cons]; omega
theorem rowsV_at : ∀ {R : List (List Int)} {j : Nat} {x : List Int} {k : Nat}, R[j]? = some x → k < 8 → (rowsV R)[j * 8 + k]? = some (.int .i64 (x.getD k 0))
  | [], j, x, k, h, _ => by simp at h
  | y :: R, 0, x, k, h, hk => by
    simp at h; subst h
    show (rowV y ++ rowsV R)[0 * 8 + k]? = _
    rw [Nat.zero_mul, Nat.zero_add, List.getElem?_append_left (by rw [rowV_len]; exact hk)]
    exact rowV_at y hk
  | y :: R, j + 1, x, k, h, hk => by
    show (rowV y ++ rowsV R)[(j + 1) * 8 + k]? = _
    rw [List.getElem?_append_right (by rw [rowV_len]; omega), rowV_len, show (j + 1) * 8 + k - 8 = j * 8 + k by omega]
    exact rowsV_at (by simpa using h) hk
theorem rowsV_set : ∀ (R : List (List Int)) (j : Nat) (y : List Int), j < R.length → rowsV (R.set j y) = (rowsV R).take (j * 8) ++ rowV y ++ (rowsV R).drop (j * 8 + 8)
  | [], j, y, h => by simp at h
  | x :: R, 0, y, h => by
    show rowV y ++ rowsV R = (rowV x ++ rowsV R).take (0 * 8) ++ rowV y ++ (rowV x ++ rowsV R).drop (0 * 8 + 8)
    rw [Nat.zero_mul, List.take_zero, List.nil_append, Nat.zero_add, List.drop_append_of_le_length (by rw [rowV_len]; exact Nat.le_refl _), List.drop_eq_nil_of_le (by rw [rowV_len]; exact Nat.le_refl _), List.nil_append]
  | x :: R, j + 1, y, h => by
    show rowV x ++ rowsV (R.set j y) = (rowV x ++ rowsV R).take ((j + 1) * 8) ++ rowV y ++ (rowV x ++ rowsV R).drop ((j + 1) * 8 + 8)
    rw [rowsV_set R j y (by simpa using h)]
    have e : (j + 1) * 8 = (rowV x).length + j * 8 := by rw [rowV_len]; omega
    rw [e, List.take_length_add_append, Nat.add_assoc, List.drop_length_add_append, List.append_assoc, List.append_assoc, List.append_assoc]
theorem rowV_set {x : List Int} (hx : x.length = 8) {k : Nat} (hk : k < 8) (q : Int) : (rowV x).set k (.int .i64 q) = rowV (x.set k q) := by
  rw [rowV_eq hx, rowV_eq (by rw [List.length_set]; exact hx), ← vec_set, Array.toList_setIfInBounds]
theorem rowsV_cell : ∀ {R : List (List Int)} {j : Nat} {x : List Int} {k : Nat} (q : Int), R[j]? = some x → x.length = 8 → k < 8 → (rowsV R).set (j * 8 + k) (.int .i64 q) = rowsV (R.set j (x.set k q))
  | [], j, x, k, q, h, _, _ => by simp at h
  | y :: R, 0, x, k, q, h, hx, hk => by
    simp at h; subst h
    show (rowV y ++ rowsV R).set (0 * 8 + k) _ = rowV (y.set k q) ++ rowsV R
    rw [Nat.zero_mul, Nat.zero_add, List.set_append_left _ _ (by rw [rowV_len]; exact hk), rowV_set hx hk]
  | y :: R, j + 1, x, k, q, h, hx, hk => by
    show (rowV y ++ rowsV R).set ((j + 1) * 8 + k) _ = rowV y ++ rowsV (R.set j (x.set k q))
    rw [List.set_append_right _ _ (by rw [rowV_len]; omega), rowV_len, show (j + 1) * 8 + k - 8 = j * 8 + k by omega, rowsV_cell q (by simpa using h) hx hk]
/-- What the rows say of the history so far. -/
structure HistI (R : List (List Int)) (h : List MsgV) : Prop where
  len : R.length = 8
  row : ∀ (r : Nat) x, R[r]? = some x → x.length = 8
  bd : ∀ (r : Nat) x, R[r]? = some x → ∀ k : Nat, k < 8 → 0 ≤ nth x (k : Int) ∧ nth x (k : Int) ≤ cntM (k : Int) h
  own : ∀ (r : Nat) x, r < 3 → R[r]? = some x → nth x (r : Int) = cntM (r : Int) h
theorem HistI.start : HistI (List.replicate 8 zero8) [] := by
  have h0 : ∀ (r : Nat) x, (List.replicate 8 zero8)[r]? = some x → x = zero8 := fun r x hx => by
    have := List.mem_of_getElem? hx
    exact (List.mem_replicate.1 this).2
  refine ⟨rfl, fun r x hx => by rw [h0 r x hx]; rfl, fun r x hx k hk => ?_, fun r x hr hx => ?_⟩
  · rw [h0 r x hx, cntM_nil]
    match k, hk with
    | 0, _ => decide
    | 1, _ => decide
    | 2, _ => decide
    | 3, _ => decide
    | 4, _ => decide
    | 5, _ => decide
    | 6, _ => decide
    | 7, _ => decide
  · rw [h0 r x hx, cntM_nil]
    match r, hr with
    | 0, _ => rfl
    | 1, _ => rfl
    | 2, _ => rfl
theorem joinL_nth {a b : List Int} (ha : a.length = 8) (hb : b.length = 8) {k : Nat} (hk : k < 8) : nth (joinL a b) (k : Int) = mx (nth a (k : Int)) (nth b (k : Int)) := by
  match a, ha, b, hb with
  | [a0, a1, a2, a3, a4, a5, a6, a7], _, [b0, b1, b2, b3, b4, b5, b6, b7], _ =>
    match k, hk with
    | 0, _ => rfl
    | 1, _ => rfl
    | 2, _ => rfl
    | 3, _ => rfl
    | 4, _ => rfl
    | 5, _ => rfl
    | 6, _ => rfl
    | 7, _ => rfl
theorem joinL_len8 {a b : List Int} (ha : a.length = 8) (hb : b.length = 8) : (joinL a b).length = 8 := by
  unfold joinL bothL
  rw [List.length_zipWith, ha, hb]; rfl
theorem HistI.join {R : List (List Int)} {h : List MsgV} (H : HistI R h) {r s : Nat} (hr : r < 3) {x y : List Int} (hx : R[r]? = some x) (hy : R[s]? = some y) : HistI (R.set r (joinL x y)) h := by
  have hxl := H.row r x hx
  have hyl := H.row s y hy
  have hrl : r < R.length := (List.getElem?_eq_some_iff.1 hx).1
  have key : ∀ (a : Nat) z, (R.set r (joinL x y))[a]? = some z → (a = r ∧ z = joinL x y) ∨ (a ≠ r ∧ R[a]? = some z) := fun a z hz => by
    by_cases e : a = r
    · subst e
      rw [List.getElem?_set_self hrl] at hz
      exact Or.inl ⟨rfl, (Option.some.inj hz).symm⟩
    · rw [List.getElem?_set_ne (fun h => e h.symm)] at hz
      exact Or.inr ⟨e, hz⟩
  refine ⟨by rw [List.length_set]; exact H.len, fun a z hz => ?_, fun a z hz k hk => ?_, fun a z ha hz => ?_⟩
  · rcases key a z hz with ⟨-, rfl⟩ | ⟨-, hz⟩
    · exact joinL_len8 hxl hyl
    · exact H.row a z hz
  · rcases key a z hz with ⟨-, rfl⟩ | ⟨-, hz⟩
    · rw [joinL_nth hxl hyl hk]
      have h1 := H.bd r x hx k hk
      have h2 := H.bd s y hy k hk
      unfold mx
      first | (split <;> omega) | omega
    · exact H.bd a z hz k hk
  · rcases key a z hz with ⟨rfl, rfl⟩ | ⟨-, hz⟩
    · rw [joinL_nth hxl hyl (by omega)]
      have h1 := H.own a x hr hx
      have h2 := H.bd s y hy a (by omega)
      unfold mx
      first | (split <;> omega) | omega
    · exact H.own a z ha hz
theorem nth_set {x : List Int} (hx : x.length = 8) {r k : Nat} (hr : r < 8) (q : Int) : nth (x.set r q) (k : Int) = if k = r then q else nth x (k : Int) := by
  unfold nth
  rw [Int.toNat_natCast, List.getD_eq_getElem?_getD]
  by_cases e : k = r
  · subst e
    rw [List.getElem?_set_self (by omega), if_pos rfl]; rfl
  · rw [List.getElem?_set_ne (fun h => e h.symm), if_neg e, List.getD_eq_getElem?_getD]
theorem HistI.add {R : List (List Int)} {h : List MsgV} (H : HistI R h) {r : Nat} (hr : r < 3) {x : List Int} (hx : R[r]? = some x) {m : MsgV} (hm : m.r = (r : Int)) (hq : m.q = nth x (r : Int) + 1) : HistI (R.set r (x.set r m.q)) (h ++ [m]) := by
  have hxl := H.row r x hx
  have hrl : r < R.length := (List.getElem?_eq_some_iff.1 hx).1
  have hown := H.own r x hr hx
  have key : ∀ (a : Nat) z, (R.set r (x.set r m.q))[a]? = some z → (a = r ∧ z = x.set r m.q) ∨ (a ≠ r ∧ R[a]? = some z) := fun a z hz => by
    by_cases e : a = r
    · subst e
      rw [List.getElem?_set_self hrl] at hz
      exact Or.inl ⟨rfl, (Option.some.inj hz).symm⟩
    · rw [List.getElem?_set_ne (fun h => e h.symm)] at hz
      exact Or.inr ⟨e, hz⟩
  have hc : ∀ k : Nat, cntM (k : Int) (h ++ [m]) = cntM (k : Int) h + (if k = r then 1 else 0) := fun k => by
    rw [cntM_snoc, hm]
    by_cases e : k = r
    · rw [if_pos (by omega), if_pos e]
    · rw [if_neg (by omega), if_neg e]
  refine ⟨by rw [List.length_set]; exact H.len, fun a z hz => ?_, fun a z hz k hk => ?_, fun a z ha hz => ?_⟩
  · rcases key a z hz with ⟨-, rfl⟩ | ⟨-, hz⟩
    · rw [List.length_set]; exact hxl
    · exact H.row a z hz
  · rw [hc]
    rcases key a z hz with ⟨-, rfl⟩ | ⟨-, hz⟩
    · rw [nth_set hxl (by omega)]
      have h1 := H.bd r x hx k hk
      have h2 := H.bd r x hx r (by omega)
      by_cases e : k = r
      · rw [if_pos e, if_pos e]
        subst e
        omega
      · rw [if_neg e, if_neg e]; omega
    · have h1 := H.bd a z hz k hk
      split <;> omega
  · rw [hc]
    rcases key a z hz with ⟨rfl, rfl⟩ | ⟨hne, hz⟩
    · rw [nth_set hxl (by omega), if_pos rfl, if_pos rfl]; omega
    · rw [if_neg hne, H.own a z ha hz]; omega
/-- A message out of its number, what was seen, and an operation. -/
def mkMsg (q : Int) (x : List Int) (o : OpV) : MsgV := ⟨q, x.getD 0 0, x.getD 1 0, x.getD 2 0, x.getD 3 0, x.getD 4 0, x.getD 5 0, x.getD 6 0, x.getD 7 0, o.t, o.r, o.k, o.a0, o.a1, o.i0, o.i1, o.t0, o.t1, o.nm, o.nw, o.off, o.dt⟩
theorem mkMsg_deps (q : Int) {x : List Int} (o : OpV) (hx : x.length = 8) : (mkMsg q x o).deps = x := by
  match x, hx with
  | [a, b, c, d, e, f, g, i], _ => rfl
theorem mkMsg_build (q : Int) {x : List Int} (o : OpV) (hx : x.length = 8) (w : World) : (Instr.build 37 #[(0, .int .i64 q), (1, .agg (vec x)), (2, .agg o.cells)]).run Try.prog w = .ok (.agg (msgC (mkMsg q x o))) w := by
  match x, hx with
  | [a, b, c, d, e, f, g, i], _ => exact run_build w _ _ _ (by kernel_rfl)
/-- One more message of the history. -/
theorem Hist.add {R : List (List Int)} {h : List MsgV} (Hh : Hist h) (H : HistI R h) {r : Nat} (hr : r < 3) {x : List Int} (hx : R[r]? = some x) {o : OpV} (ho : o.r = (r : Int)) (hf : (mkMsg (nth x (r : Int) + 1) x o).fine = true) : Hist (h ++ [mkMsg (nth x (r : Int) + 1) x o]) := by
  refine Hist.snoc Hh hf ?_ (fun k hk => ?_)
  · show nth x (r : Int) + 1 = cntM o.r h + 1
    rw [ho, H.own r x hr hx]
  · rw [mkMsg_deps _ o (H.row r x hx)]
    exact (H.bd r x hx k hk).2
end Go.Proofs.Ytcgkkjfbdappoaa
