/- Histories of which one message comes late: plain. -/
import Derived.Test.YtcgkkjfbdappoaaSerAll
namespace Go.Proofs.Ytcgkkjfbdappoaa
open Go.RowKit Go.Proofs.YtcgkkjfbdappoaaW.PrintWords
set_option linter.unusedVariables false
set_option linter.unusedSimpArgs false

/-- All but those that are the same as one. -/
def butM (hk : MsgV) (l : List MsgV) : List MsgV := l.filter fun y => !sameM y hk
theorem apart_at {l : List MsgV} (ha : l.Pairwise fun x y => sameM x y = false) {i j : Nat} {x y : MsgV} (hx : l[i]? = some x) (hy : l[j]? = some y) (hij : i ≠ j) : sameM x y = false := by
  obtain ⟨hi, rfl⟩ := List.getElem?_eq_some_iff.1 hx
  obtain ⟨hj, rfl⟩ := List.getElem?_eq_some_iff.1 hy
  rw [List.pairwise_iff_getElem] at ha
  rcases Nat.lt_or_gt_of_ne hij with h | h
  · exact ha i j hi hj h
  · exact sameM_comm (ha j i hj hi h)
theorem butM_nil (hk : MsgV) (h : List MsgV) : butM hk (h.take 0) = [] := by rw [List.take_zero]; rfl
theorem miss_first {h : List MsgV} (H : Hist h) {k i : Nat} {hk x : MsgV} (hhk : h[k]? = some hk) (hx : h[i]? = some x) (hik : i ≠ k) : offB zero8 (butM hk (h.take i)) x = true ∧ butM hk (h.take i) ++ [x] = butM hk (h.take (i + 1)) := by
  refine ⟨off_first (H.fine x (List.mem_of_getElem? hx)) (fun y hy => take_apart H.apart hx y (List.mem_filter.1 hy).1), ?_⟩
  unfold butM
  rw [take_more hx, List.filter_append, List.filter_cons_of_pos (by rw [apart_at H.apart hx hhk hik]; rfl)]
  rfl
theorem miss_skip {h : List MsgV} {k : Nat} {hk : MsgV} (hhk : h[k]? = some hk) : butM hk (h.take k) = butM hk (h.take (k + 1)) := by
  unfold butM
  have e : sameM hk hk = true := by rw [sameM_iff]; exact ⟨rfl, rfl⟩
  rw [take_more hhk, List.filter_append, List.filter_cons_of_neg (by rw [e]; simp)]
  simp
/-- What is known while one is missing. -/
structure Miss (h : List MsgV) (hk : MsgV) (s : List Int) (lb : List MsgV) : Prop where
  see : Seeing h (fun x => sameM x hk) s lb
  lt : nth s hk.r < hk.q
theorem Miss.begin {h : List MsgV} (H : Hist h) {hk : MsgV} (hm : hk ∈ h) : Miss h hk zero8 (butM hk h) ∧ (butM hk h).length + 1 = h.length := by
  refine ⟨⟨⟨rfl, fun k _ => ?_, fun m => ?_, H.apart.filter _⟩, ?_⟩, apart_len H.apart hm⟩
  · unfold nth; rw [zero8_at]; exact Int.le_refl _
  · unfold butM nth
    rw [zero8_at, List.mem_filter]
    constructor
    · intro h1
      exact ⟨h1.1, by simpa using h1.2, by have := fine_q (H.fine m h1.1); omega⟩
    · intro h1
      exact ⟨h1.1, by simpa using h1.2.1⟩
  · unfold nth; rw [zero8_at]; have := fine_q (H.fine hk hm); omega
theorem Miss.step {h : List MsgV} (H : Hist h) {hk : MsgV} (hkm : hk ∈ h) {s : List Int} {lb : List MsgV} (M : Miss h hk s lb) {m : MsgV} (hm : m ∈ lb.filter (rdyB s)) : Miss h hk (upV s m.r.toNat) (lb.filter fun x => !sameM x m) ∧ (lb.filter fun x => !sameM x m).length + 1 = lb.length ∧ nth m.deps hk.r < hk.q := by
  obtain ⟨hm1, hm2⟩ := List.mem_filter.1 hm
  have hmh := (M.see.mem m).1 hm1
  have hne : sameM m hk = false := hmh.2.1
  obtain ⟨h1, h2⟩ := M.see.step H hm (fun x hx he hr hq => by
    have he' := (sameM_iff x hk).1 he
    have : sameM m hk = true := (sameM_iff m hk).2 ⟨by rw [← hr]; exact he'.1, by rw [← hq]; exact he'.2⟩
    rw [hne] at this
    cases this)
  obtain ⟨rr, h8, hr, hq1, hq2, hdr, hdp⟩ := fine_known (H.fine m hmh.1)
  obtain ⟨rk, k8, hkr, -⟩ := fine_known (H.fine hk hkm)
  have hlt := M.lt
  unfold rdyB readyV at hm2
  simp only [Bool.and_eq_true, decide_eq_true_eq] at hm2
  have hsq : nth s (rr : Int) = m.q - 1 := by rw [← hr]; exact hm2.1.1.2
  have hcov := cov_le M.see.len m.deps_len hm2.2 rk k8
  refine ⟨⟨h1, ?_⟩, h2, ?_⟩
  · rw [hkr] at hlt ⊢
    rw [hr, Int.toNat_natCast, upV_nth M.see.len h8 k8]
    have hw : wrap64 (nth s (rr : Int) + 1) = m.q := by rw [hsq]; unfold wrap64; omega
    by_cases e : rk = rr
    · rw [if_pos e, hw]
      subst e
      have : m.q ≠ hk.q := fun e2 => by
        have : sameM m hk = true := (sameM_iff m hk).2 ⟨by rw [hr, hkr], e2⟩
        rw [hne] at this
        cases this
      omega
    · rw [if_neg e]; exact hlt
  · rw [hkr] at hlt ⊢
    omega
/-- It comes. -/
theorem Miss.comes {h : List MsgV} (H : Hist h) {hk : MsgV} (hkm : hk ∈ h) {s : List Int} {lb : List MsgV} (M : Miss h hk s lb) : offB s lb hk = true ∧ Seeing h (fun _ => false) s (lb ++ [hk]) := by
  have hap : ∀ y ∈ lb, sameM y hk = false := fun y hy => ((M.see.mem y).1 hy).2.1
  have hlt := M.lt
  refine ⟨?_, M.see.len, M.see.pos, fun m => ?_, ?_⟩
  · unfold offB
    have h2 : (lb.any fun y => sameM y hk) = false := by
      rw [List.any_eq_false]
      intro y hy
      rw [hap y hy]; simp
    have h3 : ¬ hk.q ≤ s.getD hk.r.toNat 0 := by unfold nth at hlt; omega
    rw [H.fine hk hkm, h2, decide_eq_false h3]
    rfl
  · rw [List.mem_append, List.mem_singleton]
    constructor
    · rintro (h1 | rfl)
      · have := (M.see.mem m).1 h1
        exact ⟨this.1, rfl, this.2.2⟩
      · exact ⟨hkm, rfl, hlt⟩
    · intro h1
      cases e : sameM m hk with
      | true => exact Or.inr (apart_eq H.apart h1.1 hkm e)
      | false => exact Or.inl ((M.see.mem m).2 ⟨h1.1, e, h1.2.2⟩)
  · rw [List.pairwise_append]
    refine ⟨M.see.apart, List.pairwise_singleton _ _, fun x hx y hy => ?_⟩
    obtain rfl := List.mem_singleton.1 hy
    exact hap x hx
theorem Run.cell {w W : World} {B p g cap n : Nat} {lk lb : List MsgV} {s : List Int} (hn : lk.length = n) (H : Run w B p (.slice (some ⟨g, 0, none⟩) n cap) lk s lb W) {j : Nat} {x : MsgV} (hx : lk[j]? = some x) : W.cell? ⟨g, j * 22, none⟩ = some (.int .i64 x.q) ∧ W.cell? ⟨g, j * 22 + 10, none⟩ = some (.int .i64 x.r) := by
  have h1 := H.at hn hx
  exact ⟨h1 0 _ rfl, h1 10 _ rfl⟩
end Go.Proofs.Ytcgkkjfbdappoaa
