/- Texts that belong together, in one. -/
import Derived.Test.YtcgkkjfbdappoaaGreatCauMay
import Derived.Test.YtcgkkjfbdappoaaGreatHeapAll
/- Whether two messages are of one replica, and have one number: the closures of Offer and of Next: their contracts. -/
namespace Go.Proofs.YtcgkkjfbdappoaaGreat
open Go.RowKit Go.Proofs.YtcgkkjfbdappoaaGreatW.PrintWords Go.Proofs.YtcgkkjfbdappoaaGreatW.PrintLast Go.Proofs.YtcgkkjfbdappoaaGreatW.PrintMore
set_option linter.unusedVariables false
set_option linter.unusedSimpArgs false

/-- Whether two messages are of one replica, and have one number. -/
def sameM (x m : MsgV) : Bool := x.r == m.r && x.q == m.q
theorem rep_c (m : MsgV) (w : World) : Calls Tryz.prog 25 #[.agg (msgC m)] w fun e w' => e = .returned (.int .i64 m.r) ∧ Below w.heap.size w w' := msg_rep m w
theorem may_c (m : MsgV) (hd : m.dt.size ≤ 140737488355328) (w : World) : Calls Tryz.prog 20 #[.agg (msgC m)] w fun e w' => e = .returned (.bool m.fine) ∧ Below w.heap.size w w' := msg_May m hd w
set_option maxHeartbeats 1000000 in
set_option maxRecDepth 100000 in
theorem same_O (x m : MsgV) (bm : Nat) (w : World) (h : w.heap[bm]? = some (.cells (msgC m) 38 (0, 0))) :
    Calls Tryz.prog 24 #[.agg (msgC x), .pointer (some ⟨bm, 0, none⟩)] w fun e w' => e = .returned (.bool (sameM x m)) ∧ Below w.heap.size w w' := by
  have K0 := Hd.mk (Holds.start1 w (.cells (msgC x) 38 (0, 0)))
  have HM := Hd.mk (⟨lt_of h, h⟩ : _ ∧ _)
  have HRX := Hd.mk (rep_c x)
  have HRM := Hd.mk (rep_c m)
  have HD : Hd (sameM x m = (x.r == m.r && x.q == m.q)) := ⟨rfl⟩
  clear h
  by_cases h1 : x.r = m.r
  · have HV := Hd.mk (show sameM x m = (x.q == m.q) by rw [HD.out, h1]; simp)
    clear HD
    go_enter Tryz.func24, Tryz.ntmps24
    go_upto_region 1 with (fail)
    refine world_gen _ K0.out (fun W hK => ?_)
    have K1 := Hd.mk hK
    clear hK K0
    refine st_ 13 (S := fun W_ => Holds w [(w.heap.size, .cells (msgC x) 38 (0, 0))] W_) (ds := []) (K1.out.drew) (fun hHeld => ?_)
    refine tk_ 0 (some 4) (.agg (msgC x)) rfl (fun w' h => run_load_wholeC _ rfl w.heap.size x rfl (h.get 0 rfl)) hHeld ?_
    refine tk_ 2 (some 6) (.agg (msgC m)) rfl (fun w' h => run_load_wholeC _ rfl bm m rfl ((h.2.block bm HM.out.1).trans HM.out.2)) hHeld ?_
    refine cb_ 1 (some 5) Tryz.func25 HRX (fun _ hr => hHeld.call hr) (fun wr1 hHeld => ?_)
    refine cb_ 3 (some 7) Tryz.func25 HRM (fun _ hr => hHeld.call hr) (fun wr2 hHeld => ?_)
    refine pu_ 4 (some 8) ?_
    refine pu_ 5 (some 9) ?_
    refine pu_ 6 (some 10) ?_
    refine tk_ 7 (some 11) (.int .i64 x.q) rfl (fun w' h => by have c : w'.cell? ⟨w.heap.size, 0, none⟩ = some (.int .i64 x.q) := (cell_of_row w' _ 0 _ _ _ (h.get 0 rfl)).trans rfl; go_simp) hHeld ?_
    refine pu_ 8 (some 12) ?_
    refine tk_ 9 (some 13) (.int .i64 m.q) rfl (fun w' h => by have c : w'.cell? ⟨bm, 0, none⟩ = some (.int .i64 m.q) := (cell_of_row w' _ 0 _ _ _ ((h.2.block bm HM.out.1).trans HM.out.2)).trans rfl; go_simp) hHeld ?_
    refine pu_ 10 (some 14) ?_
    refine pu_ 11 (some 15) ?_
    refine pu_ 12 (some 3) ?_
    refine done_ (by kernel_rfl) ?_
    go_wp2_with fail
    go_ret
    exact ⟨by rw [HV.out]; first | rfl | (simp [*]; done), hHeld.2⟩
  · have HV := Hd.mk (show sameM x m = false by rw [HD.out]; simp [h1])
    have h2 : (x.r == m.r) = false := by simp [h1]
    clear HD
    go_enter Tryz.func24, Tryz.ntmps24
    go_upto_region 1 with (fail)
    refine world_gen _ K0.out (fun W hK => ?_)
    have K1 := Hd.mk hK
    clear hK K0
    refine st_ 13 (S := fun W_ => Holds w [(w.heap.size, .cells (msgC x) 38 (0, 0))] W_) (ds := []) (K1.out.drew) (fun hHeld => ?_)
    refine tk_ 0 (some 4) (.agg (msgC x)) rfl (fun w' h => run_load_wholeC _ rfl w.heap.size x rfl (h.get 0 rfl)) hHeld ?_
    refine tk_ 2 (some 6) (.agg (msgC m)) rfl (fun w' h => run_load_wholeC _ rfl bm m rfl ((h.2.block bm HM.out.1).trans HM.out.2)) hHeld ?_
    refine cb_ 1 (some 5) Tryz.func25 HRX (fun _ hr => hHeld.call hr) (fun wr3 hHeld => ?_)
    refine cb_ 3 (some 7) Tryz.func25 HRM (fun _ hr => hHeld.call hr) (fun wr4 hHeld => ?_)
    refine pu_ 4 (some 8) ?_
    refine pu_ 5 (some 9) ?_
    first | (refine pu_ 6 (some 10) ?_) | refine po_ 6 (some 10) ?_
    first | (refine pu_ 7 (some 11) ?_) | refine po_ 7 (some 11) ?_
    first | (refine pu_ 8 (some 12) ?_) | refine po_ 8 (some 12) ?_
    first | (refine pu_ 9 (some 13) ?_) | refine po_ 9 (some 13) ?_
    first | (refine pu_ 10 (some 14) ?_) | refine po_ 10 (some 14) ?_
    refine pu_ 11 (some 15) ?_
    refine pu_ 12 (some 3) ?_
    refine done_ (by kernel_rfl) ?_
    go_wp2_with fail
    go_ret
    exact ⟨by rw [HV.out]; first | rfl | (simp [*]; done), hHeld.2⟩
set_option maxHeartbeats 1000000 in
set_option maxRecDepth 100000 in
theorem same_N (x m : MsgV) (bm : Nat) (w : World) (h : w.heap[bm]? = some (.cells (msgC m) 38 (0, 0))) :
    Calls Tryz.prog 34 #[.agg (msgC x), .pointer (some ⟨bm, 0, none⟩)] w fun e w' => e = .returned (.bool (sameM x m)) ∧ Below w.heap.size w w' := by
  have K0 := Hd.mk (Holds.start1 w (.cells (msgC x) 38 (0, 0)))
  have HM := Hd.mk (⟨lt_of h, h⟩ : _ ∧ _)
  have HRX := Hd.mk (rep_c x)
  have HRM := Hd.mk (rep_c m)
  have HD : Hd (sameM x m = (x.r == m.r && x.q == m.q)) := ⟨rfl⟩
  clear h
  by_cases h1 : x.r = m.r
  · have HV := Hd.mk (show sameM x m = (x.q == m.q) by rw [HD.out, h1]; simp)
    clear HD
    go_enter Tryz.func34, Tryz.ntmps34
    go_upto_region 1 with (fail)
    refine world_gen _ K0.out (fun W hK => ?_)
    have K1 := Hd.mk hK
    clear hK K0
    refine st_ 13 (S := fun W_ => Holds w [(w.heap.size, .cells (msgC x) 38 (0, 0))] W_) (ds := []) (K1.out.drew) (fun hHeld => ?_)
    refine tk_ 0 (some 4) (.agg (msgC x)) rfl (fun w' h => run_load_wholeC _ rfl w.heap.size x rfl (h.get 0 rfl)) hHeld ?_
    refine tk_ 2 (some 6) (.agg (msgC m)) rfl (fun w' h => run_load_wholeC _ rfl bm m rfl ((h.2.block bm HM.out.1).trans HM.out.2)) hHeld ?_
    refine cb_ 1 (some 5) Tryz.func25 HRX (fun _ hr => hHeld.call hr) (fun wr5 hHeld => ?_)
    refine cb_ 3 (some 7) Tryz.func25 HRM (fun _ hr => hHeld.call hr) (fun wr6 hHeld => ?_)
    refine pu_ 4 (some 8) ?_
    refine pu_ 5 (some 9) ?_
    refine pu_ 6 (some 10) ?_
    refine tk_ 7 (some 11) (.int .i64 x.q) rfl (fun w' h => by have c : w'.cell? ⟨w.heap.size, 0, none⟩ = some (.int .i64 x.q) := (cell_of_row w' _ 0 _ _ _ (h.get 0 rfl)).trans rfl; go_simp) hHeld ?_
    refine pu_ 8 (some 12) ?_
    refine tk_ 9 (some 13) (.int .i64 m.q) rfl (fun w' h => by have c : w'.cell? ⟨bm, 0, none⟩ = some (.int .i64 m.q) := (cell_of_row w' _ 0 _ _ _ ((h.2.block bm HM.out.1).trans HM.out.2)).trans rfl; go_simp) hHeld ?_
    refine pu_ 10 (some 14) ?_
    refine pu_ 11 (some 15) ?_
    refine pu_ 12 (some 3) ?_
    refine done_ (by kernel_rfl) ?_
    go_wp2_with fail
    go_ret
    exact ⟨by rw [HV.out]; first | rfl | (simp [*]; done), hHeld.2⟩
  · have HV := Hd.mk (show sameM x m = false by rw [HD.out]; simp [h1])
    have h2 : (x.r == m.r) = false := by simp [h1]
    clear HD
    go_enter Tryz.func34, Tryz.ntmps34
    go_upto_region 1 with (fail)
    refine world_gen _ K0.out (fun W hK => ?_)
    have K1 := Hd.mk hK
    clear hK K0
    refine st_ 13 (S := fun W_ => Holds w [(w.heap.size, .cells (msgC x) 38 (0, 0))] W_) (ds := []) (K1.out.drew) (fun hHeld => ?_)
    refine tk_ 0 (some 4) (.agg (msgC x)) rfl (fun w' h => run_load_wholeC _ rfl w.heap.size x rfl (h.get 0 rfl)) hHeld ?_
    refine tk_ 2 (some 6) (.agg (msgC m)) rfl (fun w' h => run_load_wholeC _ rfl bm m rfl ((h.2.block bm HM.out.1).trans HM.out.2)) hHeld ?_
    refine cb_ 1 (some 5) Tryz.func25 HRX (fun _ hr => hHeld.call hr) (fun wr7 hHeld => ?_)
    refine cb_ 3 (some 7) Tryz.func25 HRM (fun _ hr => hHeld.call hr) (fun wr8 hHeld => ?_)
    refine pu_ 4 (some 8) ?_
    refine pu_ 5 (some 9) ?_
    first | (refine pu_ 6 (some 10) ?_) | refine po_ 6 (some 10) ?_
    first | (refine pu_ 7 (some 11) ?_) | refine po_ 7 (some 11) ?_
    first | (refine pu_ 8 (some 12) ?_) | refine po_ 8 (some 12) ?_
    first | (refine pu_ 9 (some 13) ?_) | refine po_ 9 (some 13) ?_
    first | (refine pu_ 10 (some 14) ?_) | refine po_ 10 (some 14) ?_
    refine pu_ 11 (some 15) ?_
    refine pu_ 12 (some 3) ?_
    refine done_ (by kernel_rfl) ?_
    go_wp2_with fail
    go_ret
    exact ⟨by rw [HV.out]; first | rfl | (simp [*]; done), hHeld.2⟩
end Go.Proofs.YtcgkkjfbdappoaaGreat

/- slices.IndexFunc and slices.ContainsFunc over messages: their contracts. -/
namespace Go.Proofs.YtcgkkjfbdappoaaGreat
open Go.RowKit Go.Proofs.YtcgkkjfbdappoaaGreatW.PrintWords Go.Proofs.YtcgkkjfbdappoaaGreatW.PrintLast Go.Proofs.YtcgkkjfbdappoaaGreatW.PrintMore
set_option linter.unusedVariables false
set_option linter.unusedSimpArgs false

/-- Where the first one is of which p holds; -1. -/
def idxP (p : MsgV → Bool) : List MsgV → Nat → Int
  | [], _ => -1
  | x :: t, k => if p x then (k : Int) else idxP p t (k + 1)
theorem idxP_spec (p : MsgV → Bool) : ∀ (l : List MsgV) (k : Nat), (idxP p l k = -1 ∧ ∀ x ∈ l, p x = false) ∨ ∃ a x b, l = a ++ x :: b ∧ p x = true ∧ (∀ y ∈ a, p y = false) ∧ idxP p l k = ((k + a.length : Nat) : Int)
  | [], k => Or.inl ⟨rfl, by simp⟩
  | x :: t, k => by
    by_cases h : p x = true
    · exact Or.inr ⟨[], x, t, rfl, h, by simp, by unfold idxP; rw [if_pos h]; simp⟩
    · rcases idxP_spec p t (k + 1) with ⟨h1, h2⟩ | ⟨a, y, b, h1, h2, h3, h4⟩
      · exact Or.inl ⟨by unfold idxP; rw [if_neg h]; exact h1, fun z hz => (List.mem_cons.1 hz).elim (fun e => by subst e; simpa using h) (h2 z)⟩
      · refine Or.inr ⟨x :: a, y, b, by rw [h1]; rfl, h2, fun z hz => (List.mem_cons.1 hz).elim (fun e => by subst e; simpa using h) (h3 z), ?_⟩
        unfold idxP
        rw [if_neg h, h4, List.length_cons]
        congr 1
        omega
theorem idxP_any (p : MsgV → Bool) (l : List MsgV) : decide (0 ≤ idxP p l 0) = l.any p := by
  rcases idxP_spec p l 0 with ⟨h1, h2⟩ | ⟨a, x, b, h1, h2, h3, h4⟩
  · rw [h1]
    have : l.any p = false := by rw [List.any_eq_false]; intro x hx; rw [h2 x hx]; simp
    rw [this]; rfl
  · have : l.any p = true := by rw [List.any_eq_true]; exact ⟨x, by rw [h1]; simp, h2⟩
    rw [this, h4]
    simp
theorem idxP_bd (p : MsgV → Bool) (l : List MsgV) : -1 ≤ idxP p l 0 ∧ idxP p l 0 < (l.length : Int) := by
  rcases idxP_spec p l 0 with ⟨h1, h2⟩ | ⟨a, x, b, h1, h2, h3, h4⟩
  · rw [h1]; omega
  · have := congrArg List.length h1
    simp at this
    rw [h4]; omega
set_option maxHeartbeats 1000000 in
set_option maxRecDepth 100000 in
theorem msg_IndexFunc (f bm : Nat) (p : MsgV → Bool) (l : List MsgV) (v : Value) (hlen : l.length ≤ 100000000000) (b : Nat) (w : World) (h : msgE.Own b w v l)
    (ef : ∀ args w, (callFunc f args).run Tryz.prog w = .ok (.enter f args) w)
    (hf : ∀ x W, Below w.heap.size w W → Calls Tryz.prog f #[.agg (msgC x), .pointer (some ⟨bm, 0, none⟩)] W fun e w' => e = .returned (.bool (p x)) ∧ Below W.heap.size W w') :
    Calls Tryz.prog 56 #[v, .func (.func f) #[] #[.pointer (some ⟨bm, 0, none⟩)]] w fun e w' => e = .returned (.int .i64 (idxP p l 0)) ∧ Below w.heap.size w w' := by
  obtain ⟨A, cap, rfl⟩ := h.slice
  have HO := Hd.mk h
  have HL := Hd.mk hlen
  have HF := Hd.mk hf
  clear h hf hlen
  go_enter Tryz.func56, Tryz.ntmps56
  go_wp2_with fail
  go_loopg [8] l.length (fun kq v8 w' => ∃ k : Nat, v8 = .int .i64 (k : Int) ∧ Hd (kq + k = l.length ∧ Below w.heap.size w w' ∧ idxP p (l.drop k) k = idxP p l 0))
  case atStart => exact ⟨0, rfl, ⟨by omega, Below.refl _ _, rfl⟩⟩
  case round =>
    obtain ⟨k, rfl, HR⟩ := hrel
    by_cases hlt : k < l.length
    · obtain ⟨x, hx⟩ : ∃ x, l[k]? = some x := ⟨_, List.getElem?_eq_getElem hlt⟩
      have hown := HO.out.below HR.out.2.1
      obtain ⟨g, cap2, e, hbg, -⟩ := hown.lit (fun e => by subst e; simp at hlt)
      cases e
      have HRG := Hd.mk (hown.range hx)
      have hd : l.drop k = x :: l.drop (k + 1) := by
        rw [List.drop_eq_getElem_cons hlt]
        rw [List.getElem?_eq_getElem hlt] at hx
        rw [Option.some.inj hx]
      have hi := HR.out.2.2
      rw [hd] at hi
      have HP := Hd.mk (HF.out x)
      have hc : (k : Int) < (l.length : Int) := by omega
      have hw : wrap64 ((k + 1 : Nat) : Int) = ((k + 1 : Nat) : Int) := by have := HL.out; unfold wrap64; omega
      have hk1 : (k : Int) + 1 = ((k + 1 : Nat) : Int) := by omega
      clear hx hd hown hbg
      generalize hn : l.length = n at *
      have HN := Hd.mk hn
      clear hn
      rcases hp : p x with _ | _
      · rw [hp] at HP
        have HI : Hd (idxP p (l.drop (k + 1)) (k + 1) = idxP p l 0) := ⟨by rw [← hi]; conv => rhs; unfold idxP; rw [if_neg (by simp [hp])]⟩
        clear hi hp
        generalize hk2 : k + 1 = k2 at *
        have HK2 := Hd.mk hk2
        clear hk2
        go_wp2_with (first | ((with_reducible refine gate_dst (N := 15) rfl ?_); refine wpList_load_mid rfl 38 _ rfl g (k * 22) rfl (msgC x).toList _ HRG.out Tryz.underlying38 rfl msg_size ?_))
        refine (HP.out _ HR.out.2.1).mono ?_; rintro e w1 ⟨rfl, hb1⟩
        go_wp2_with fail
        go_roundg (n - k2)
        case measure => have := HR.out.1; have := HK2.out; omega
        case rel => exact ⟨k2, by rw [hw], ⟨by have := HK2.out; omega, below_step HR.out.2.1 hb1, HI.out⟩⟩
      · rw [hp] at HP
        have HI : Hd ((k : Int) = idxP p l 0) := ⟨by rw [← hi]; unfold idxP; rw [if_pos hp]⟩
        clear hi hp hw hk1
        go_wp2_with (first | ((with_reducible refine gate_dst (N := 15) rfl ?_); refine wpList_load_mid rfl 38 _ rfl g (k * 22) rfl (msgC x).toList _ HRG.out Tryz.underlying38 rfl msg_size ?_))
        refine (HP.out _ HR.out.2.1).mono ?_; rintro e w1 ⟨rfl, hb1⟩
        go_wp2_with fail
        go_ret
        exact ⟨by rw [← HI.out]; rfl, below_step HR.out.2.1 hb1⟩
    · have hc : ¬ (k : Int) < (l.length : Int) := by omega
      have HI : Hd ((-1 : Int) = idxP p l 0) := ⟨by rw [← HR.out.2.2, List.drop_eq_nil_of_le (by omega)]; rfl⟩
      go_wp2_with fail
      go_ret
      exact ⟨by rw [← HI.out]; rfl, HR.out.2.1⟩
theorem msg_ContainsFunc (f bm : Nat) (p : MsgV → Bool) (l : List MsgV) (v : Value) (hlen : l.length ≤ 100000000000) (b : Nat) (w : World) (h : msgE.Own b w v l)
    (ef : ∀ args w, (callFunc f args).run Tryz.prog w = .ok (.enter f args) w)
    (hf : ∀ x W, Below w.heap.size w W → Calls Tryz.prog f #[.agg (msgC x), .pointer (some ⟨bm, 0, none⟩)] W fun e w' => e = .returned (.bool (p x)) ∧ Below W.heap.size W w') :
    Calls Tryz.prog 26 #[v, .func (.func f) #[] #[.pointer (some ⟨bm, 0, none⟩)]] w fun e w' => e = .returned (.bool (l.any p)) ∧ Below w.heap.size w w' := by
  have HI := Hd.mk (msg_IndexFunc f bm p l v hlen b w h ef hf)
  have HA := Hd.mk (idxP_any p l)
  obtain ⟨A, cap, rfl⟩ := h.slice
  clear ef hf h
  generalize idxP p l 0 = i at *
  go_enter Tryz.func26, Tryz.ntmps26
  go_wp2_with fail
  refine HI.out.mono ?_; rintro e w1 ⟨rfl, hb1⟩
  go_wp2_with fail
  go_ret
  exact ⟨by rw [← HA.out]; rfl, hb1⟩
end Go.Proofs.YtcgkkjfbdappoaaGreat
