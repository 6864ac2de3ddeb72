/- What lies in memory of a buffer; Seen and Offer: their contracts. -/
import Derived.Test.YtcgkkjfbdappoaaGreatIndexAll
import Derived.Test.YtcgkkjfbdappoaaGreatMadeAll
namespace Go.Proofs.YtcgkkjfbdappoaaGreat
open Go.RowKit Go.Proofs.YtcgkkjfbdappoaaGreatW.PrintWords Go.Proofs.YtcgkkjfbdappoaaGreatW.PrintLast Go.Proofs.YtcgkkjfbdappoaaGreatW.PrintMore
set_option linter.unusedVariables false
set_option linter.unusedSimpArgs false

theorem bufC_size (s : List Int) (v : Value) (h : s.length = 8) : (bufC s v).size = 9 := by unfold bufC; simp [vec_size, h]
theorem bufC_vec (s : List Int) (v : Value) (h : s.length = 8) : ∀ (j : Nat) u, (vec s).toList[j]? = some u → (bufC s v)[0 + j]? = some u := fun j u hu => by
  have hj := (List.getElem?_eq_some_iff.1 hu).1
  have h8 : (vec s).size = 8 := by rw [vec_size, h]
  unfold bufC
  rw [Nat.zero_add, Array.getElem?_append_left (by simpa using hj)]
  simpa using hu
theorem bufC_at {s : List Int} (v : Value) (h : s.length = 8) {k : Nat} {x : Int} (hx : s[k]? = some x) : (bufC s v)[k]? = some (.int .i64 x) := by
  have hk := (List.getElem?_eq_some_iff.1 hx).1
  unfold bufC
  rw [Array.getElem?_append_left (by rw [vec_size]; exact hk)]
  exact vec_at hx
theorem bufC_last (s : List Int) (v : Value) (h : s.length = 8) : (bufC s v)[8]? = some v := by
  unfold bufC
  rw [Array.getElem?_append_right (by rw [vec_size, h]; exact Nat.le_refl _), vec_size, h]
  rfl
theorem bufC_set (s : List Int) (v u : Value) (h : s.length = 8) : (bufC s v).setIfInBounds 8 u = bufC s u := by
  match s, h with
  | [a, b, c, d, e, f, g, i], _ => rfl
/-- A buffer: how much was seen, and what waits; nothing of it is of S. -/
structure BufAt (S : Nat → Prop) (w : World) (p : Nat) (s : List Int) (l : List MsgV) : Prop where
  ex : ∃ v, w.heap[p]? = some (.cells (bufC s v) 65 (0, 0)) ∧ msgE.Own 0 w v l ∧ ∀ k, v.ownBlock = some k → ¬ S k ∧ k ≠ p
  np : ¬ S p
  bd : ∀ k, S k → k < w.heap.size
  len : s.length = 8
variable {S : Nat → Prop} {w w' : World} {p : Nat} {s : List Int} {l : List MsgV}
theorem BufAt.call (h : BufAt S w p s l) (hb : Below w.heap.size w w') : BufAt S w' p s l := by
  obtain ⟨v, h1, h2, h3⟩ := h.ex
  exact ⟨⟨v, (hb.block _ (lt_of h1)).trans h1, h2.below hb, h3⟩, h.np, fun k hk => Nat.lt_of_lt_of_le (h.bd k hk) hb.size, h.len⟩
theorem BufAt.keep (h : BufAt S w p s l) (hb : Below w.heap.size w w') : KeepOn S w w' := keep_of_below hb h.bd
/-- A block that isn't the buffer's may be of S. -/
theorem BufAt.more (h : BufAt S w p s l) {q : Nat} (hq : q < w.heap.size) (hp : q ≠ p) (hv : ∀ v, w.heap[p]? = some (.cells (bufC s v) 65 (0, 0)) → v.ownBlock ≠ some q) : BufAt (fun k => S k ∨ k = q) w p s l := by
  obtain ⟨v, h1, h2, h3⟩ := h.ex
  refine ⟨⟨v, h1, h2, fun k hk => ⟨fun e => e.elim (h3 k hk).1 (fun e => hv v h1 (e ▸ hk)), (h3 k hk).2⟩⟩, fun e => e.elim h.np (fun e => hp e.symm), fun k hk => hk.elim (h.bd k) (fun e => e ▸ hq), h.len⟩
/-- A block that was laid behind a world in which the buffer was. -/
theorem BufAt.fresh (h : BufAt S w p s l) (hb : Below w.heap.size w w') {T : Nat → Prop} (hT : ∀ k, T k → S k ∨ (w.heap.size ≤ k ∧ k < w'.heap.size)) : BufAt T w' p s l := by
  obtain ⟨v, h1, h2, h3⟩ := h.ex
  refine ⟨⟨v, (hb.block _ (lt_of h1)).trans h1, h2.below hb, fun k hk => ⟨fun e => ?_, (h3 k hk).2⟩⟩, fun e => ?_, fun k hk => ?_, h.len⟩
  · rcases hT k e with h4 | h4
    · exact (h3 k hk).1 h4
    · have := (h2.lt hk).2; omega
  · rcases hT p e with h4 | h4
    · exact h.np h4
    · have := lt_of h1; omega
  · rcases hT k hk with h4 | h4
    · exact Nat.lt_of_lt_of_le (h.bd k h4) hb.size
    · exact h4.2
theorem BufAt.mono (h : BufAt S w p s l) {T : Nat → Prop} (hT : ∀ k, T k → S k) : BufAt T w p s l := h.fresh (Below.refl _ _) (fun k hk => Or.inl (hT k hk))
set_option maxHeartbeats 1000000 in
set_option maxRecDepth 100000 in
theorem buf_Seen (S : Nat → Prop) (p : Nat) (s : List Int) (l : List MsgV) (w : World) (h : BufAt S w p s l) : Calls Tryz.prog 16 #[.pointer (some ⟨p, 0, none⟩)] w fun e w' => e = .returned (.agg (vec s)) ∧ Below w.heap.size w w' := by
  obtain ⟨v, hp, -⟩ := h.ex
  have HL := Hd.mk h.len
  have HP := Hd.mk (⟨lt_of hp, hp⟩ : _ ∧ _)
  have HZ := Hd.mk (show (Tryz.prog.info? 32).map (·.size) = some (vec s).toList.length by rw [Array.length_toList, vec_size, h.len]; exact size_vec)
  have HZ2 := Hd.mk (show (Tryz.prog.info? 32).map (·.size) = some (vec s).size by rw [vec_size, h.len]; exact size_vec)
  have K0 := Hd.mk (Holds.start1 w (.cells (vec zero8) 32 (0, 0)))
  have hz := zeroVec
  clear hp h
  go_enter Tryz.func16, Tryz.ntmps16
  go_upto_region 1 with (fail)
  clear hz
  refine world_gen _ K0.out (fun W hK => ?_)
  have K1 := Hd.mk hK
  clear hK K0
  go_wp2_with (first | ((with_reducible refine gate_load (t := 32) rfl ?_); refine wpList_load_mid rfl 32 _ rfl p 0 rfl (vec s).toList _ (range_ofC ((K1.out.2.block p HP.out.1).trans HP.out.2) 0 _ (bufC_vec s v HL.out)) Tryz.underlying32 rfl HZ.out ?_) | ((with_reducible refine gate_store (t := 32) rfl ?_); refine wpList_store_row rfl _ _ _ rfl w.heap.size (vec s) rfl rfl 32 (vec zero8) (K1.out.get 0 rfl) HZ2.out (by rw [vec_size, vec_size, HL.out]; rfl) (vec_one _) ?_))
  exact bodyPost_ret (results_cell_row (p := 2) rfl _ _ w.heap.size 32 (vec s) (0, 0) _ rfl (setRow_heap _ _ _ _ _ _ (K1.out.get 0 rfl)) Tryz.underlying32 rfl HZ2.out) rfl ⟨rfl, below_setRow K1.out.2 (Nat.le_refl _) _⟩
theorem fine_may {m : MsgV} (h : m.fine = true) : m.may = true := by
  unfold MsgV.fine at h
  simp only [Bool.and_eq_true] at h
  exact h.1.1.1.1
set_option maxHeartbeats 2000000 in
set_option maxRecDepth 100000 in
theorem offer_not (S : Nat → Prop) (p : Nat) (s : List Int) (l : List MsgV) (m : MsgV) (hd : m.dt.size ≤ 140737488355328) (w : World) (h : BufAt S w p s l) (hf : m.fine = false) : Calls Tryz.prog 8 #[.pointer (some ⟨p, 0, none⟩), .agg (msgC m)] w fun e w' => e = .returned (.bool false) ∧ Below w.heap.size w w' := by
  obtain ⟨v, hp, hown, hno⟩ := h.ex
  obtain ⟨A, cap, rfl⟩ := hown.slice
  have HLN := Hd.mk h.len
  have HP := Hd.mk (⟨lt_of hp, hp⟩ : _ ∧ _)
  have HV8 := Hd.mk (bufC_last s (.slice A l.length cap) h.len)
  have K0 := Hd.mk (Holds.start1 w (.cells (msgC m) 38 (0, 0)))
  have HM := Hd.mk (may_c m hd)
  have HR := Hd.mk (rep_c m)
  rw [hf] at HM
  clear hf hown hno hp h
  have rr : Nat := 0
  have sr : Int := 0
  have OFF := HR
  go_enter Tryz.func8, Tryz.ntmps8
  go_upto_region 2 with (fail)
  refine world_gen _ K0.out (fun W hK => ?_)
  have K1 := Hd.mk hK
  clear hK K0
  refine st_ 27 (S := fun W_ => Holds w [(w.heap.size, .cells (msgC m) 38 (0, 0))] W_) (ds := []) (K1.out.drew) (fun hHeld => ?_)
  refine pu_ 0 (some 7) ?_
  refine pu_ 1 (some 8) ?_
  refine pu_ 2 (some 9) ?_
  refine tk_ 3 (some 10) (.agg (msgC m)) rfl (fun w' h => run_load_wholeC _ rfl w.heap.size m rfl (h.get 0 rfl)) hHeld ?_
  refine cb_ 4 (some 11) Tryz.func20 HM (fun _ hr => hHeld.call hr) (fun wr1 hHeld => ?_)
  refine pu_ 5 (some 12) ?_
  refine pu_ 6 (some 13) ?_
  refine pu_ 7 (some 14) ?_
  first | (refine pu_ 8 (some 15) ?_) | refine po_ 8 (some 15) ?_
  first | (refine pu_ 9 (some 16) ?_) | refine po_ 9 (some 16) ?_
  first | (refine pu_ 10 (some 17) ?_) | refine po_ 10 (some 17) ?_
  first | (refine tk_ 11 (some 18) (.agg (msgC m)) rfl (fun w' h => run_load_wholeC _ rfl w.heap.size m rfl (h.get 0 rfl)) hHeld ?_) | refine po_ 11 (some 18) ?_
  first | (refine pu_ 13 (some 20) ?_) | refine po_ 13 (some 20) ?_
  first | (refine pu_ 14 (some 21) ?_) | refine po_ 14 (some 21) ?_
  refine po_ 12 (some 19) ?_
  first | (refine pu_ 15 (some 22) ?_) | refine po_ 15 (some 22) ?_
  first | (refine pu_ 16 (some 23) ?_) | refine po_ 16 (some 23) ?_
  first | (refine pu_ 17 (some 24) ?_) | refine po_ 17 (some 24) ?_
  refine pu_ 18 (some 25) ?_
  refine pu_ 19 (some 26) ?_
  first | (refine pu_ 20 (some 27) ?_) | refine po_ 20 (some 27) ?_
  first | (refine pu_ 21 (some 28) ?_) | refine po_ 21 (some 28) ?_
  first | (refine pu_ 22 (some 29) ?_) | refine po_ 22 (some 29) ?_
  first | (refine pu_ 23 (some 30) ?_) | refine po_ 23 (some 30) ?_
  first | (refine pu_ 24 (some 31) ?_) | refine po_ 24 (some 31) ?_
  refine po_ 25 (some 32) ?_
  refine pu_ 26 (some 33) ?_
  refine done_ (by kernel_rfl) ?_
  go_wp2_with fail
  go_ret
  exact ⟨rfl, hHeld.2⟩
set_option maxHeartbeats 2000000 in
set_option maxRecDepth 100000 in
theorem offer_seen (S : Nat → Prop) (p : Nat) (s : List Int) (l : List MsgV) (m : MsgV) (hd : m.dt.size ≤ 140737488355328) (w : World) (h : BufAt S w p s l) (hf : m.fine = true) (hq : m.q ≤ s.getD m.r.toNat 0) : Calls Tryz.prog 8 #[.pointer (some ⟨p, 0, none⟩), .agg (msgC m)] w fun e w' => e = .returned (.bool false) ∧ Below w.heap.size w w' := by
  obtain ⟨v, hp, hown, hno⟩ := h.ex
  obtain ⟨A, cap, rfl⟩ := hown.slice
  have HLN := Hd.mk h.len
  have HP := Hd.mk (⟨lt_of hp, hp⟩ : _ ∧ _)
  have HV8 := Hd.mk (bufC_last s (.slice A l.length cap) h.len)
  have K0 := Hd.mk (Holds.start1 w (.cells (msgC m) 38 (0, 0)))
  have HM := Hd.mk (may_c m hd)
  have HR := Hd.mk (rep_c m)
  obtain ⟨rr, hr8, hr⟩ := may_rep (fine_may hf)
  obtain ⟨sr, hsr⟩ : ∃ sr, s[rr]? = some sr := ⟨_, List.getElem?_eq_getElem (by rw [h.len]; exact hr8)⟩
  have HSR := Hd.mk (bufC_at (.slice A l.length cap) h.len hsr)
  have hi1 : (0 : Int) ≤ (rr : Int) := by omega
  have hi2 : (rr : Int) < 8 := by omega
  rw [hf] at HM
  rw [hr] at HR
  have hsq : s.getD m.r.toNat 0 = sr := by rw [hr, Int.toNat_natCast, List.getD_eq_getElem?_getD, hsr]; rfl
  rw [hsq] at hq
  have e1 : decide (m.q ≤ sr) = true := decide_eq_true hq
  have OFF := HR
  clear hf hown hno hp h hsr hr hq hsq
  go_enter Tryz.func8, Tryz.ntmps8
  go_upto_region 2 with (fail)
  refine world_gen _ K0.out (fun W hK => ?_)
  have K1 := Hd.mk hK
  clear hK K0
  refine st_ 27 (S := fun W_ => Holds w [(w.heap.size, .cells (msgC m) 38 (0, 0))] W_) (ds := []) (K1.out.drew) (fun hHeld => ?_)
  refine pu_ 0 (some 7) ?_
  refine pu_ 1 (some 8) ?_
  refine pu_ 2 (some 9) ?_
  refine tk_ 3 (some 10) (.agg (msgC m)) rfl (fun w' h => run_load_wholeC _ rfl w.heap.size m rfl (h.get 0 rfl)) hHeld ?_
  refine cb_ 4 (some 11) Tryz.func20 HM (fun _ hr => hHeld.call hr) (fun wr4 hHeld => ?_)
  refine pu_ 5 (some 12) ?_
  refine pu_ 6 (some 13) ?_
  refine pu_ 7 (some 14) ?_
  refine pu_ 8 (some 15) ?_
  refine tk_ 9 (some 16) (.int .i64 m.q) rfl (fun w' h => by have c : w'.cell? ⟨w.heap.size, 0, none⟩ = some (.int .i64 m.q) := (cell_of_row w' _ 0 _ _ _ (h.get 0 rfl)).trans rfl; go_simp) hHeld ?_
  refine pu_ 10 (some 17) ?_
  refine tk_ 11 (some 18) (.agg (msgC m)) rfl (fun w' h => run_load_wholeC _ rfl w.heap.size m rfl (h.get 0 rfl)) hHeld ?_
  refine pu_ 13 (some 20) ?_
  refine pu_ 14 (some 21) ?_
  refine cb_ 12 (some 19) Tryz.func25 HR (fun _ hr => hHeld.call hr) (fun wr5 hHeld => ?_)
  refine pu_ 15 (some 22) ?_
  refine tk_ 16 (some 23) (.int .i64 sr) rfl (fun w' h => by have c : w'.cell? ⟨p, rr, none⟩ = some (.int .i64 sr) := (cell_of_row w' _ rr _ _ _ ((h.2.block p HP.out.1).trans HP.out.2)).trans HSR.out; go_simp) hHeld ?_
  refine pu_ 17 (some 24) ?_
  refine pu_ 18 (some 25) ?_
  refine pu_ 19 (some 26) ?_
  first | (refine pu_ 20 (some 27) ?_) | refine po_ 20 (some 27) ?_
  first | (refine pu_ 21 (some 28) ?_) | refine po_ 21 (some 28) ?_
  first | (refine pu_ 22 (some 29) ?_) | refine po_ 22 (some 29) ?_
  first | (refine pu_ 23 (some 30) ?_) | refine po_ 23 (some 30) ?_
  first | (refine pu_ 24 (some 31) ?_) | refine po_ 24 (some 31) ?_
  refine po_ 25 (some 32) ?_
  refine pu_ 26 (some 33) ?_
  refine done_ (by kernel_rfl) ?_
  go_wp2_with fail
  go_ret
  exact ⟨rfl, hHeld.2⟩
set_option maxHeartbeats 2000000 in
set_option maxRecDepth 100000 in
theorem offer_waits (S : Nat → Prop) (p : Nat) (s : List Int) (l : List MsgV) (m : MsgV) (hd : m.dt.size ≤ 140737488355328) (w : World) (h : BufAt S w p s l) (hlen : l.length ≤ 50000000000) (hf : m.fine = true) (hq : ¬ m.q ≤ s.getD m.r.toNat 0) (ha : (l.any fun x => sameM x m) = true) : Calls Tryz.prog 8 #[.pointer (some ⟨p, 0, none⟩), .agg (msgC m)] w fun e w' => e = .returned (.bool false) ∧ Below w.heap.size w w' := by
  obtain ⟨v, hp, hown, hno⟩ := h.ex
  obtain ⟨A, cap, rfl⟩ := hown.slice
  have HLN := Hd.mk h.len
  have HP := Hd.mk (⟨lt_of hp, hp⟩ : _ ∧ _)
  have HV8 := Hd.mk (bufC_last s (.slice A l.length cap) h.len)
  have K0 := Hd.mk (Holds.start1 w (.cells (msgC m) 38 (0, 0)))
  have HM := Hd.mk (may_c m hd)
  have HR := Hd.mk (rep_c m)
  obtain ⟨rr, hr8, hr⟩ := may_rep (fine_may hf)
  obtain ⟨sr, hsr⟩ : ∃ sr, s[rr]? = some sr := ⟨_, List.getElem?_eq_getElem (by rw [h.len]; exact hr8)⟩
  have HSR := Hd.mk (bufC_at (.slice A l.length cap) h.len hsr)
  have hi1 : (0 : Int) ≤ (rr : Int) := by omega
  have hi2 : (rr : Int) < 8 := by omega
  rw [hf] at HM
  rw [hr] at HR
  have hsq : s.getD m.r.toNat 0 = sr := by rw [hr, Int.toNat_natCast, List.getD_eq_getElem?_getD, hsr]; rfl
  rw [hsq] at hq
  have e1 : decide (m.q ≤ sr) = false := decide_eq_false hq
  have HC : Hd (∀ W, Holds w [(w.heap.size, .cells (msgC m) 38 (0, 0))] W → Calls Tryz.prog 26 #[.slice A l.length cap, .func (.func 24) #[] #[.pointer (some ⟨w.heap.size, 0, none⟩)]] W fun e w' => e = .returned (.bool (l.any (fun x => sameM x m))) ∧ Below W.heap.size W w') :=
    ⟨fun W hW => msg_ContainsFunc _ _ (fun x => sameM x m) l _ (by omega) 0 W (hown.below hW.2) (enters_of Tryz.func24 (by kernel_rfl) rfl) (fun x W2 hb => same_O x m _ W2 ((hb.block _ (hW.lt 0 rfl)).trans (hW.get 0 rfl)))⟩
  rw [ha] at HC
  clear hf hown hno hp h hsr hr hq hsq hlen ha
  go_enter Tryz.func8, Tryz.ntmps8
  go_upto_region 2 with (fail)
  refine world_gen _ K0.out (fun W hK => ?_)
  have K1 := Hd.mk hK
  clear hK K0
  refine st_ 27 (S := fun W_ => Holds w [(w.heap.size, .cells (msgC m) 38 (0, 0))] W_) (ds := []) (K1.out.drew) (fun hHeld => ?_)
  refine pu_ 0 (some 7) ?_
  refine pu_ 1 (some 8) ?_
  refine pu_ 2 (some 9) ?_
  refine tk_ 3 (some 10) (.agg (msgC m)) rfl (fun w' h => run_load_wholeC _ rfl w.heap.size m rfl (h.get 0 rfl)) hHeld ?_
  refine cb_ 4 (some 11) Tryz.func20 HM (fun _ hr => hHeld.call hr) (fun wr7 hHeld => ?_)
  refine pu_ 5 (some 12) ?_
  refine pu_ 6 (some 13) ?_
  refine pu_ 7 (some 14) ?_
  refine pu_ 8 (some 15) ?_
  refine tk_ 9 (some 16) (.int .i64 m.q) rfl (fun w' h => by have c : w'.cell? ⟨w.heap.size, 0, none⟩ = some (.int .i64 m.q) := (cell_of_row w' _ 0 _ _ _ (h.get 0 rfl)).trans rfl; go_simp) hHeld ?_
  refine pu_ 10 (some 17) ?_
  refine tk_ 11 (some 18) (.agg (msgC m)) rfl (fun w' h => run_load_wholeC _ rfl w.heap.size m rfl (h.get 0 rfl)) hHeld ?_
  refine pu_ 13 (some 20) ?_
  refine pu_ 14 (some 21) ?_
  refine cb_ 12 (some 19) Tryz.func25 HR (fun _ hr => hHeld.call hr) (fun wr8 hHeld => ?_)
  refine pu_ 15 (some 22) ?_
  refine tk_ 16 (some 23) (.int .i64 sr) rfl (fun w' h => by have c : w'.cell? ⟨p, rr, none⟩ = some (.int .i64 sr) := (cell_of_row w' _ rr _ _ _ ((h.2.block p HP.out.1).trans HP.out.2)).trans HSR.out; go_simp) hHeld ?_
  refine pu_ 17 (some 24) ?_
  refine pu_ 18 (some 25) ?_
  refine pu_ 19 (some 26) ?_
  refine pu_ 20 (some 27) ?_
  refine pu_ 21 (some 28) ?_
  refine pu_ 22 (some 29) ?_
  refine tk_ 23 (some 30) (.slice A l.length cap) rfl (fun w' h => by have c : w'.cell? ⟨p, 8, none⟩ = some (.slice A l.length cap) := (cell_of_row w' _ 8 _ _ _ ((h.2.block p HP.out.1).trans HP.out.2)).trans HV8.out; go_simp) hHeld ?_
  refine pu_ 24 (some 31) ?_
  refine one_ (i := 25) (N := some 32) #[true, true, true, true, true, true, true, true, true, true, true, true, true, true, true, true, true, true, true, true, true, true, true, true, true, true, false] rfl rfl (by kernel_rfl) (by decide) (fun K hK => ?_)
  refine goes_ Tryz.func26 (by kernel_rfl) rfl #[.slice A l.length cap, .func (.func 24) #[] #[.pointer (some ⟨w.heap.size, 0, none⟩)]] (by rfl) rfl rfl (by (try simp only [List.map_toArray, List.map_cons, List.map_nil]); first | done | rfl) ?_
  (with_reducible refine (HC.out _ hHeld).mono ?_)
  rintro e wr9 ⟨rfl, hr9⟩
  refine ⟨_, rfl, ?_⟩
  refine hK.out _ _ (hHeld.call hr9) (fun hHeld => ?_)
  clear hK K
  refine norm_ (a' := ?_) ?_ ?_
  rotate_left
  · show Act.put _ (some 32) _ = _
    simp only [Act.put, List.setIfInBounds_toArray, List.set_cons_zero, List.set_cons_succ]
    rfl
  refine pu_ 26 (some 33) ?_
  refine done_ (by kernel_rfl) ?_
  go_wp2_with fail
  go_ret
  exact ⟨rfl, hHeld.2⟩
set_option maxHeartbeats 2000000 in
set_option maxRecDepth 100000 in
theorem offer_done (S : Nat → Prop) (p : Nat) (s : List Int) (l : List MsgV) (m : MsgV) (hd : m.dt.size ≤ 140737488355328) (w : World) (h : BufAt S w p s l) (hlen : l.length ≤ 50000000000) (hf : m.fine = true) (hq : ¬ m.q ≤ s.getD m.r.toNat 0) (ha : (l.any fun x => sameM x m) = false) : Calls Tryz.prog 8 #[.pointer (some ⟨p, 0, none⟩), .agg (msgC m)] w fun e w' => e = .returned (.bool true) ∧ BufAt S w' p s (l ++ [m]) ∧ KeepOn S w w' := by
  obtain ⟨v, hp, hown, hno⟩ := h.ex
  obtain ⟨A, cap, rfl⟩ := hown.slice
  have HLN := Hd.mk h.len
  have HP := Hd.mk (⟨lt_of hp, hp⟩ : _ ∧ _)
  have HV8 := Hd.mk (bufC_last s (.slice A l.length cap) h.len)
  have K0 := Hd.mk (Holds.start1 w (.cells (msgC m) 38 (0, 0)))
  have HM := Hd.mk (may_c m hd)
  have HR := Hd.mk (rep_c m)
  obtain ⟨rr, hr8, hr⟩ := may_rep (fine_may hf)
  obtain ⟨sr, hsr⟩ : ∃ sr, s[rr]? = some sr := ⟨_, List.getElem?_eq_getElem (by rw [h.len]; exact hr8)⟩
  have HSR := Hd.mk (bufC_at (.slice A l.length cap) h.len hsr)
  have hi1 : (0 : Int) ≤ (rr : Int) := by omega
  have hi2 : (rr : Int) < 8 := by omega
  rw [hf] at HM
  rw [hr] at HR
  have hsq : s.getD m.r.toNat 0 = sr := by rw [hr, Int.toNat_natCast, List.getD_eq_getElem?_getD, hsr]; rfl
  rw [hsq] at hq
  have e1 : decide (m.q ≤ sr) = false := decide_eq_false hq
  have HC : Hd (∀ W, Holds w [(w.heap.size, .cells (msgC m) 38 (0, 0))] W → Calls Tryz.prog 26 #[.slice A l.length cap, .func (.func 24) #[] #[.pointer (some ⟨w.heap.size, 0, none⟩)]] W fun e w' => e = .returned (.bool (l.any (fun x => sameM x m))) ∧ Below W.heap.size W w') :=
    ⟨fun W hW => msg_ContainsFunc _ _ (fun x => sameM x m) l _ (by omega) 0 W (hown.below hW.2) (enters_of Tryz.func24 (by kernel_rfl) rfl) (fun x W2 hb => same_O x m _ W2 ((hb.block _ (hW.lt 0 rfl)).trans (hW.get 0 rfl)))⟩
  rw [ha] at HC
  have HB := Hd.mk (⟨hown, hno, h.np, h.bd, hlen⟩ : _ ∧ _ ∧ _ ∧ _ ∧ _)
  clear hf hown hno hp h hsr hr hq hsq hlen ha
  go_enter Tryz.func8, Tryz.ntmps8
  go_upto_region 2 with (fail)
  refine world_gen _ K0.out (fun W hK => ?_)
  have K1 := Hd.mk hK
  clear hK K0
  refine st_ 27 (S := fun W_ => Holds w [(w.heap.size, .cells (msgC m) 38 (0, 0))] W_) (ds := []) (K1.out.drew) (fun hHeld => ?_)
  refine pu_ 0 (some 7) ?_
  refine pu_ 1 (some 8) ?_
  refine pu_ 2 (some 9) ?_
  refine tk_ 3 (some 10) (.agg (msgC m)) rfl (fun w' h => run_load_wholeC _ rfl w.heap.size m rfl (h.get 0 rfl)) hHeld ?_
  refine cb_ 4 (some 11) Tryz.func20 HM (fun _ hr => hHeld.call hr) (fun wr10 hHeld => ?_)
  refine pu_ 5 (some 12) ?_
  refine pu_ 6 (some 13) ?_
  refine pu_ 7 (some 14) ?_
  refine pu_ 8 (some 15) ?_
  refine tk_ 9 (some 16) (.int .i64 m.q) rfl (fun w' h => by have c : w'.cell? ⟨w.heap.size, 0, none⟩ = some (.int .i64 m.q) := (cell_of_row w' _ 0 _ _ _ (h.get 0 rfl)).trans rfl; go_simp) hHeld ?_
  refine pu_ 10 (some 17) ?_
  refine tk_ 11 (some 18) (.agg (msgC m)) rfl (fun w' h => run_load_wholeC _ rfl w.heap.size m rfl (h.get 0 rfl)) hHeld ?_
  refine pu_ 13 (some 20) ?_
  refine pu_ 14 (some 21) ?_
  refine cb_ 12 (some 19) Tryz.func25 HR (fun _ hr => hHeld.call hr) (fun wr11 hHeld => ?_)
  refine pu_ 15 (some 22) ?_
  refine tk_ 16 (some 23) (.int .i64 sr) rfl (fun w' h => by have c : w'.cell? ⟨p, rr, none⟩ = some (.int .i64 sr) := (cell_of_row w' _ rr _ _ _ ((h.2.block p HP.out.1).trans HP.out.2)).trans HSR.out; go_simp) hHeld ?_
  refine pu_ 17 (some 24) ?_
  refine pu_ 18 (some 25) ?_
  refine pu_ 19 (some 26) ?_
  refine pu_ 20 (some 27) ?_
  refine pu_ 21 (some 28) ?_
  refine pu_ 22 (some 29) ?_
  refine tk_ 23 (some 30) (.slice A l.length cap) rfl (fun w' h => by have c : w'.cell? ⟨p, 8, none⟩ = some (.slice A l.length cap) := (cell_of_row w' _ 8 _ _ _ ((h.2.block p HP.out.1).trans HP.out.2)).trans HV8.out; go_simp) hHeld ?_
  refine pu_ 24 (some 31) ?_
  refine one_ (i := 25) (N := some 32) #[true, true, true, true, true, true, true, true, true, true, true, true, true, true, true, true, true, true, true, true, true, true, true, true, true, true, false] rfl rfl (by kernel_rfl) (by decide) (fun K hK => ?_)
  refine goes_ Tryz.func26 (by kernel_rfl) rfl #[.slice A l.length cap, .func (.func 24) #[] #[.pointer (some ⟨w.heap.size, 0, none⟩)]] (by rfl) rfl rfl (by (try simp only [List.map_toArray, List.map_cons, List.map_nil]); first | done | rfl) ?_
  (with_reducible refine (HC.out _ hHeld).mono ?_)
  rintro e wr12 ⟨rfl, hr12⟩
  refine ⟨_, rfl, ?_⟩
  refine hK.out _ _ (hHeld.call hr12) (fun hHeld => ?_)
  clear hK K
  refine norm_ (a' := ?_) ?_ ?_
  rotate_left
  · show Act.put _ (some 32) _ = _
    simp only [Act.put, List.setIfInBounds_toArray, List.set_cons_zero, List.set_cons_succ]
    rfl
  refine pu_ 26 (some 33) ?_
  refine done_ (by kernel_rfl) ?_
  go_upto_region 4 with (fail)
  have K2 := Hd.mk hHeld
  clear hHeld K1 HC HM HR HSR e1 hi1 hi2
  refine world_gen _ K2.out (fun W2 hK => ?_)
  have K3 := Hd.mk hK.drew
  have hbb : Below w.heap.size w W2.drew := hK.drew.2
  clear hK K2
  refine st_ 11 (S := fun W_ => W_.heap[p]? = some (.cells (bufC s (.slice A l.length cap)) 65 (0, 0)) ∧ W_.heap[w.heap.size]? = some (.cells (msgC m) 38 (0, 0))) (ds := [10]) (⟨(hbb.block p HP.out.1).trans HP.out.2, K3.out.get 0 rfl⟩) (fun hHeld => ?_)
  refine pu_ 0 (some 34) ?_
  refine pu_ 1 (some 35) ?_
  refine pu_ 2 (some 36) ?_
  refine pu_ 3 (some 37) ?_
  refine tk_ 4 (some 38) (.slice A l.length cap) rfl (fun w' h => by have c : w'.cell? ⟨p, 8, none⟩ = some (.slice A l.length cap) := (cell_of_row w' _ 8 _ _ _ h.1).trans HV8.out; go_simp) hHeld ?_
  refine tk_ 5 (some 39) (.agg (msgC m)) rfl (fun w' h => run_load_wholeC _ rfl w.heap.size m rfl h.2) hHeld ?_
  refine one_ (i := 6) (N := some 40) #[true, true, true, true, true, true, true, false, false, false, false] rfl rfl (by kernel_rfl) (by decide) (fun K hK => ?_)
  refine value_ (by rfl) rfl (build1m 49 Tryz.underlying49 _ rfl m rfl) ?_
  refine hK.out _ _ (⟨(heap_alloc_old _ _ (lt_of hHeld.1)).trans hHeld.1, (heap_alloc_old _ _ (lt_of hHeld.2)).trans hHeld.2⟩) (fun hHeld => ?_)
  clear hK K
  refine norm_ (a' := ?_) ?_ ?_
  rotate_left
  · show Act.put _ (some 40) _ = _
    simp only [Act.put, List.setIfInBounds_toArray, List.set_cons_zero, List.set_cons_succ]
    rfl
  obtain ⟨v1, w9, hrun, hown3, hgr, hnb⟩ := run_cat1 (HB.out.1.below (hbb.alloc hbb.size (.cells (msgC m) 38 (0, 0)))) m (g0 := W2.drew.heap.size) (fun j u hu => (cell_of_row _ _ j _ _ _ (heap_alloc_new W2.drew _)).trans (by have hu2 : (msgC m).toList[j]? = some u := hu; simpa using hu2)) HB.out.2.2.2.2 (Nat.zero_le _)
  obtain ⟨A1, cp1, rfl⟩ := hown3.slice
  have hro : ∀ k, (Value.slice A l.length cap).ownBlock = some k → k ≠ p ∧ k < w.heap.size ∧ ¬ S k := fun k e => ⟨(HB.out.2.1 k e).2, (HB.out.1.lt e).2, (HB.out.2.1 k e).1⟩
  refine one_ (i := 7) (N := some 41) #[true, true, true, true, true, true, true, true, false, false, false] rfl rfl (by kernel_rfl) (by decide) (fun K hK => ?_)
  refine value_ (by rfl) rfl (run_catop rfl rfl rfl rfl hrun) ?_
  refine hK.out _ _ (⟨(hgr.block _ (lt_of hHeld.1) (fun e => (hro _ e.symm).1 rfl)).trans hHeld.1, (hgr.block _ (lt_of hHeld.2) (fun e => by have := (hro _ e.symm).2.1; omega)).trans hHeld.2⟩) (fun hHeld => ?_)
  clear hK K
  refine norm_ (a' := ?_) ?_ ?_
  rotate_left
  · show Act.put _ (some 41) _ = _
    simp only [Act.put, List.setIfInBounds_toArray, List.set_cons_zero, List.set_cons_succ]
    rfl
  refine pu_ 8 (some 42) ?_
  refine pu_ 9 (some 43) ?_
  have cb : w9.cell? ⟨p, 8, none⟩ = some (.slice A l.length cap) := (cell_of_row w9 _ 8 _ _ _ hHeld.1).trans HV8.out
  have fb := frozen_of_row w9 p 8 _ _ hHeld.1
  refine last_ (i := 10) (N := none) #[true, true, true, true, true, true, true, true, true, true, true] rfl rfl (by kernel_rfl) (by decide) (fun K hK => ?_)
  refine skip_ (by rfl) rfl (show (execOp _ _).run Tryz.prog _ = .ok .skip (w9.setCell ⟨p, 8, none⟩ (.slice A1 (l ++ [m]).length cp1)) from (by go_simp)) ?_
  refine hK.out _ _ ?_
  clear hK K
  refine done_ (by kernel_rfl) ?_
  have hsz : W2.drew.heap.size ≤ w9.heap.size := by have := hgr.size; simp at this ⊢; omega
  have hr9 : (w9.setCell ⟨p, 8, none⟩ (.slice A1 (l ++ [m]).length cp1)).heap[p]? = some (.cells (bufC s (.slice A1 (l ++ [m]).length cp1)) 65 (0, 0)) := by
    rw [← bufC_set s (.slice A l.length cap) (.slice A1 (l ++ [m]).length cp1) HLN.out]
    exact heap_setCell_same _ _ _ _ _ _ hHeld.1
  have hne1 : ∀ k, (Value.slice A1 (l ++ [m]).length cp1).ownBlock = some k → ¬ S k ∧ k ≠ p := fun k e => by
    rcases hnb k e with h5 | h5
    · exact ⟨(hro k h5).2.2, (hro k h5).1⟩
    · have h6 := hbb.size
      have h8 : W2.drew.heap.size = W2.heap.size := rfl
      have h7 : W2.drew.heap.size < k := by simp at h5 ⊢; omega
      refine ⟨fun hS => ?_, fun e2 => ?_⟩
      · have := HB.out.2.2.2.1 k hS; omega
      · have := HP.out.1; omega
  have hkeep : KeepOn S w (w9.setCell ⟨p, 8, none⟩ (.slice A1 (l ++ [m]).length cp1)) :=
    ((keep_of_below (hbb.alloc hbb.size (.cells (msgC m) 38 (0, 0))) HB.out.2.2.2.1).grown hgr (fun k hk => by have := HB.out.2.2.2.1 k hk; have := hbb.size; have h8 : W2.drew.heap.size = W2.heap.size := rfl; simp; omega) (fun k e => (hro k e).2.2)).setCell HB.out.2.2.1 _
  have HF := Hd.mk (⟨⟨⟨_, hr9, own_keep hown3 (fun k e => heap_setCell_other _ _ _ _ (fun e2 => (hne1 k e).2 e2)), hne1⟩, HB.out.2.2.1, fun k hk => Nat.lt_of_lt_of_le (HB.out.2.2.2.1 k hk) hkeep.size, HLN.out⟩, hkeep⟩ : BufAt S (w9.setCell ⟨p, 8, none⟩ (.slice A1 (l ++ [m]).length cp1)) p s (l ++ [m]) ∧ _)
  clear cb fb hHeld hr9 hne1 hown3 hgr hnb hrun hro hkeep K3 hbb hsz
  go_wp2_with fail
  go_ret
  exact ⟨rfl, HF.out⟩
end Go.Proofs.YtcgkkjfbdappoaaGreat
