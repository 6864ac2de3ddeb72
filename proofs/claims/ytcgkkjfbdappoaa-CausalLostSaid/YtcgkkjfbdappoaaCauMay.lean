/- causal: whose a message is, and whether it may be: their contracts. -/
import Derived.Test.YtcgkkjfbdappoaaOpMayAll
import Derived.Test.YtcgkkjfbdappoaaVecBll
import Derived.Test.YtcgkkjfbdappoaaCmpAll
namespace Go.Proofs.Ytcgkkjfbdappoaa
open Go.RowKit Go.Proofs.YtcgkkjfbdappoaaW.PrintWords Go.Proofs.YtcgkkjfbdappoaaW.PrintLast Go.Proofs.YtcgkkjfbdappoaaW.PrintMore
set_option linter.unusedVariables false
set_option linter.unusedSimpArgs false

def MsgV.may (m : MsgV) : Bool := mayO m.t m.r m.k m.a0 m.a1 m.i0 m.i1 m.t0 m.t1 m.nm m.nw m.off m.dt
/-- Whether a message may be. -/
def MsgV.fine (m : MsgV) : Bool := m.may && decide (1 ≤ m.q) && decide (m.q ≤ 1073741824) && mayV m.deps && (m.deps.getD m.r.toNat 0 == m.q - 1)
theorem size_msg : (Try.prog.info? 34).map (·.size) = some 22 := by kernel_rfl
theorem size_opM : (Try.prog.info? 32).map (·.size) = some 13 := by kernel_rfl
theorem size_vecM : (Try.prog.info? 27).map (·.size) = some 8 := by kernel_rfl
set_option maxHeartbeats 1000000 in
set_option maxRecDepth 100000 in
theorem msg_rep (m : MsgV) (w : World) : Calls Try.prog 17 #[.agg #[.int .i64 m.q, .int .i64 m.d0, .int .i64 m.d1, .int .i64 m.d2, .int .i64 m.d3, .int .i64 m.d4, .int .i64 m.d5, .int .i64 m.d6, .int .i64 m.d7, .int .i64 m.t, .int .i64 m.r, .int .i64 m.k, .int .i64 m.a0, .int .i64 m.a1, .int .i64 m.i0, .int .i64 m.i1, .int .i64 m.t0, .int .i64 m.t1, .string m.nm, .string m.nw, .int .i64 m.off, .string m.dt]] w fun e w' => e = .returned (.int .i64 m.r) ∧ Below w.heap.size w w' := by
  go_enter Try.func17, Try.ntmps17
  go_wp2_with fail
  go_ret
  exact ⟨rfl, (Below.refl _ _).alloc (Nat.le_refl _) _⟩
theorem eight_at {cs : Array Value} {o : Nat} {v0 v1 v2 v3 v4 v5 v6 v7 : Value} (h0 : cs[o]? = some v0) (h1 : cs[o + 1]? = some v1) (h2 : cs[o + 2]? = some v2) (h3 : cs[o + 3]? = some v3) (h4 : cs[o + 4]? = some v4) (h5 : cs[o + 5]? = some v5) (h6 : cs[o + 6]? = some v6) (h7 : cs[o + 7]? = some v7) :
    ∀ (j : Nat) v, [v0, v1, v2, v3, v4, v5, v6, v7][j]? = some v → cs[o + j]? = some v := fun j v h => by
  match j, h with
  | 0, h => simp at h; subst h; exact h0
  | 1, h => simp at h; subst h; exact h1
  | 2, h => simp at h; subst h; exact h2
  | 3, h => simp at h; subst h; exact h3
  | 4, h => simp at h; subst h; exact h4
  | 5, h => simp at h; subst h; exact h5
  | 6, h => simp at h; subst h; exact h6
  | 7, h => simp at h; subst h; exact h7
  | j + 8, h => simp at h
theorem may_rep {m : MsgV} (h : m.may = true) : ∃ n : Nat, n < 8 ∧ m.r = (n : Int) := by
  have hs : mayS m.t m.r = true := by
    unfold MsgV.may mayO at h
    simp only [Bool.and_eq_true] at h
    exact h.1.1.2
  have := of_decide_eq_true hs
  exact ⟨m.r.toNat, by omega, by omega⟩
set_option maxHeartbeats 4000000 in
set_option maxRecDepth 100000 in
theorem cmay_op (m : MsgV) (b0 bv : Bool) (w : World)
    (HO : Hd (∀ w, Calls Try.prog 32 #[.agg #[.int .i64 m.t, .int .i64 m.r, .int .i64 m.k, .int .i64 m.a0, .int .i64 m.a1, .int .i64 m.i0, .int .i64 m.i1, .int .i64 m.t0, .int .i64 m.t1, .string m.nm, .string m.nw, .int .i64 m.off, .string m.dt]] w fun e w' => e = .returned (.bool b0) ∧ Below w.heap.size w w'))
    (HVM : Hd (∀ w, Calls Try.prog 15 #[.agg [.int .i64 m.d0, .int .i64 m.d1, .int .i64 m.d2, .int .i64 m.d3, .int .i64 m.d4, .int .i64 m.d5, .int .i64 m.d6, .int .i64 m.d7].toArray] w fun e w' => e = .returned (.bool bv) ∧ Below w.heap.size w w'))
    (V : Bool) (HV : Hd (V = false)) (h0 : b0 = false) :
    Calls Try.prog 18 #[.agg #[.int .i64 m.q, .int .i64 m.d0, .int .i64 m.d1, .int .i64 m.d2, .int .i64 m.d3, .int .i64 m.d4, .int .i64 m.d5, .int .i64 m.d6, .int .i64 m.d7, .int .i64 m.t, .int .i64 m.r, .int .i64 m.k, .int .i64 m.a0, .int .i64 m.a1, .int .i64 m.i0, .int .i64 m.i1, .int .i64 m.t0, .int .i64 m.t1, .string m.nm, .string m.nw, .int .i64 m.off, .string m.dt]] w fun e w' => e = .returned (.bool V) ∧ Below w.heap.size w w' := by
  have K0 := Hd.mk (Holds.start1 w (.cells #[.int .i64 m.q, .int .i64 m.d0, .int .i64 m.d1, .int .i64 m.d2, .int .i64 m.d3, .int .i64 m.d4, .int .i64 m.d5, .int .i64 m.d6, .int .i64 m.d7, .int .i64 m.t, .int .i64 m.r, .int .i64 m.k, .int .i64 m.a0, .int .i64 m.a1, .int .i64 m.i0, .int .i64 m.i1, .int .i64 m.t0, .int .i64 m.t1, .string m.nm, .string m.nw, .int .i64 m.off, .string m.dt] 34 (0, 0)))
  subst h0
  go_enter Try.func18, Try.ntmps18
  go_upto_region 1 with (fail)
  refine world_gen _ K0.out (fun W hK => ?_)
  have K1 := Hd.mk hK
  clear hK K0
  refine start_ (n := 30) (S := fun W_ => Holds w [(w.heap.size, .cells #[.int .i64 m.q, .int .i64 m.d0, .int .i64 m.d1, .int .i64 m.d2, .int .i64 m.d3, .int .i64 m.d4, .int .i64 m.d5, .int .i64 m.d6, .int .i64 m.d7, .int .i64 m.t, .int .i64 m.r, .int .i64 m.k, .int .i64 m.a0, .int .i64 m.a1, .int .i64 m.i0, .int .i64 m.i1, .int .i64 m.t0, .int .i64 m.t1, .string m.nm, .string m.nw, .int .i64 m.off, .string m.dt] 34 (0, 0))] W_) (ds := []) #[false, false, false, false, false, false, false, false, false, false, false, false, false, false, false, false, false, false, false, false, false, false, false, false, false, false, false, false, false, false] (by kernel_rfl) rfl rfl (K1.out.drew) (fun hHeld => ?_)
  refine pure_ (i := 0) (N := some 3) (v := ?_) (a' := ?_) #[true, false, false, false, false, false, false, false, false, false, false, false, false, false, false, false, false, false, false, false, false, false, false, false, false, false, false, false, false, false] rfl rfl (by kernel_rfl) (fun _ _ _ h => h) (Or.inl ⟨by rfl, ?_⟩) ?_ ?_
  rotate_left
  · intro w_
    go_simp
    try with_reducible rfl
  rotate_left
  · simp only [Act.put, List.setIfInBounds_toArray, List.set_cons_zero, List.set_cons_succ]
    rfl
  refine take_ (i := 1) (N := some 4) (v := .agg #[.int .i64 m.t, .int .i64 m.r, .int .i64 m.k, .int .i64 m.a0, .int .i64 m.a1, .int .i64 m.i0, .int .i64 m.i1, .int .i64 m.t0, .int .i64 m.t1, .string m.nm, .string m.nw, .int .i64 m.off, .string m.dt]) (a' := ?_) #[true, true, false, false, false, false, false, false, false, false, false, false, false, false, false, false, false, false, false, false, false, false, false, false, false, false, false, false, false, false] rfl rfl (by kernel_rfl) (fun _ _ _ h => h) (Or.inl ⟨by rfl, fun w' h => run_load_mid 32 _ rfl w.heap.size 9 #[.int .i64 m.t, .int .i64 m.r, .int .i64 m.k, .int .i64 m.a0, .int .i64 m.a1, .int .i64 m.i0, .int .i64 m.i1, .int .i64 m.t0, .int .i64 m.t1, .string m.nm, .string m.nw, .int .i64 m.off, .string m.dt].toList rfl _ _ _ (h.get 0 rfl) (fun j v hj => by simpa [Nat.add_comm] using hj) _ Try.underlying32 rfl size_opM⟩) hHeld ?_ ?_
  rotate_left
  · simp only [Act.put, List.setIfInBounds_toArray, List.set_cons_zero, List.set_cons_succ]
    rfl
  refine one_ (i := 2) (N := some 5) #[true, true, true, false, false, false, false, false, false, false, false, false, false, false, false, false, false, false, false, false, false, false, false, false, false, false, false, false, false, false] rfl rfl (by kernel_rfl) (by decide) (fun K hK => ?_)
  refine goes_ Try.func32 (by kernel_rfl) rfl #[.agg #[.int .i64 m.t, .int .i64 m.r, .int .i64 m.k, .int .i64 m.a0, .int .i64 m.a1, .int .i64 m.i0, .int .i64 m.i1, .int .i64 m.t0, .int .i64 m.t1, .string m.nm, .string m.nw, .int .i64 m.off, .string m.dt]] (by rfl) rfl rfl (by (try simp only [List.map_toArray, List.map_cons, List.map_nil]); first | done | rfl) ?_
  (with_reducible refine (HO.out _).mono ?_)
  rintro e wr1 ⟨rfl, hr1⟩
  refine ⟨_, rfl, ?_⟩
  refine hK.out _ _ (hHeld.call hr1) (fun hHeld => ?_)
  clear hK K
  refine norm_ (a' := ?_) ?_ ?_
  rotate_left
  · show Act.put _ (some 5) _ = _
    simp only [Act.put, List.setIfInBounds_toArray, List.set_cons_zero, List.set_cons_succ]
    rfl
  refine pure_ (i := 3) (N := some 6) (v := ?_) (a' := ?_) #[true, true, true, true, false, false, false, false, false, false, false, false, false, false, false, false, false, false, false, false, false, false, false, false, false, false, false, false, false, false] rfl rfl (by kernel_rfl) (fun _ _ _ h => h) (Or.inl ⟨by rfl, ?_⟩) ?_ ?_
  rotate_left
  · intro w_
    go_simp
    try with_reducible rfl
  rotate_left
  · simp only [Act.put, List.setIfInBounds_toArray, List.set_cons_zero, List.set_cons_succ]
    rfl
  first
    | (refine pure_ (i := 4) (N := some 7) (v := ?_) (a' := ?_) #[true, true, true, true, true, false, false, false, false, false, false, false, false, false, false, false, false, false, false, false, false, false, false, false, false, false, false, false, false, false] rfl rfl (by kernel_rfl) (fun _ _ _ h => h) (Or.inl ⟨by rfl, ?_⟩) ?_ ?_
       rotate_left
       · intro w_
         go_simp
         try with_reducible rfl
       rotate_left
       · simp only [Act.put, List.setIfInBounds_toArray, List.set_cons_zero, List.set_cons_succ]
         rfl)
    | (refine pure_ (i := 4) (N := some 7) (v := undef) (a' := ?_) #[true, true, true, true, true, false, false, false, false, false, false, false, false, false, false, false, false, false, false, false, false, false, false, false, false, false, false, false, false, false] rfl rfl (by kernel_rfl) (fun _ _ _ h => h) (Or.inr ⟨by rfl, rfl⟩) ?_ ?_
       rotate_left
       · simp only [Act.put, List.setIfInBounds_toArray, List.set_cons_zero, List.set_cons_succ]
         rfl)
  first
    | (refine take_ (i := 5) (N := some 8) (v := .int .i64 m.q) (a' := ?_) #[true, true, true, true, true, true, false, false, false, false, false, false, false, false, false, false, false, false, false, false, false, false, false, false, false, false, false, false, false, false] rfl rfl (by kernel_rfl) (fun _ _ _ h => h) (Or.inl ⟨by rfl, fun w' h => by have c := cell_of_row w' _ 0 _ _ _ (h.get 0 rfl); go_simp⟩) hHeld ?_ ?_
       rotate_left
       · simp only [Act.put, List.setIfInBounds_toArray, List.set_cons_zero, List.set_cons_succ]
         rfl)
    | (refine pure_ (i := 5) (N := some 8) (v := undef) (a' := ?_) #[true, true, true, true, true, true, false, false, false, false, false, false, false, false, false, false, false, false, false, false, false, false, false, false, false, false, false, false, false, false] rfl rfl (by kernel_rfl) (fun _ _ _ h => h) (Or.inr ⟨by rfl, rfl⟩) ?_ ?_
       rotate_left
       · simp only [Act.put, List.setIfInBounds_toArray, List.set_cons_zero, List.set_cons_succ]
         rfl)
  first
    | (refine pure_ (i := 6) (N := some 9) (v := ?_) (a' := ?_) #[true, true, true, true, true, true, true, false, false, false, false, false, false, false, false, false, false, false, false, false, false, false, false, false, false, false, false, false, false, false] rfl rfl (by kernel_rfl) (fun _ _ _ h => h) (Or.inl ⟨by rfl, ?_⟩) ?_ ?_
       rotate_left
       · intro w_
         go_simp
         try with_reducible rfl
       rotate_left
       · simp only [Act.put, List.setIfInBounds_toArray, List.set_cons_zero, List.set_cons_succ]
         rfl)
    | (refine pure_ (i := 6) (N := some 9) (v := undef) (a' := ?_) #[true, true, true, true, true, true, true, false, false, false, false, false, false, false, false, false, false, false, false, false, false, false, false, false, false, false, false, false, false, false] rfl rfl (by kernel_rfl) (fun _ _ _ h => h) (Or.inr ⟨by rfl, rfl⟩) ?_ ?_
       rotate_left
       · simp only [Act.put, List.setIfInBounds_toArray, List.set_cons_zero, List.set_cons_succ]
         rfl)
  refine pure_ (i := 7) (N := some 10) (v := ?_) (a' := ?_) #[true, true, true, true, true, true, true, true, false, false, false, false, false, false, false, false, false, false, false, false, false, false, false, false, false, false, false, false, false, false] rfl rfl (by kernel_rfl) (fun _ _ _ h => h) (Or.inl ⟨by rfl, ?_⟩) ?_ ?_
  rotate_left
  · intro w_
    go_simp
    try with_reducible rfl
  rotate_left
  · simp only [Act.put, List.setIfInBounds_toArray, List.set_cons_zero, List.set_cons_succ]
    rfl
  refine pure_ (i := 8) (N := some 11) (v := ?_) (a' := ?_) #[true, true, true, true, true, true, true, true, true, false, false, false, false, false, false, false, false, false, false, false, false, false, false, false, false, false, false, false, false, false] rfl rfl (by kernel_rfl) (fun _ _ _ h => h) (Or.inl ⟨by rfl, ?_⟩) ?_ ?_
  rotate_left
  · intro w_
    go_simp
    try with_reducible rfl
  rotate_left
  · simp only [Act.put, List.setIfInBounds_toArray, List.set_cons_zero, List.set_cons_succ]
    rfl
  first
    | (refine pure_ (i := 9) (N := some 12) (v := ?_) (a' := ?_) #[true, true, true, true, true, true, true, true, true, true, false, false, false, false, false, false, false, false, false, false, false, false, false, false, false, false, false, false, false, false] rfl rfl (by kernel_rfl) (fun _ _ _ h => h) (Or.inl ⟨by rfl, ?_⟩) ?_ ?_
       rotate_left
       · intro w_
         go_simp
         try with_reducible rfl
       rotate_left
       · simp only [Act.put, List.setIfInBounds_toArray, List.set_cons_zero, List.set_cons_succ]
         rfl)
    | (refine pure_ (i := 9) (N := some 12) (v := undef) (a' := ?_) #[true, true, true, true, true, true, true, true, true, true, false, false, false, false, false, false, false, false, false, false, false, false, false, false, false, false, false, false, false, false] rfl rfl (by kernel_rfl) (fun _ _ _ h => h) (Or.inr ⟨by rfl, rfl⟩) ?_ ?_
       rotate_left
       · simp only [Act.put, List.setIfInBounds_toArray, List.set_cons_zero, List.set_cons_succ]
         rfl)
  first
    | (refine take_ (i := 10) (N := some 13) (v := .int .i64 m.q) (a' := ?_) #[true, true, true, true, true, true, true, true, true, true, true, false, false, false, false, false, false, false, false, false, false, false, false, false, false, false, false, false, false, false] rfl rfl (by kernel_rfl) (fun _ _ _ h => h) (Or.inl ⟨by rfl, fun w' h => by have c := cell_of_row w' _ 0 _ _ _ (h.get 0 rfl); go_simp⟩) hHeld ?_ ?_
       rotate_left
       · simp only [Act.put, List.setIfInBounds_toArray, List.set_cons_zero, List.set_cons_succ]
         rfl)
    | (refine pure_ (i := 10) (N := some 13) (v := undef) (a' := ?_) #[true, true, true, true, true, true, true, true, true, true, true, false, false, false, false, false, false, false, false, false, false, false, false, false, false, false, false, false, false, false] rfl rfl (by kernel_rfl) (fun _ _ _ h => h) (Or.inr ⟨by rfl, rfl⟩) ?_ ?_
       rotate_left
       · simp only [Act.put, List.setIfInBounds_toArray, List.set_cons_zero, List.set_cons_succ]
         rfl)
  first
    | (refine pure_ (i := 11) (N := some 14) (v := ?_) (a' := ?_) #[true, true, true, true, true, true, true, true, true, true, true, true, false, false, false, false, false, false, false, false, false, false, false, false, false, false, false, false, false, false] rfl rfl (by kernel_rfl) (fun _ _ _ h => h) (Or.inl ⟨by rfl, ?_⟩) ?_ ?_
       rotate_left
       · intro w_
         go_simp
         try with_reducible rfl
       rotate_left
       · simp only [Act.put, List.setIfInBounds_toArray, List.set_cons_zero, List.set_cons_succ]
         rfl)
    | (refine pure_ (i := 11) (N := some 14) (v := undef) (a' := ?_) #[true, true, true, true, true, true, true, true, true, true, true, true, false, false, false, false, false, false, false, false, false, false, false, false, false, false, false, false, false, false] rfl rfl (by kernel_rfl) (fun _ _ _ h => h) (Or.inr ⟨by rfl, rfl⟩) ?_ ?_
       rotate_left
       · simp only [Act.put, List.setIfInBounds_toArray, List.set_cons_zero, List.set_cons_succ]
         rfl)
  refine pure_ (i := 12) (N := some 15) (v := ?_) (a' := ?_) #[true, true, true, true, true, true, true, true, true, true, true, true, true, false, false, false, false, false, false, false, false, false, false, false, false, false, false, false, false, false] rfl rfl (by kernel_rfl) (fun _ _ _ h => h) (Or.inl ⟨by rfl, ?_⟩) ?_ ?_
  rotate_left
  · intro w_
    go_simp
    try with_reducible rfl
  rotate_left
  · simp only [Act.put, List.setIfInBounds_toArray, List.set_cons_zero, List.set_cons_succ]
    rfl
  refine pure_ (i := 13) (N := some 16) (v := ?_) (a' := ?_) #[true, true, true, true, true, true, true, true, true, true, true, true, true, true, false, false, false, false, false, false, false, false, false, false, false, false, false, false, false, false] rfl rfl (by kernel_rfl) (fun _ _ _ h => h) (Or.inl ⟨by rfl, ?_⟩) ?_ ?_
  rotate_left
  · intro w_
    go_simp
    try with_reducible rfl
  rotate_left
  · simp only [Act.put, List.setIfInBounds_toArray, List.set_cons_zero, List.set_cons_succ]
    rfl
  first
    | (refine pure_ (i := 14) (N := some 17) (v := ?_) (a' := ?_) #[true, true, true, true, true, true, true, true, true, true, true, true, true, true, true, false, false, false, false, false, false, false, false, false, false, false, false, false, false, false] rfl rfl (by kernel_rfl) (fun _ _ _ h => h) (Or.inl ⟨by rfl, ?_⟩) ?_ ?_
       rotate_left
       · intro w_
         go_simp
         try with_reducible rfl
       rotate_left
       · simp only [Act.put, List.setIfInBounds_toArray, List.set_cons_zero, List.set_cons_succ]
         rfl)
    | (refine pure_ (i := 14) (N := some 17) (v := undef) (a' := ?_) #[true, true, true, true, true, true, true, true, true, true, true, true, true, true, true, false, false, false, false, false, false, false, false, false, false, false, false, false, false, false] rfl rfl (by kernel_rfl) (fun _ _ _ h => h) (Or.inr ⟨by rfl, rfl⟩) ?_ ?_
       rotate_left
       · simp only [Act.put, List.setIfInBounds_toArray, List.set_cons_zero, List.set_cons_succ]
         rfl)
  first
    | (refine take_ (i := 15) (N := some 18) (v := .agg [.int .i64 m.d0, .int .i64 m.d1, .int .i64 m.d2, .int .i64 m.d3, .int .i64 m.d4, .int .i64 m.d5, .int .i64 m.d6, .int .i64 m.d7].toArray) (a' := ?_) #[true, true, true, true, true, true, true, true, true, true, true, true, true, true, true, true, false, false, false, false, false, false, false, false, false, false, false, false, false, false] rfl rfl (by kernel_rfl) (fun _ _ _ h => h) (Or.inl ⟨by rfl, fun w' h => run_load_mid 27 _ rfl w.heap.size 1 [.int .i64 m.d0, .int .i64 m.d1, .int .i64 m.d2, .int .i64 m.d3, .int .i64 m.d4, .int .i64 m.d5, .int .i64 m.d6, .int .i64 m.d7] rfl _ _ _ (h.get 0 rfl) (eight_at rfl rfl rfl rfl rfl rfl rfl rfl) _ Try.underlying27 rfl size_vecM⟩) hHeld ?_ ?_
       rotate_left
       · simp only [Act.put, List.setIfInBounds_toArray, List.set_cons_zero, List.set_cons_succ]
         rfl)
    | (refine pure_ (i := 15) (N := some 18) (v := undef) (a' := ?_) #[true, true, true, true, true, true, true, true, true, true, true, true, true, true, true, true, false, false, false, false, false, false, false, false, false, false, false, false, false, false] rfl rfl (by kernel_rfl) (fun _ _ _ h => h) (Or.inr ⟨by rfl, rfl⟩) ?_ ?_
       rotate_left
       · simp only [Act.put, List.setIfInBounds_toArray, List.set_cons_zero, List.set_cons_succ]
         rfl)
  first
    | (refine one_ (i := 16) (N := some 19) #[true, true, true, true, true, true, true, true, true, true, true, true, true, true, true, true, true, false, false, false, false, false, false, false, false, false, false, false, false, false] rfl rfl (by kernel_rfl) (by decide) (fun K hK => ?_)
       refine goes_ Try.func15 (by kernel_rfl) rfl #[.agg [.int .i64 m.d0, .int .i64 m.d1, .int .i64 m.d2, .int .i64 m.d3, .int .i64 m.d4, .int .i64 m.d5, .int .i64 m.d6, .int .i64 m.d7].toArray] (by rfl) rfl rfl (by (try simp only [List.map_toArray, List.map_cons, List.map_nil]); first | done | rfl) ?_
       (with_reducible refine (OFF.out _).mono ?_)
       rintro e wr2 ⟨rfl, hr2⟩
       refine ⟨_, rfl, ?_⟩
       refine hK.out _ _ (OFF) (fun hHeld => ?_)
       clear hK K
       refine norm_ (a' := ?_) ?_ ?_
       rotate_left
       · show Act.put _ (some 19) _ = _
         simp only [Act.put, List.setIfInBounds_toArray, List.set_cons_zero, List.set_cons_succ]
         rfl)
    | (refine pure_ (i := 16) (N := some 19) (v := undef) (a' := ?_) #[true, true, true, true, true, true, true, true, true, true, true, true, true, true, true, true, true, false, false, false, false, false, false, false, false, false, false, false, false, false] rfl rfl (by kernel_rfl) (fun _ _ _ h => h) (Or.inr ⟨by rfl, rfl⟩) ?_ ?_
       rotate_left
       · simp only [Act.put, List.setIfInBounds_toArray, List.set_cons_zero, List.set_cons_succ]
         rfl)
  refine pure_ (i := 17) (N := some 20) (v := ?_) (a' := ?_) #[true, true, true, true, true, true, true, true, true, true, true, true, true, true, true, true, true, true, false, false, false, false, false, false, false, false, false, false, false, false] rfl rfl (by kernel_rfl) (fun _ _ _ h => h) (Or.inl ⟨by rfl, ?_⟩) ?_ ?_
  rotate_left
  · intro w_
    go_simp
    try with_reducible rfl
  rotate_left
  · simp only [Act.put, List.setIfInBounds_toArray, List.set_cons_zero, List.set_cons_succ]
    rfl
  refine pure_ (i := 18) (N := some 21) (v := ?_) (a' := ?_) #[true, true, true, true, true, true, true, true, true, true, true, true, true, true, true, true, true, true, true, false, false, false, false, false, false, false, false, false, false, false] rfl rfl (by kernel_rfl) (fun _ _ _ h => h) (Or.inl ⟨by rfl, ?_⟩) ?_ ?_
  rotate_left
  · intro w_
    go_simp
    try with_reducible rfl
  rotate_left
  · simp only [Act.put, List.setIfInBounds_toArray, List.set_cons_zero, List.set_cons_succ]
    rfl
  first
    | (refine take_ (i := 19) (N := some 22) (v := .agg #[.int .i64 m.q, .int .i64 m.d0, .int .i64 m.d1, .int .i64 m.d2, .int .i64 m.d3, .int .i64 m.d4, .int .i64 m.d5, .int .i64 m.d6, .int .i64 m.d7, .int .i64 m.t, .int .i64 m.r, .int .i64 m.k, .int .i64 m.a0, .int .i64 m.a1, .int .i64 m.i0, .int .i64 m.i1, .int .i64 m.t0, .int .i64 m.t1, .string m.nm, .string m.nw, .int .i64 m.off, .string m.dt]) (a' := ?_) #[true, true, true, true, true, true, true, true, true, true, true, true, true, true, true, true, true, true, true, true, false, false, false, false, false, false, false, false, false, false] rfl rfl (by kernel_rfl) (fun _ _ _ h => h) (Or.inl ⟨by rfl, fun w' h => run_load_mid 34 _ rfl w.heap.size 0 #[.int .i64 m.q, .int .i64 m.d0, .int .i64 m.d1, .int .i64 m.d2, .int .i64 m.d3, .int .i64 m.d4, .int .i64 m.d5, .int .i64 m.d6, .int .i64 m.d7, .int .i64 m.t, .int .i64 m.r, .int .i64 m.k, .int .i64 m.a0, .int .i64 m.a1, .int .i64 m.i0, .int .i64 m.i1, .int .i64 m.t0, .int .i64 m.t1, .string m.nm, .string m.nw, .int .i64 m.off, .string m.dt].toList rfl _ _ _ (h.get 0 rfl) (fun j v hj => by simpa using hj) _ Try.underlying34 rfl size_msg⟩) hHeld ?_ ?_
       rotate_left
       · simp only [Act.put, List.setIfInBounds_toArray, List.set_cons_zero, List.set_cons_succ]
         rfl)
    | (refine pure_ (i := 19) (N := some 22) (v := undef) (a' := ?_) #[true, true, true, true, true, true, true, true, true, true, true, true, true, true, true, true, true, true, true, true, false, false, false, false, false, false, false, false, false, false] rfl rfl (by kernel_rfl) (fun _ _ _ h => h) (Or.inr ⟨by rfl, rfl⟩) ?_ ?_
       rotate_left
       · simp only [Act.put, List.setIfInBounds_toArray, List.set_cons_zero, List.set_cons_succ]
         rfl)
  first
    | (refine pure_ (i := 21) (N := some 24) (v := ?_) (a' := ?_) #[true, true, true, true, true, true, true, true, true, true, true, true, true, true, true, true, true, true, true, true, false, true, false, false, false, false, false, false, false, false] rfl rfl (by kernel_rfl) (fun _ _ _ h => h) (Or.inl ⟨by rfl, ?_⟩) ?_ ?_
       rotate_left
       · intro w_
         go_simp
         try with_reducible rfl
       rotate_left
       · simp only [Act.put, List.setIfInBounds_toArray, List.set_cons_zero, List.set_cons_succ]
         rfl)
    | (refine pure_ (i := 21) (N := some 24) (v := undef) (a' := ?_) #[true, true, true, true, true, true, true, true, true, true, true, true, true, true, true, true, true, true, true, true, false, true, false, false, false, false, false, false, false, false] rfl rfl (by kernel_rfl) (fun _ _ _ h => h) (Or.inr ⟨by rfl, rfl⟩) ?_ ?_
       rotate_left
       · simp only [Act.put, List.setIfInBounds_toArray, List.set_cons_zero, List.set_cons_succ]
         rfl)
  first
    | (refine pure_ (i := 24) (N := some 27) (v := ?_) (a' := ?_) #[true, true, true, true, true, true, true, true, true, true, true, true, true, true, true, true, true, true, true, true, false, true, false, false, true, false, false, false, false, false] rfl rfl (by kernel_rfl) (fun _ _ _ h => h) (Or.inl ⟨by rfl, ?_⟩) ?_ ?_
       rotate_left
       · intro w_
         go_simp
         try with_reducible rfl
       rotate_left
       · simp only [Act.put, List.setIfInBounds_toArray, List.set_cons_zero, List.set_cons_succ]
         rfl)
    | (refine pure_ (i := 24) (N := some 27) (v := undef) (a' := ?_) #[true, true, true, true, true, true, true, true, true, true, true, true, true, true, true, true, true, true, true, true, false, true, false, false, true, false, false, false, false, false] rfl rfl (by kernel_rfl) (fun _ _ _ h => h) (Or.inr ⟨by rfl, rfl⟩) ?_ ?_
       rotate_left
       · simp only [Act.put, List.setIfInBounds_toArray, List.set_cons_zero, List.set_cons_succ]
         rfl)
  first
    | (refine take_ (i := 25) (N := some 28) (v := .int .i64 m.q) (a' := ?_) #[true, true, true, true, true, true, true, true, true, true, true, true, true, true, true, true, true, true, true, true, false, true, false, false, true, true, false, false, false, false] rfl rfl (by kernel_rfl) (fun _ _ _ h => h) (Or.inl ⟨by rfl, fun w' h => by have c := cell_of_row w' _ 0 _ _ _ (h.get 0 rfl); go_simp⟩) hHeld ?_ ?_
       rotate_left
       · simp only [Act.put, List.setIfInBounds_toArray, List.set_cons_zero, List.set_cons_succ]
         rfl)
    | (refine pure_ (i := 25) (N := some 28) (v := undef) (a' := ?_) #[true, true, true, true, true, true, true, true, true, true, true, true, true, true, true, true, true, true, true, true, false, true, false, false, true, true, false, false, false, false] rfl rfl (by kernel_rfl) (fun _ _ _ h => h) (Or.inr ⟨by rfl, rfl⟩) ?_ ?_
       rotate_left
       · simp only [Act.put, List.setIfInBounds_toArray, List.set_cons_zero, List.set_cons_succ]
         rfl)
  first
    | (refine pure_ (i := 26) (N := some 29) (v := ?_) (a' := ?_) #[true, true, true, true, true, true, true, true, true, true, true, true, true, true, true, true, true, true, true, true, false, true, false, false, true, true, true, false, false, false] rfl rfl (by kernel_rfl) (fun _ _ _ h => h) (Or.inl ⟨by rfl, ?_⟩) ?_ ?_
       rotate_left
       · intro w_
         go_simp
         try with_reducible rfl
       rotate_left
       · simp only [Act.put, List.setIfInBounds_toArray, List.set_cons_zero, List.set_cons_succ]
         rfl)
    | (refine pure_ (i := 26) (N := some 29) (v := undef) (a' := ?_) #[true, true, true, true, true, true, true, true, true, true, true, true, true, true, true, true, true, true, true, true, false, true, false, false, true, true, true, false, false, false] rfl rfl (by kernel_rfl) (fun _ _ _ h => h) (Or.inr ⟨by rfl, rfl⟩) ?_ ?_
       rotate_left
       · simp only [Act.put, List.setIfInBounds_toArray, List.set_cons_zero, List.set_cons_succ]
         rfl)
  first
    | (refine one_ (i := 20) (N := some 23) #[true, true, true, true, true, true, true, true, true, true, true, true, true, true, true, true, true, true, true, true, true, true, false, false, true, true, true, false, false, false] rfl rfl (by kernel_rfl) (by decide) (fun K hK => ?_)
       refine goes_ Try.func17 (by kernel_rfl) rfl #[.agg #[.int .i64 m.q, .int .i64 m.d0, .int .i64 m.d1, .int .i64 m.d2, .int .i64 m.d3, .int .i64 m.d4, .int .i64 m.d5, .int .i64 m.d6, .int .i64 m.d7, .int .i64 m.t, .int .i64 m.r, .int .i64 m.k, .int .i64 m.a0, .int .i64 m.a1, .int .i64 m.i0, .int .i64 m.i1, .int .i64 m.t0, .int .i64 m.t1, .string m.nm, .string m.nw, .int .i64 m.off, .string m.dt]] (by rfl) rfl rfl (by (try simp only [List.map_toArray, List.map_cons, List.map_nil]); first | done | rfl) ?_
       (with_reducible refine (OFF.out _).mono ?_)
       rintro e wr3 ⟨rfl, hr3⟩
       refine ⟨_, rfl, ?_⟩
       refine hK.out _ _ (OFF) (fun hHeld => ?_)
       clear hK K
       refine norm_ (a' := ?_) ?_ ?_
       rotate_left
       · show Act.put _ (some 23) _ = _
         simp only [Act.put, List.setIfInBounds_toArray, List.set_cons_zero, List.set_cons_succ]
         rfl)
    | (refine pure_ (i := 20) (N := some 23) (v := undef) (a' := ?_) #[true, true, true, true, true, true, true, true, true, true, true, true, true, true, true, true, true, true, true, true, true, true, false, false, true, true, true, false, false, false] rfl rfl (by kernel_rfl) (fun _ _ _ h => h) (Or.inr ⟨by rfl, rfl⟩) ?_ ?_
       rotate_left
       · simp only [Act.put, List.setIfInBounds_toArray, List.set_cons_zero, List.set_cons_succ]
         rfl)
  first
    | (refine pure_ (i := 22) (N := some 25) (v := ?_) (a' := ?_) #[true, true, true, true, true, true, true, true, true, true, true, true, true, true, true, true, true, true, true, true, true, true, true, false, true, true, true, false, false, false] rfl rfl (by kernel_rfl) (fun _ _ _ h => h) (Or.inl ⟨by rfl, ?_⟩) ?_ ?_
       rotate_left
       · intro w_
         go_simp
         try with_reducible rfl
       rotate_left
       · simp only [Act.put, List.setIfInBounds_toArray, List.set_cons_zero, List.set_cons_succ]
         rfl)
    | (refine pure_ (i := 22) (N := some 25) (v := undef) (a' := ?_) #[true, true, true, true, true, true, true, true, true, true, true, true, true, true, true, true, true, true, true, true, true, true, true, false, true, true, true, false, false, false] rfl rfl (by kernel_rfl) (fun _ _ _ h => h) (Or.inr ⟨by rfl, rfl⟩) ?_ ?_
       rotate_left
       · simp only [Act.put, List.setIfInBounds_toArray, List.set_cons_zero, List.set_cons_succ]
         rfl)
  first
    | (refine take_ (i := 23) (N := some 26) (v := .int .i64 dr) (a' := ?_) #[true, true, true, true, true, true, true, true, true, true, true, true, true, true, true, true, true, true, true, true, true, true, true, true, true, true, true, false, false, false] rfl rfl (by kernel_rfl) (fun _ _ _ h => h) (Or.inl ⟨by rfl, fun w' h => by have c : w'.cell? ⟨w.heap.size, 1 + rr, none⟩ = some (.int .i64 dr) := (cell_of_row w' _ _ _ _ _ (h.get 0 rfl)).trans HDR.out; go_simp⟩) hHeld ?_ ?_
       rotate_left
       · simp only [Act.put, List.setIfInBounds_toArray, List.set_cons_zero, List.set_cons_succ]
         rfl)
    | (refine pure_ (i := 23) (N := some 26) (v := undef) (a' := ?_) #[true, true, true, true, true, true, true, true, true, true, true, true, true, true, true, true, true, true, true, true, true, true, true, true, true, true, true, false, false, false] rfl rfl (by kernel_rfl) (fun _ _ _ h => h) (Or.inr ⟨by rfl, rfl⟩) ?_ ?_
       rotate_left
       · simp only [Act.put, List.setIfInBounds_toArray, List.set_cons_zero, List.set_cons_succ]
         rfl)
  first
    | (refine pure_ (i := 27) (N := some 30) (v := ?_) (a' := ?_) #[true, true, true, true, true, true, true, true, true, true, true, true, true, true, true, true, true, true, true, true, true, true, true, true, true, true, true, true, false, false] rfl rfl (by kernel_rfl) (fun _ _ _ h => h) (Or.inl ⟨by rfl, ?_⟩) ?_ ?_
       rotate_left
       · intro w_
         go_simp
         try with_reducible rfl
       rotate_left
       · simp only [Act.put, List.setIfInBounds_toArray, List.set_cons_zero, List.set_cons_succ]
         rfl)
    | (refine pure_ (i := 27) (N := some 30) (v := undef) (a' := ?_) #[true, true, true, true, true, true, true, true, true, true, true, true, true, true, true, true, true, true, true, true, true, true, true, true, true, true, true, true, false, false] rfl rfl (by kernel_rfl) (fun _ _ _ h => h) (Or.inr ⟨by rfl, rfl⟩) ?_ ?_
       rotate_left
       · simp only [Act.put, List.setIfInBounds_toArray, List.set_cons_zero, List.set_cons_succ]
         rfl)
  refine pure_ (i := 28) (N := some 31) (v := ?_) (a' := ?_) #[true, true, true, true, true, true, true, true, true, true, true, true, true, true, true, true, true, true, true, true, true, true, true, true, true, true, true, true, true, false] rfl rfl (by kernel_rfl) (fun _ _ _ h => h) (Or.inl ⟨by rfl, ?_⟩) ?_ ?_
  rotate_left
  · intro w_
    go_simp
    try with_reducible rfl
  rotate_left
  · simp only [Act.put, List.setIfInBounds_toArray, List.set_cons_zero, List.set_cons_succ]
    rfl
  refine pure_ (i := 29) (N := some 2) (v := ?_) (a' := ?_) #[true, true, true, true, true, true, true, true, true, true, true, true, true, true, true, true, true, true, true, true, true, true, true, true, true, true, true, true, true, true] rfl rfl (by kernel_rfl) (fun _ _ _ h => h) (Or.inl ⟨by rfl, ?_⟩) ?_ ?_
  rotate_left
  · intro w_
    go_simp
    try with_reducible rfl
  rotate_left
  · simp only [Act.put, List.setIfInBounds_toArray, List.set_cons_zero, List.set_cons_succ]
    rfl
  refine done_ (by kernel_rfl) ?_
  go_wp2_with fail
  go_ret
  exact ⟨by rw [HV.out]; first | rfl | (simp [*]; done) | (simp; done), hHeld.2⟩
set_option maxHeartbeats 4000000 in
set_option maxRecDepth 100000 in
theorem cmay_low (m : MsgV) (b0 bv : Bool) (dr : Int) (rr : Nat) (w : World) (hdr : (#[.int .i64 m.q, .int .i64 m.d0, .int .i64 m.d1, .int .i64 m.d2, .int .i64 m.d3, .int .i64 m.d4, .int .i64 m.d5, .int .i64 m.d6, .int .i64 m.d7, .int .i64 m.t, .int .i64 m.r, .int .i64 m.k, .int .i64 m.a0, .int .i64 m.a1, .int .i64 m.i0, .int .i64 m.i1, .int .i64 m.t0, .int .i64 m.t1, .string m.nm, .string m.nw, .int .i64 m.off, .string m.dt] : Array Value)[1 + rr]? = some (.int .i64 dr)) (hr8 : rr < 8)
    (HO : Hd (∀ w, Calls Try.prog 32 #[.agg #[.int .i64 m.t, .int .i64 m.r, .int .i64 m.k, .int .i64 m.a0, .int .i64 m.a1, .int .i64 m.i0, .int .i64 m.i1, .int .i64 m.t0, .int .i64 m.t1, .string m.nm, .string m.nw, .int .i64 m.off, .string m.dt]] w fun e w' => e = .returned (.bool b0) ∧ Below w.heap.size w w'))
    (HVM : Hd (∀ w, Calls Try.prog 15 #[.agg [.int .i64 m.d0, .int .i64 m.d1, .int .i64 m.d2, .int .i64 m.d3, .int .i64 m.d4, .int .i64 m.d5, .int .i64 m.d6, .int .i64 m.d7].toArray] w fun e w' => e = .returned (.bool bv) ∧ Below w.heap.size w w'))
    (HR : Hd (∀ w, Calls Try.prog 17 #[.agg #[.int .i64 m.q, .int .i64 m.d0, .int .i64 m.d1, .int .i64 m.d2, .int .i64 m.d3, .int .i64 m.d4, .int .i64 m.d5, .int .i64 m.d6, .int .i64 m.d7, .int .i64 m.t, .int .i64 m.r, .int .i64 m.k, .int .i64 m.a0, .int .i64 m.a1, .int .i64 m.i0, .int .i64 m.i1, .int .i64 m.t0, .int .i64 m.t1, .string m.nm, .string m.nw, .int .i64 m.off, .string m.dt]] w fun e w' => e = .returned (.int .i64 (rr : Int)) ∧ Below w.heap.size w w'))
    (V : Bool) (HV : Hd (V = false)) (h0 : b0 = true) (h1 : ¬ 1 ≤ m.q) :
    Calls Try.prog 18 #[.agg #[.int .i64 m.q, .int .i64 m.d0, .int .i64 m.d1, .int .i64 m.d2, .int .i64 m.d3, .int .i64 m.d4, .int .i64 m.d5, .int .i64 m.d6, .int .i64 m.d7, .int .i64 m.t, .int .i64 m.r, .int .i64 m.k, .int .i64 m.a0, .int .i64 m.a1, .int .i64 m.i0, .int .i64 m.i1, .int .i64 m.t0, .int .i64 m.t1, .string m.nm, .string m.nw, .int .i64 m.off, .string m.dt]] w fun e w' => e = .returned (.bool V) ∧ Below w.heap.size w w' := by
  have K0 := Hd.mk (Holds.start1 w (.cells #[.int .i64 m.q, .int .i64 m.d0, .int .i64 m.d1, .int .i64 m.d2, .int .i64 m.d3, .int .i64 m.d4, .int .i64 m.d5, .int .i64 m.d6, .int .i64 m.d7, .int .i64 m.t, .int .i64 m.r, .int .i64 m.k, .int .i64 m.a0, .int .i64 m.a1, .int .i64 m.i0, .int .i64 m.i1, .int .i64 m.t0, .int .i64 m.t1, .string m.nm, .string m.nw, .int .i64 m.off, .string m.dt] 34 (0, 0)))
  have HDR := Hd.mk hdr
  have g8 : (rr : Int) < 8 := by omega
  subst h0
  have e1 : decide (1 ≤ m.q) = false := decide_eq_false h1
  clear h1
  clear hdr hr8
  go_enter Try.func18, Try.ntmps18
  go_upto_region 1 with (fail)
  refine world_gen _ K0.out (fun W hK => ?_)
  have K1 := Hd.mk hK
  clear hK K0
  refine start_ (n := 30) (S := fun W_ => Holds w [(w.heap.size, .cells #[.int .i64 m.q, .int .i64 m.d0, .int .i64 m.d1, .int .i64 m.d2, .int .i64 m.d3, .int .i64 m.d4, .int .i64 m.d5, .int .i64 m.d6, .int .i64 m.d7, .int .i64 m.t, .int .i64 m.r, .int .i64 m.k, .int .i64 m.a0, .int .i64 m.a1, .int .i64 m.i0, .int .i64 m.i1, .int .i64 m.t0, .int .i64 m.t1, .string m.nm, .string m.nw, .int .i64 m.off, .string m.dt] 34 (0, 0))] W_) (ds := []) #[false, false, false, false, false, false, false, false, false, false, false, false, false, false, false, false, false, false, false, false, false, false, false, false, false, false, false, false, false, false] (by kernel_rfl) rfl rfl (K1.out.drew) (fun hHeld => ?_)
  refine pure_ (i := 0) (N := some 3) (v := ?_) (a' := ?_) #[true, false, false, false, false, false, false, false, false, false, false, false, false, false, false, false, false, false, false, false, false, false, false, false, false, false, false, false, false, false] rfl rfl (by kernel_rfl) (fun _ _ _ h => h) (Or.inl ⟨by rfl, ?_⟩) ?_ ?_
  rotate_left
  · intro w_
    go_simp
    try with_reducible rfl
  rotate_left
  · simp only [Act.put, List.setIfInBounds_toArray, List.set_cons_zero, List.set_cons_succ]
    rfl
  refine take_ (i := 1) (N := some 4) (v := .agg #[.int .i64 m.t, .int .i64 m.r, .int .i64 m.k, .int .i64 m.a0, .int .i64 m.a1, .int .i64 m.i0, .int .i64 m.i1, .int .i64 m.t0, .int .i64 m.t1, .string m.nm, .string m.nw, .int .i64 m.off, .string m.dt]) (a' := ?_) #[true, true, false, false, false, false, false, false, false, false, false, false, false, false, false, false, false, false, false, false, false, false, false, false, false, false, false, false, false, false] rfl rfl (by kernel_rfl) (fun _ _ _ h => h) (Or.inl ⟨by rfl, fun w' h => run_load_mid 32 _ rfl w.heap.size 9 #[.int .i64 m.t, .int .i64 m.r, .int .i64 m.k, .int .i64 m.a0, .int .i64 m.a1, .int .i64 m.i0, .int .i64 m.i1, .int .i64 m.t0, .int .i64 m.t1, .string m.nm, .string m.nw, .int .i64 m.off, .string m.dt].toList rfl _ _ _ (h.get 0 rfl) (fun j v hj => by simpa [Nat.add_comm] using hj) _ Try.underlying32 rfl size_opM⟩) hHeld ?_ ?_
  rotate_left
  · simp only [Act.put, List.setIfInBounds_toArray, List.set_cons_zero, List.set_cons_succ]
    rfl
  refine one_ (i := 2) (N := some 5) #[true, true, true, false, false, false, false, false, false, false, false, false, false, false, false, false, false, false, false, false, false, false, false, false, false, false, false, false, false, false] rfl rfl (by kernel_rfl) (by decide) (fun K hK => ?_)
  refine goes_ Try.func32 (by kernel_rfl) rfl #[.agg #[.int .i64 m.t, .int .i64 m.r, .int .i64 m.k, .int .i64 m.a0, .int .i64 m.a1, .int .i64 m.i0, .int .i64 m.i1, .int .i64 m.t0, .int .i64 m.t1, .string m.nm, .string m.nw, .int .i64 m.off, .string m.dt]] (by rfl) rfl rfl (by (try simp only [List.map_toArray, List.map_cons, List.map_nil]); first | done | rfl) ?_
  (with_reducible refine (HO.out _).mono ?_)
  rintro e wr4 ⟨rfl, hr4⟩
  refine ⟨_, rfl, ?_⟩
  refine hK.out _ _ (hHeld.call hr4) (fun hHeld => ?_)
  clear hK K
  refine norm_ (a' := ?_) ?_ ?_
  rotate_left
  · show Act.put _ (some 5) _ = _
    simp only [Act.put, List.setIfInBounds_toArray, List.set_cons_zero, List.set_cons_succ]
    rfl
  refine pure_ (i := 3) (N := some 6) (v := ?_) (a' := ?_) #[true, true, true, true, false, false, false, false, false, false, false, false, false, false, false, false, false, false, false, false, false, false, false, false, false, false, false, false, false, false] rfl rfl (by kernel_rfl) (fun _ _ _ h => h) (Or.inl ⟨by rfl, ?_⟩) ?_ ?_
  rotate_left
  · intro w_
    go_simp
    try with_reducible rfl
  rotate_left
  · simp only [Act.put, List.setIfInBounds_toArray, List.set_cons_zero, List.set_cons_succ]
    rfl
  refine pure_ (i := 4) (N := some 7) (v := ?_) (a' := ?_) #[true, true, true, true, true, false, false, false, false, false, false, false, false, false, false, false, false, false, false, false, false, false, false, false, false, false, false, false, false, false] rfl rfl (by kernel_rfl) (fun _ _ _ h => h) (Or.inl ⟨by rfl, ?_⟩) ?_ ?_
  rotate_left
  · intro w_
    go_simp
    try with_reducible rfl
  rotate_left
  · simp only [Act.put, List.setIfInBounds_toArray, List.set_cons_zero, List.set_cons_succ]
    rfl
  refine take_ (i := 5) (N := some 8) (v := .int .i64 m.q) (a' := ?_) #[true, true, true, true, true, true, false, false, false, false, false, false, false, false, false, false, false, false, false, false, false, false, false, false, false, false, false, false, false, false] rfl rfl (by kernel_rfl) (fun _ _ _ h => h) (Or.inl ⟨by rfl, fun w' h => by have c := cell_of_row w' _ 0 _ _ _ (h.get 0 rfl); go_simp⟩) hHeld ?_ ?_
  rotate_left
  · simp only [Act.put, List.setIfInBounds_toArray, List.set_cons_zero, List.set_cons_succ]
    rfl
  refine pure_ (i := 6) (N := some 9) (v := ?_) (a' := ?_) #[true, true, true, true, true, true, true, false, false, false, false, false, false, false, false, false, false, false, false, false, false, false, false, false, false, false, false, false, false, false] rfl rfl (by kernel_rfl) (fun _ _ _ h => h) (Or.inl ⟨by rfl, ?_⟩) ?_ ?_
  rotate_left
  · intro w_
    go_simp
    try with_reducible rfl
  rotate_left
  · simp only [Act.put, List.setIfInBounds_toArray, List.set_cons_zero, List.set_cons_succ]
    rfl
  refine pure_ (i := 7) (N := some 10) (v := ?_) (a' := ?_) #[true, true, true, true, true, true, true, true, false, false, false, false, false, false, false, false, false, false, false, false, false, false, false, false, false, false, false, false, false, false] rfl rfl (by kernel_rfl) (fun _ _ _ h => h) (Or.inl ⟨by rfl, ?_⟩) ?_ ?_
  rotate_left
  · intro w_
    go_simp
    try with_reducible rfl
  rotate_left
  · simp only [Act.put, List.setIfInBounds_toArray, List.set_cons_zero, List.set_cons_succ]
    rfl
  refine pure_ (i := 8) (N := some 11) (v := ?_) (a' := ?_) #[true, true, true, true, true, true, true, true, true, false, false, false, false, false, false, false, false, false, false, false, false, false, false, false, false, false, false, false, false, false] rfl rfl (by kernel_rfl) (fun _ _ _ h => h) (Or.inl ⟨by rfl, ?_⟩) ?_ ?_
  rotate_left
  · intro w_
    go_simp
    try with_reducible rfl
  rotate_left
  · simp only [Act.put, List.setIfInBounds_toArray, List.set_cons_zero, List.set_cons_succ]
    rfl
  first
    | (refine pure_ (i := 9) (N := some 12) (v := ?_) (a' := ?_) #[true, true, true, true, true, true, true, true, true, true, false, false, false, false, false, false, false, false, false, false, false, false, false, false, false, false, false, false, false, false] rfl rfl (by kernel_rfl) (fun _ _ _ h => h) (Or.inl ⟨by rfl, ?_⟩) ?_ ?_
       rotate_left
       · intro w_
         go_simp
         try with_reducible rfl
       rotate_left
       · simp only [Act.put, List.setIfInBounds_toArray, List.set_cons_zero, List.set_cons_succ]
         rfl)
    | (refine pure_ (i := 9) (N := some 12) (v := undef) (a' := ?_) #[true, true, true, true, true, true, true, true, true, true, false, false, false, false, false, false, false, false, false, false, false, false, false, false, false, false, false, false, false, false] rfl rfl (by kernel_rfl) (fun _ _ _ h => h) (Or.inr ⟨by rfl, rfl⟩) ?_ ?_
       rotate_left
       · simp only [Act.put, List.setIfInBounds_toArray, List.set_cons_zero, List.set_cons_succ]
         rfl)
  first
    | (refine take_ (i := 10) (N := some 13) (v := .int .i64 m.q) (a' := ?_) #[true, true, true, true, true, true, true, true, true, true, true, false, false, false, false, false, false, false, false, false, false, false, false, false, false, false, false, false, false, false] rfl rfl (by kernel_rfl) (fun _ _ _ h => h) (Or.inl ⟨by rfl, fun w' h => by have c := cell_of_row w' _ 0 _ _ _ (h.get 0 rfl); go_simp⟩) hHeld ?_ ?_
       rotate_left
       · simp only [Act.put, List.setIfInBounds_toArray, List.set_cons_zero, List.set_cons_succ]
         rfl)
    | (refine pure_ (i := 10) (N := some 13) (v := undef) (a' := ?_) #[true, true, true, true, true, true, true, true, true, true, true, false, false, false, false, false, false, false, false, false, false, false, false, false, false, false, false, false, false, false] rfl rfl (by kernel_rfl) (fun _ _ _ h => h) (Or.inr ⟨by rfl, rfl⟩) ?_ ?_
       rotate_left
       · simp only [Act.put, List.setIfInBounds_toArray, List.set_cons_zero, List.set_cons_succ]
         rfl)
  first
    | (refine pure_ (i := 11) (N := some 14) (v := ?_) (a' := ?_) #[true, true, true, true, true, true, true, true, true, true, true, true, false, false, false, false, false, false, false, false, false, false, false, false, false, false, false, false, false, false] rfl rfl (by kernel_rfl) (fun _ _ _ h => h) (Or.inl ⟨by rfl, ?_⟩) ?_ ?_
       rotate_left
       · intro w_
         go_simp
         try with_reducible rfl
       rotate_left
       · simp only [Act.put, List.setIfInBounds_toArray, List.set_cons_zero, List.set_cons_succ]
         rfl)
    | (refine pure_ (i := 11) (N := some 14) (v := undef) (a' := ?_) #[true, true, true, true, true, true, true, true, true, true, true, true, false, false, false, false, false, false, false, false, false, false, false, false, false, false, false, false, false, false] rfl rfl (by kernel_rfl) (fun _ _ _ h => h) (Or.inr ⟨by rfl, rfl⟩) ?_ ?_
       rotate_left
       · simp only [Act.put, List.setIfInBounds_toArray, List.set_cons_zero, List.set_cons_succ]
         rfl)
  refine pure_ (i := 12) (N := some 15) (v := ?_) (a' := ?_) #[true, true, true, true, true, true, true, true, true, true, true, true, true, false, false, false, false, false, false, false, false, false, false, false, false, false, false, false, false, false] rfl rfl (by kernel_rfl) (fun _ _ _ h => h) (Or.inl ⟨by rfl, ?_⟩) ?_ ?_
  rotate_left
  · intro w_
    go_simp
    try with_reducible rfl
  rotate_left
  · simp only [Act.put, List.setIfInBounds_toArray, List.set_cons_zero, List.set_cons_succ]
    rfl
  refine pure_ (i := 13) (N := some 16) (v := ?_) (a' := ?_) #[true, true, true, true, true, true, true, true, true, true, true, true, true, true, false, false, false, false, false, false, false, false, false, false, false, false, false, false, false, false] rfl rfl (by kernel_rfl) (fun _ _ _ h => h) (Or.inl ⟨by rfl, ?_⟩) ?_ ?_
  rotate_left
  · intro w_
    go_simp
    try with_reducible rfl
  rotate_left
  · simp only [Act.put, List.setIfInBounds_toArray, List.set_cons_zero, List.set_cons_succ]
    rfl
  first
    | (refine pure_ (i := 14) (N := some 17) (v := ?_) (a' := ?_) #[true, true, true, true, true, true, true, true, true, true, true, true, true, true, true, false, false, false, false, false, false, false, false, false, false, false, false, false, false, false] rfl rfl (by kernel_rfl) (fun _ _ _ h => h) (Or.inl ⟨by rfl, ?_⟩) ?_ ?_
       rotate_left
       · intro w_
         go_simp
         try with_reducible rfl
       rotate_left
       · simp only [Act.put, List.setIfInBounds_toArray, List.set_cons_zero, List.set_cons_succ]
         rfl)
    | (refine pure_ (i := 14) (N := some 17) (v := undef) (a' := ?_) #[true, true, true, true, true, true, true, true, true, true, true, true, true, true, true, false, false, false, false, false, false, false, false, false, false, false, false, false, false, false] rfl rfl (by kernel_rfl) (fun _ _ _ h => h) (Or.inr ⟨by rfl, rfl⟩) ?_ ?_
       rotate_left
       · simp only [Act.put, List.setIfInBounds_toArray, List.set_cons_zero, List.set_cons_succ]
         rfl)
  first
    | (refine take_ (i := 15) (N := some 18) (v := .agg [.int .i64 m.d0, .int .i64 m.d1, .int .i64 m.d2, .int .i64 m.d3, .int .i64 m.d4, .int .i64 m.d5, .int .i64 m.d6, .int .i64 m.d7].toArray) (a' := ?_) #[true, true, true, true, true, true, true, true, true, true, true, true, true, true, true, true, false, false, false, false, false, false, false, false, false, false, false, false, false, false] rfl rfl (by kernel_rfl) (fun _ _ _ h => h) (Or.inl ⟨by rfl, fun w' h => run_load_mid 27 _ rfl w.heap.size 1 [.int .i64 m.d0, .int .i64 m.d1, .int .i64 m.d2, .int .i64 m.d3, .int .i64 m.d4, .int .i64 m.d5, .int .i64 m.d6, .int .i64 m.d7] rfl _ _ _ (h.get 0 rfl) (eight_at rfl rfl rfl rfl rfl rfl rfl rfl) _ Try.underlying27 rfl size_vecM⟩) hHeld ?_ ?_
       rotate_left
       · simp only [Act.put, List.setIfInBounds_toArray, List.set_cons_zero, List.set_cons_succ]
         rfl)
    | (refine pure_ (i := 15) (N := some 18) (v := undef) (a' := ?_) #[true, true, true, true, true, true, true, true, true, true, true, true, true, true, true, true, false, false, false, false, false, false, false, false, false, false, false, false, false, false] rfl rfl (by kernel_rfl) (fun _ _ _ h => h) (Or.inr ⟨by rfl, rfl⟩) ?_ ?_
       rotate_left
       · simp only [Act.put, List.setIfInBounds_toArray, List.set_cons_zero, List.set_cons_succ]
         rfl)
  first
    | (refine one_ (i := 16) (N := some 19) #[true, true, true, true, true, true, true, true, true, true, true, true, true, true, true, true, true, false, false, false, false, false, false, false, false, false, false, false, false, false] rfl rfl (by kernel_rfl) (by decide) (fun K hK => ?_)
       refine goes_ Try.func15 (by kernel_rfl) rfl #[.agg [.int .i64 m.d0, .int .i64 m.d1, .int .i64 m.d2, .int .i64 m.d3, .int .i64 m.d4, .int .i64 m.d5, .int .i64 m.d6, .int .i64 m.d7].toArray] (by rfl) rfl rfl (by (try simp only [List.map_toArray, List.map_cons, List.map_nil]); first | done | rfl) ?_
       (with_reducible refine (OFF.out _).mono ?_)
       rintro e wr5 ⟨rfl, hr5⟩
       refine ⟨_, rfl, ?_⟩
       refine hK.out _ _ (OFF) (fun hHeld => ?_)
       clear hK K
       refine norm_ (a' := ?_) ?_ ?_
       rotate_left
       · show Act.put _ (some 19) _ = _
         simp only [Act.put, List.setIfInBounds_toArray, List.set_cons_zero, List.set_cons_succ]
         rfl)
    | (refine pure_ (i := 16) (N := some 19) (v := undef) (a' := ?_) #[true, true, true, true, true, true, true, true, true, true, true, true, true, true, true, true, true, false, false, false, false, false, false, false, false, false, false, false, false, false] rfl rfl (by kernel_rfl) (fun _ _ _ h => h) (Or.inr ⟨by rfl, rfl⟩) ?_ ?_
       rotate_left
       · simp only [Act.put, List.setIfInBounds_toArray, List.set_cons_zero, List.set_cons_succ]
         rfl)
  refine pure_ (i := 17) (N := some 20) (v := ?_) (a' := ?_) #[true, true, true, true, true, true, true, true, true, true, true, true, true, true, true, true, true, true, false, false, false, false, false, false, false, false, false, false, false, false] rfl rfl (by kernel_rfl) (fun _ _ _ h => h) (Or.inl ⟨by rfl, ?_⟩) ?_ ?_
  rotate_left
  · intro w_
    go_simp
    try with_reducible rfl
  rotate_left
  · simp only [Act.put, List.setIfInBounds_toArray, List.set_cons_zero, List.set_cons_succ]
    rfl
  refine pure_ (i := 18) (N := some 21) (v := ?_) (a' := ?_) #[true, true, true, true, true, true, true, true, true, true, true, true, true, true, true, true, true, true, true, false, false, false, false, false, false, false, false, false, false, false] rfl rfl (by kernel_rfl) (fun _ _ _ h => h) (Or.inl ⟨by rfl, ?_⟩) ?_ ?_
  rotate_left
  · intro w_
    go_simp
    try with_reducible rfl
  rotate_left
  · simp only [Act.put, List.setIfInBounds_toArray, List.set_cons_zero, List.set_cons_succ]
    rfl
  first
    | (refine take_ (i := 19) (N := some 22) (v := .agg #[.int .i64 m.q, .int .i64 m.d0, .int .i64 m.d1, .int .i64 m.d2, .int .i64 m.d3, .int .i64 m.d4, .int .i64 m.d5, .int .i64 m.d6, .int .i64 m.d7, .int .i64 m.t, .int .i64 m.r, .int .i64 m.k, .int .i64 m.a0, .int .i64 m.a1, .int .i64 m.i0, .int .i64 m.i1, .int .i64 m.t0, .int .i64 m.t1, .string m.nm, .string m.nw, .int .i64 m.off, .string m.dt]) (a' := ?_) #[true, true, true, true, true, true, true, true, true, true, true, true, true, true, true, true, true, true, true, true, false, false, false, false, false, false, false, false, false, false] rfl rfl (by kernel_rfl) (fun _ _ _ h => h) (Or.inl ⟨by rfl, fun w' h => run_load_mid 34 _ rfl w.heap.size 0 #[.int .i64 m.q, .int .i64 m.d0, .int .i64 m.d1, .int .i64 m.d2, .int .i64 m.d3, .int .i64 m.d4, .int .i64 m.d5, .int .i64 m.d6, .int .i64 m.d7, .int .i64 m.t, .int .i64 m.r, .int .i64 m.k, .int .i64 m.a0, .int .i64 m.a1, .int .i64 m.i0, .int .i64 m.i1, .int .i64 m.t0, .int .i64 m.t1, .string m.nm, .string m.nw, .int .i64 m.off, .string m.dt].toList rfl _ _ _ (h.get 0 rfl) (fun j v hj => by simpa using hj) _ Try.underlying34 rfl size_msg⟩) hHeld ?_ ?_
       rotate_left
       · simp only [Act.put, List.setIfInBounds_toArray, List.set_cons_zero, List.set_cons_succ]
         rfl)
    | (refine pure_ (i := 19) (N := some 22) (v := undef) (a' := ?_) #[true, true, true, true, true, true, true, true, true, true, true, true, true, true, true, true, true, true, true, true, false, false, false, false, false, false, false, false, false, false] rfl rfl (by kernel_rfl) (fun _ _ _ h => h) (Or.inr ⟨by rfl, rfl⟩) ?_ ?_
       rotate_left
       · simp only [Act.put, List.setIfInBounds_toArray, List.set_cons_zero, List.set_cons_succ]
         rfl)
  first
    | (refine pure_ (i := 21) (N := some 24) (v := ?_) (a' := ?_) #[true, true, true, true, true, true, true, true, true, true, true, true, true, true, true, true, true, true, true, true, false, true, false, false, false, false, false, false, false, false] rfl rfl (by kernel_rfl) (fun _ _ _ h => h) (Or.inl ⟨by rfl, ?_⟩) ?_ ?_
       rotate_left
       · intro w_
         go_simp
         try with_reducible rfl
       rotate_left
       · simp only [Act.put, List.setIfInBounds_toArray, List.set_cons_zero, List.set_cons_succ]
         rfl)
    | (refine pure_ (i := 21) (N := some 24) (v := undef) (a' := ?_) #[true, true, true, true, true, true, true, true, true, true, true, true, true, true, true, true, true, true, true, true, false, true, false, false, false, false, false, false, false, false] rfl rfl (by kernel_rfl) (fun _ _ _ h => h) (Or.inr ⟨by rfl, rfl⟩) ?_ ?_
       rotate_left
       · simp only [Act.put, List.setIfInBounds_toArray, List.set_cons_zero, List.set_cons_succ]
         rfl)
  first
    | (refine pure_ (i := 24) (N := some 27) (v := ?_) (a' := ?_) #[true, true, true, true, true, true, true, true, true, true, true, true, true, true, true, true, true, true, true, true, false, true, false, false, true, false, false, false, false, false] rfl rfl (by kernel_rfl) (fun _ _ _ h => h) (Or.inl ⟨by rfl, ?_⟩) ?_ ?_
       rotate_left
       · intro w_
         go_simp
         try with_reducible rfl
       rotate_left
       · simp only [Act.put, List.setIfInBounds_toArray, List.set_cons_zero, List.set_cons_succ]
         rfl)
    | (refine pure_ (i := 24) (N := some 27) (v := undef) (a' := ?_) #[true, true, true, true, true, true, true, true, true, true, true, true, true, true, true, true, true, true, true, true, false, true, false, false, true, false, false, false, false, false] rfl rfl (by kernel_rfl) (fun _ _ _ h => h) (Or.inr ⟨by rfl, rfl⟩) ?_ ?_
       rotate_left
       · simp only [Act.put, List.setIfInBounds_toArray, List.set_cons_zero, List.set_cons_succ]
         rfl)
  first
    | (refine take_ (i := 25) (N := some 28) (v := .int .i64 m.q) (a' := ?_) #[true, true, true, true, true, true, true, true, true, true, true, true, true, true, true, true, true, true, true, true, false, true, false, false, true, true, false, false, false, false] rfl rfl (by kernel_rfl) (fun _ _ _ h => h) (Or.inl ⟨by rfl, fun w' h => by have c := cell_of_row w' _ 0 _ _ _ (h.get 0 rfl); go_simp⟩) hHeld ?_ ?_
       rotate_left
       · simp only [Act.put, List.setIfInBounds_toArray, List.set_cons_zero, List.set_cons_succ]
         rfl)
    | (refine pure_ (i := 25) (N := some 28) (v := undef) (a' := ?_) #[true, true, true, true, true, true, true, true, true, true, true, true, true, true, true, true, true, true, true, true, false, true, false, false, true, true, false, false, false, false] rfl rfl (by kernel_rfl) (fun _ _ _ h => h) (Or.inr ⟨by rfl, rfl⟩) ?_ ?_
       rotate_left
       · simp only [Act.put, List.setIfInBounds_toArray, List.set_cons_zero, List.set_cons_succ]
         rfl)
  first
    | (refine pure_ (i := 26) (N := some 29) (v := ?_) (a' := ?_) #[true, true, true, true, true, true, true, true, true, true, true, true, true, true, true, true, true, true, true, true, false, true, false, false, true, true, true, false, false, false] rfl rfl (by kernel_rfl) (fun _ _ _ h => h) (Or.inl ⟨by rfl, ?_⟩) ?_ ?_
       rotate_left
       · intro w_
         go_simp
         try with_reducible rfl
       rotate_left
       · simp only [Act.put, List.setIfInBounds_toArray, List.set_cons_zero, List.set_cons_succ]
         rfl)
    | (refine pure_ (i := 26) (N := some 29) (v := undef) (a' := ?_) #[true, true, true, true, true, true, true, true, true, true, true, true, true, true, true, true, true, true, true, true, false, true, false, false, true, true, true, false, false, false] rfl rfl (by kernel_rfl) (fun _ _ _ h => h) (Or.inr ⟨by rfl, rfl⟩) ?_ ?_
       rotate_left
       · simp only [Act.put, List.setIfInBounds_toArray, List.set_cons_zero, List.set_cons_succ]
         rfl)
  first
    | (refine one_ (i := 20) (N := some 23) #[true, true, true, true, true, true, true, true, true, true, true, true, true, true, true, true, true, true, true, true, true, true, false, false, true, true, true, false, false, false] rfl rfl (by kernel_rfl) (by decide) (fun K hK => ?_)
       refine goes_ Try.func17 (by kernel_rfl) rfl #[.agg #[.int .i64 m.q, .int .i64 m.d0, .int .i64 m.d1, .int .i64 m.d2, .int .i64 m.d3, .int .i64 m.d4, .int .i64 m.d5, .int .i64 m.d6, .int .i64 m.d7, .int .i64 m.t, .int .i64 m.r, .int .i64 m.k, .int .i64 m.a0, .int .i64 m.a1, .int .i64 m.i0, .int .i64 m.i1, .int .i64 m.t0, .int .i64 m.t1, .string m.nm, .string m.nw, .int .i64 m.off, .string m.dt]] (by rfl) rfl rfl (by (try simp only [List.map_toArray, List.map_cons, List.map_nil]); first | done | rfl) ?_
       (with_reducible refine (OFF.out _).mono ?_)
       rintro e wr6 ⟨rfl, hr6⟩
       refine ⟨_, rfl, ?_⟩
       refine hK.out _ _ (OFF) (fun hHeld => ?_)
       clear hK K
       refine norm_ (a' := ?_) ?_ ?_
       rotate_left
       · show Act.put _ (some 23) _ = _
         simp only [Act.put, List.setIfInBounds_toArray, List.set_cons_zero, List.set_cons_succ]
         rfl)
    | (refine pure_ (i := 20) (N := some 23) (v := undef) (a' := ?_) #[true, true, true, true, true, true, true, true, true, true, true, true, true, true, true, true, true, true, true, true, true, true, false, false, true, true, true, false, false, false] rfl rfl (by kernel_rfl) (fun _ _ _ h => h) (Or.inr ⟨by rfl, rfl⟩) ?_ ?_
       rotate_left
       · simp only [Act.put, List.setIfInBounds_toArray, List.set_cons_zero, List.set_cons_succ]
         rfl)
  first
    | (refine pure_ (i := 22) (N := some 25) (v := ?_) (a' := ?_) #[true, true, true, true, true, true, true, true, true, true, true, true, true, true, true, true, true, true, true, true, true, true, true, false, true, true, true, false, false, false] rfl rfl (by kernel_rfl) (fun _ _ _ h => h) (Or.inl ⟨by rfl, ?_⟩) ?_ ?_
       rotate_left
       · intro w_
         go_simp
         try with_reducible rfl
       rotate_left
       · simp only [Act.put, List.setIfInBounds_toArray, List.set_cons_zero, List.set_cons_succ]
         rfl)
    | (refine pure_ (i := 22) (N := some 25) (v := undef) (a' := ?_) #[true, true, true, true, true, true, true, true, true, true, true, true, true, true, true, true, true, true, true, true, true, true, true, false, true, true, true, false, false, false] rfl rfl (by kernel_rfl) (fun _ _ _ h => h) (Or.inr ⟨by rfl, rfl⟩) ?_ ?_
       rotate_left
       · simp only [Act.put, List.setIfInBounds_toArray, List.set_cons_zero, List.set_cons_succ]
         rfl)
  first
    | (refine take_ (i := 23) (N := some 26) (v := .int .i64 dr) (a' := ?_) #[true, true, true, true, true, true, true, true, true, true, true, true, true, true, true, true, true, true, true, true, true, true, true, true, true, true, true, false, false, false] rfl rfl (by kernel_rfl) (fun _ _ _ h => h) (Or.inl ⟨by rfl, fun w' h => by have c : w'.cell? ⟨w.heap.size, 1 + rr, none⟩ = some (.int .i64 dr) := (cell_of_row w' _ _ _ _ _ (h.get 0 rfl)).trans HDR.out; go_simp⟩) hHeld ?_ ?_
       rotate_left
       · simp only [Act.put, List.setIfInBounds_toArray, List.set_cons_zero, List.set_cons_succ]
         rfl)
    | (refine pure_ (i := 23) (N := some 26) (v := undef) (a' := ?_) #[true, true, true, true, true, true, true, true, true, true, true, true, true, true, true, true, true, true, true, true, true, true, true, true, true, true, true, false, false, false] rfl rfl (by kernel_rfl) (fun _ _ _ h => h) (Or.inr ⟨by rfl, rfl⟩) ?_ ?_
       rotate_left
       · simp only [Act.put, List.setIfInBounds_toArray, List.set_cons_zero, List.set_cons_succ]
         rfl)
  first
    | (refine pure_ (i := 27) (N := some 30) (v := ?_) (a' := ?_) #[true, true, true, true, true, true, true, true, true, true, true, true, true, true, true, true, true, true, true, true, true, true, true, true, true, true, true, true, false, false] rfl rfl (by kernel_rfl) (fun _ _ _ h => h) (Or.inl ⟨by rfl, ?_⟩) ?_ ?_
       rotate_left
       · intro w_
         go_simp
         try with_reducible rfl
       rotate_left
       · simp only [Act.put, List.setIfInBounds_toArray, List.set_cons_zero, List.set_cons_succ]
         rfl)
    | (refine pure_ (i := 27) (N := some 30) (v := undef) (a' := ?_) #[true, true, true, true, true, true, true, true, true, true, true, true, true, true, true, true, true, true, true, true, true, true, true, true, true, true, true, true, false, false] rfl rfl (by kernel_rfl) (fun _ _ _ h => h) (Or.inr ⟨by rfl, rfl⟩) ?_ ?_
       rotate_left
       · simp only [Act.put, List.setIfInBounds_toArray, List.set_cons_zero, List.set_cons_succ]
         rfl)
  refine pure_ (i := 28) (N := some 31) (v := ?_) (a' := ?_) #[true, true, true, true, true, true, true, true, true, true, true, true, true, true, true, true, true, true, true, true, true, true, true, true, true, true, true, true, true, false] rfl rfl (by kernel_rfl) (fun _ _ _ h => h) (Or.inl ⟨by rfl, ?_⟩) ?_ ?_
  rotate_left
  · intro w_
    go_simp
    try with_reducible rfl
  rotate_left
  · simp only [Act.put, List.setIfInBounds_toArray, List.set_cons_zero, List.set_cons_succ]
    rfl
  refine pure_ (i := 29) (N := some 2) (v := ?_) (a' := ?_) #[true, true, true, true, true, true, true, true, true, true, true, true, true, true, true, true, true, true, true, true, true, true, true, true, true, true, true, true, true, true] rfl rfl (by kernel_rfl) (fun _ _ _ h => h) (Or.inl ⟨by rfl, ?_⟩) ?_ ?_
  rotate_left
  · intro w_
    go_simp
    try with_reducible rfl
  rotate_left
  · simp only [Act.put, List.setIfInBounds_toArray, List.set_cons_zero, List.set_cons_succ]
    rfl
  refine done_ (by kernel_rfl) ?_
  go_wp2_with fail
  go_ret
  exact ⟨by rw [HV.out]; first | rfl | (simp [*]; done) | (simp; done), hHeld.2⟩
set_option maxHeartbeats 4000000 in
set_option maxRecDepth 100000 in
theorem cmay_high (m : MsgV) (b0 bv : Bool) (dr : Int) (rr : Nat) (w : World) (hdr : (#[.int .i64 m.q, .int .i64 m.d0, .int .i64 m.d1, .int .i64 m.d2, .int .i64 m.d3, .int .i64 m.d4, .int .i64 m.d5, .int .i64 m.d6, .int .i64 m.d7, .int .i64 m.t, .int .i64 m.r, .int .i64 m.k, .int .i64 m.a0, .int .i64 m.a1, .int .i64 m.i0, .int .i64 m.i1, .int .i64 m.t0, .int .i64 m.t1, .string m.nm, .string m.nw, .int .i64 m.off, .string m.dt] : Array Value)[1 + rr]? = some (.int .i64 dr)) (hr8 : rr < 8)
    (HO : Hd (∀ w, Calls Try.prog 32 #[.agg #[.int .i64 m.t, .int .i64 m.r, .int .i64 m.k, .int .i64 m.a0, .int .i64 m.a1, .int .i64 m.i0, .int .i64 m.i1, .int .i64 m.t0, .int .i64 m.t1, .string m.nm, .string m.nw, .int .i64 m.off, .string m.dt]] w fun e w' => e = .returned (.bool b0) ∧ Below w.heap.size w w'))
    (HVM : Hd (∀ w, Calls Try.prog 15 #[.agg [.int .i64 m.d0, .int .i64 m.d1, .int .i64 m.d2, .int .i64 m.d3, .int .i64 m.d4, .int .i64 m.d5, .int .i64 m.d6, .int .i64 m.d7].toArray] w fun e w' => e = .returned (.bool bv) ∧ Below w.heap.size w w'))
    (HR : Hd (∀ w, Calls Try.prog 17 #[.agg #[.int .i64 m.q, .int .i64 m.d0, .int .i64 m.d1, .int .i64 m.d2, .int .i64 m.d3, .int .i64 m.d4, .int .i64 m.d5, .int .i64 m.d6, .int .i64 m.d7, .int .i64 m.t, .int .i64 m.r, .int .i64 m.k, .int .i64 m.a0, .int .i64 m.a1, .int .i64 m.i0, .int .i64 m.i1, .int .i64 m.t0, .int .i64 m.t1, .string m.nm, .string m.nw, .int .i64 m.off, .string m.dt]] w fun e w' => e = .returned (.int .i64 (rr : Int)) ∧ Below w.heap.size w w'))
    (V : Bool) (HV : Hd (V = false)) (h0 : b0 = true) (h1 : 1 ≤ m.q) (h2 : ¬ m.q ≤ 1073741824) :
    Calls Try.prog 18 #[.agg #[.int .i64 m.q, .int .i64 m.d0, .int .i64 m.d1, .int .i64 m.d2, .int .i64 m.d3, .int .i64 m.d4, .int .i64 m.d5, .int .i64 m.d6, .int .i64 m.d7, .int .i64 m.t, .int .i64 m.r, .int .i64 m.k, .int .i64 m.a0, .int .i64 m.a1, .int .i64 m.i0, .int .i64 m.i1, .int .i64 m.t0, .int .i64 m.t1, .string m.nm, .string m.nw, .int .i64 m.off, .string m.dt]] w fun e w' => e = .returned (.bool V) ∧ Below w.heap.size w w' := by
  have K0 := Hd.mk (Holds.start1 w (.cells #[.int .i64 m.q, .int .i64 m.d0, .int .i64 m.d1, .int .i64 m.d2, .int .i64 m.d3, .int .i64 m.d4, .int .i64 m.d5, .int .i64 m.d6, .int .i64 m.d7, .int .i64 m.t, .int .i64 m.r, .int .i64 m.k, .int .i64 m.a0, .int .i64 m.a1, .int .i64 m.i0, .int .i64 m.i1, .int .i64 m.t0, .int .i64 m.t1, .string m.nm, .string m.nw, .int .i64 m.off, .string m.dt] 34 (0, 0)))
  have HDR := Hd.mk hdr
  have g8 : (rr : Int) < 8 := by omega
  subst h0
  have e1 : decide (1 ≤ m.q) = true := decide_eq_true h1
  have e2 : decide (m.q ≤ 1073741824) = false := decide_eq_false h2
  clear h1 h2
  clear hdr hr8
  go_enter Try.func18, Try.ntmps18
  go_upto_region 1 with (fail)
  refine world_gen _ K0.out (fun W hK => ?_)
  have K1 := Hd.mk hK
  clear hK K0
  refine start_ (n := 30) (S := fun W_ => Holds w [(w.heap.size, .cells #[.int .i64 m.q, .int .i64 m.d0, .int .i64 m.d1, .int .i64 m.d2, .int .i64 m.d3, .int .i64 m.d4, .int .i64 m.d5, .int .i64 m.d6, .int .i64 m.d7, .int .i64 m.t, .int .i64 m.r, .int .i64 m.k, .int .i64 m.a0, .int .i64 m.a1, .int .i64 m.i0, .int .i64 m.i1, .int .i64 m.t0, .int .i64 m.t1, .string m.nm, .string m.nw, .int .i64 m.off, .string m.dt] 34 (0, 0))] W_) (ds := []) #[false, false, false, false, false, false, false, false, false, false, false, false, false, false, false, false, false, false, false, false, false, false, false, false, false, false, false, false, false, false] (by kernel_rfl) rfl rfl (K1.out.drew) (fun hHeld => ?_)
  refine pure_ (i := 0) (N := some 3) (v := ?_) (a' := ?_) #[true, false, false, false, false, false, false, false, false, false, false, false, false, false, false, false, false, false, false, false, false, false, false, false, false, false, false, false, false, false] rfl rfl (by kernel_rfl) (fun _ _ _ h => h) (Or.inl ⟨by rfl, ?_⟩) ?_ ?_
  rotate_left
  · intro w_
    go_simp
    try with_reducible rfl
  rotate_left
  · simp only [Act.put, List.setIfInBounds_toArray, List.set_cons_zero, List.set_cons_succ]
    rfl
  refine take_ (i := 1) (N := some 4) (v := .agg #[.int .i64 m.t, .int .i64 m.r, .int .i64 m.k, .int .i64 m.a0, .int .i64 m.a1, .int .i64 m.i0, .int .i64 m.i1, .int .i64 m.t0, .int .i64 m.t1, .string m.nm, .string m.nw, .int .i64 m.off, .string m.dt]) (a' := ?_) #[true, true, false, false, false, false, false, false, false, false, false, false, false, false, false, false, false, false, false, false, false, false, false, false, false, false, false, false, false, false] rfl rfl (by kernel_rfl) (fun _ _ _ h => h) (Or.inl ⟨by rfl, fun w' h => run_load_mid 32 _ rfl w.heap.size 9 #[.int .i64 m.t, .int .i64 m.r, .int .i64 m.k, .int .i64 m.a0, .int .i64 m.a1, .int .i64 m.i0, .int .i64 m.i1, .int .i64 m.t0, .int .i64 m.t1, .string m.nm, .string m.nw, .int .i64 m.off, .string m.dt].toList rfl _ _ _ (h.get 0 rfl) (fun j v hj => by simpa [Nat.add_comm] using hj) _ Try.underlying32 rfl size_opM⟩) hHeld ?_ ?_
  rotate_left
  · simp only [Act.put, List.setIfInBounds_toArray, List.set_cons_zero, List.set_cons_succ]
    rfl
  refine one_ (i := 2) (N := some 5) #[true, true, true, false, false, false, false, false, false, false, false, false, false, false, false, false, false, false, false, false, false, false, false, false, false, false, false, false, false, false] rfl rfl (by kernel_rfl) (by decide) (fun K hK => ?_)
  refine goes_ Try.func32 (by kernel_rfl) rfl #[.agg #[.int .i64 m.t, .int .i64 m.r, .int .i64 m.k, .int .i64 m.a0, .int .i64 m.a1, .int .i64 m.i0, .int .i64 m.i1, .int .i64 m.t0, .int .i64 m.t1, .string m.nm, .string m.nw, .int .i64 m.off, .string m.dt]] (by rfl) rfl rfl (by (try simp only [List.map_toArray, List.map_cons, List.map_nil]); first | done | rfl) ?_
  (with_reducible refine (HO.out _).mono ?_)
  rintro e wr7 ⟨rfl, hr7⟩
  refine ⟨_, rfl, ?_⟩
  refine hK.out _ _ (hHeld.call hr7) (fun hHeld => ?_)
  clear hK K
  refine norm_ (a' := ?_) ?_ ?_
  rotate_left
  · show Act.put _ (some 5) _ = _
    simp only [Act.put, List.setIfInBounds_toArray, List.set_cons_zero, List.set_cons_succ]
    rfl
  refine pure_ (i := 3) (N := some 6) (v := ?_) (a' := ?_) #[true, true, true, true, false, false, false, false, false, false, false, false, false, false, false, false, false, false, false, false, false, false, false, false, false, false, false, false, false, false] rfl rfl (by kernel_rfl) (fun _ _ _ h => h) (Or.inl ⟨by rfl, ?_⟩) ?_ ?_
  rotate_left
  · intro w_
    go_simp
    try with_reducible rfl
  rotate_left
  · simp only [Act.put, List.setIfInBounds_toArray, List.set_cons_zero, List.set_cons_succ]
    rfl
  refine pure_ (i := 4) (N := some 7) (v := ?_) (a' := ?_) #[true, true, true, true, true, false, false, false, false, false, false, false, false, false, false, false, false, false, false, false, false, false, false, false, false, false, false, false, false, false] rfl rfl (by kernel_rfl) (fun _ _ _ h => h) (Or.inl ⟨by rfl, ?_⟩) ?_ ?_
  rotate_left
  · intro w_
    go_simp
    try with_reducible rfl
  rotate_left
  · simp only [Act.put, List.setIfInBounds_toArray, List.set_cons_zero, List.set_cons_succ]
    rfl
  refine take_ (i := 5) (N := some 8) (v := .int .i64 m.q) (a' := ?_) #[true, true, true, true, true, true, false, false, false, false, false, false, false, false, false, false, false, false, false, false, false, false, false, false, false, false, false, false, false, false] rfl rfl (by kernel_rfl) (fun _ _ _ h => h) (Or.inl ⟨by rfl, fun w' h => by have c := cell_of_row w' _ 0 _ _ _ (h.get 0 rfl); go_simp⟩) hHeld ?_ ?_
  rotate_left
  · simp only [Act.put, List.setIfInBounds_toArray, List.set_cons_zero, List.set_cons_succ]
    rfl
  refine pure_ (i := 6) (N := some 9) (v := ?_) (a' := ?_) #[true, true, true, true, true, true, true, false, false, false, false, false, false, false, false, false, false, false, false, false, false, false, false, false, false, false, false, false, false, false] rfl rfl (by kernel_rfl) (fun _ _ _ h => h) (Or.inl ⟨by rfl, ?_⟩) ?_ ?_
  rotate_left
  · intro w_
    go_simp
    try with_reducible rfl
  rotate_left
  · simp only [Act.put, List.setIfInBounds_toArray, List.set_cons_zero, List.set_cons_succ]
    rfl
  refine pure_ (i := 7) (N := some 10) (v := ?_) (a' := ?_) #[true, true, true, true, true, true, true, true, false, false, false, false, false, false, false, false, false, false, false, false, false, false, false, false, false, false, false, false, false, false] rfl rfl (by kernel_rfl) (fun _ _ _ h => h) (Or.inl ⟨by rfl, ?_⟩) ?_ ?_
  rotate_left
  · intro w_
    go_simp
    try with_reducible rfl
  rotate_left
  · simp only [Act.put, List.setIfInBounds_toArray, List.set_cons_zero, List.set_cons_succ]
    rfl
  refine pure_ (i := 8) (N := some 11) (v := ?_) (a' := ?_) #[true, true, true, true, true, true, true, true, true, false, false, false, false, false, false, false, false, false, false, false, false, false, false, false, false, false, false, false, false, false] rfl rfl (by kernel_rfl) (fun _ _ _ h => h) (Or.inl ⟨by rfl, ?_⟩) ?_ ?_
  rotate_left
  · intro w_
    go_simp
    try with_reducible rfl
  rotate_left
  · simp only [Act.put, List.setIfInBounds_toArray, List.set_cons_zero, List.set_cons_succ]
    rfl
  refine pure_ (i := 9) (N := some 12) (v := ?_) (a' := ?_) #[true, true, true, true, true, true, true, true, true, true, false, false, false, false, false, false, false, false, false, false, false, false, false, false, false, false, false, false, false, false] rfl rfl (by kernel_rfl) (fun _ _ _ h => h) (Or.inl ⟨by rfl, ?_⟩) ?_ ?_
  rotate_left
  · intro w_
    go_simp
    try with_reducible rfl
  rotate_left
  · simp only [Act.put, List.setIfInBounds_toArray, List.set_cons_zero, List.set_cons_succ]
    rfl
  refine take_ (i := 10) (N := some 13) (v := .int .i64 m.q) (a' := ?_) #[true, true, true, true, true, true, true, true, true, true, true, false, false, false, false, false, false, false, false, false, false, false, false, false, false, false, false, false, false, false] rfl rfl (by kernel_rfl) (fun _ _ _ h => h) (Or.inl ⟨by rfl, fun w' h => by have c := cell_of_row w' _ 0 _ _ _ (h.get 0 rfl); go_simp⟩) hHeld ?_ ?_
  rotate_left
  · simp only [Act.put, List.setIfInBounds_toArray, List.set_cons_zero, List.set_cons_succ]
    rfl
  refine pure_ (i := 11) (N := some 14) (v := ?_) (a' := ?_) #[true, true, true, true, true, true, true, true, true, true, true, true, false, false, false, false, false, false, false, false, false, false, false, false, false, false, false, false, false, false] rfl rfl (by kernel_rfl) (fun _ _ _ h => h) (Or.inl ⟨by rfl, ?_⟩) ?_ ?_
  rotate_left
  · intro w_
    go_simp
    try with_reducible rfl
  rotate_left
  · simp only [Act.put, List.setIfInBounds_toArray, List.set_cons_zero, List.set_cons_succ]
    rfl
  refine pure_ (i := 12) (N := some 15) (v := ?_) (a' := ?_) #[true, true, true, true, true, true, true, true, true, true, true, true, true, false, false, false, false, false, false, false, false, false, false, false, false, false, false, false, false, false] rfl rfl (by kernel_rfl) (fun _ _ _ h => h) (Or.inl ⟨by rfl, ?_⟩) ?_ ?_
  rotate_left
  · intro w_
    go_simp
    try with_reducible rfl
  rotate_left
  · simp only [Act.put, List.setIfInBounds_toArray, List.set_cons_zero, List.set_cons_succ]
    rfl
  refine pure_ (i := 13) (N := some 16) (v := ?_) (a' := ?_) #[true, true, true, true, true, true, true, true, true, true, true, true, true, true, false, false, false, false, false, false, false, false, false, false, false, false, false, false, false, false] rfl rfl (by kernel_rfl) (fun _ _ _ h => h) (Or.inl ⟨by rfl, ?_⟩) ?_ ?_
  rotate_left
  · intro w_
    go_simp
    try with_reducible rfl
  rotate_left
  · simp only [Act.put, List.setIfInBounds_toArray, List.set_cons_zero, List.set_cons_succ]
    rfl
  first
    | (refine pure_ (i := 14) (N := some 17) (v := ?_) (a' := ?_) #[true, true, true, true, true, true, true, true, true, true, true, true, true, true, true, false, false, false, false, false, false, false, false, false, false, false, false, false, false, false] rfl rfl (by kernel_rfl) (fun _ _ _ h => h) (Or.inl ⟨by rfl, ?_⟩) ?_ ?_
       rotate_left
       · intro w_
         go_simp
         try with_reducible rfl
       rotate_left
       · simp only [Act.put, List.setIfInBounds_toArray, List.set_cons_zero, List.set_cons_succ]
         rfl)
    | (refine pure_ (i := 14) (N := some 17) (v := undef) (a' := ?_) #[true, true, true, true, true, true, true, true, true, true, true, true, true, true, true, false, false, false, false, false, false, false, false, false, false, false, false, false, false, false] rfl rfl (by kernel_rfl) (fun _ _ _ h => h) (Or.inr ⟨by rfl, rfl⟩) ?_ ?_
       rotate_left
       · simp only [Act.put, List.setIfInBounds_toArray, List.set_cons_zero, List.set_cons_succ]
         rfl)
  first
    | (refine take_ (i := 15) (N := some 18) (v := .agg [.int .i64 m.d0, .int .i64 m.d1, .int .i64 m.d2, .int .i64 m.d3, .int .i64 m.d4, .int .i64 m.d5, .int .i64 m.d6, .int .i64 m.d7].toArray) (a' := ?_) #[true, true, true, true, true, true, true, true, true, true, true, true, true, true, true, true, false, false, false, false, false, false, false, false, false, false, false, false, false, false] rfl rfl (by kernel_rfl) (fun _ _ _ h => h) (Or.inl ⟨by rfl, fun w' h => run_load_mid 27 _ rfl w.heap.size 1 [.int .i64 m.d0, .int .i64 m.d1, .int .i64 m.d2, .int .i64 m.d3, .int .i64 m.d4, .int .i64 m.d5, .int .i64 m.d6, .int .i64 m.d7] rfl _ _ _ (h.get 0 rfl) (eight_at rfl rfl rfl rfl rfl rfl rfl rfl) _ Try.underlying27 rfl size_vecM⟩) hHeld ?_ ?_
       rotate_left
       · simp only [Act.put, List.setIfInBounds_toArray, List.set_cons_zero, List.set_cons_succ]
         rfl)
    | (refine pure_ (i := 15) (N := some 18) (v := undef) (a' := ?_) #[true, true, true, true, true, true, true, true, true, true, true, true, true, true, true, true, false, false, false, false, false, false, false, false, false, false, false, false, false, false] rfl rfl (by kernel_rfl) (fun _ _ _ h => h) (Or.inr ⟨by rfl, rfl⟩) ?_ ?_
       rotate_left
       · simp only [Act.put, List.setIfInBounds_toArray, List.set_cons_zero, List.set_cons_succ]
         rfl)
  first
    | (refine one_ (i := 16) (N := some 19) #[true, true, true, true, true, true, true, true, true, true, true, true, true, true, true, true, true, false, false, false, false, false, false, false, false, false, false, false, false, false] rfl rfl (by kernel_rfl) (by decide) (fun K hK => ?_)
       refine goes_ Try.func15 (by kernel_rfl) rfl #[.agg [.int .i64 m.d0, .int .i64 m.d1, .int .i64 m.d2, .int .i64 m.d3, .int .i64 m.d4, .int .i64 m.d5, .int .i64 m.d6, .int .i64 m.d7].toArray] (by rfl) rfl rfl (by (try simp only [List.map_toArray, List.map_cons, List.map_nil]); first | done | rfl) ?_
       (with_reducible refine (OFF.out _).mono ?_)
       rintro e wr8 ⟨rfl, hr8⟩
       refine ⟨_, rfl, ?_⟩
       refine hK.out _ _ (OFF) (fun hHeld => ?_)
       clear hK K
       refine norm_ (a' := ?_) ?_ ?_
       rotate_left
       · show Act.put _ (some 19) _ = _
         simp only [Act.put, List.setIfInBounds_toArray, List.set_cons_zero, List.set_cons_succ]
         rfl)
    | (refine pure_ (i := 16) (N := some 19) (v := undef) (a' := ?_) #[true, true, true, true, true, true, true, true, true, true, true, true, true, true, true, true, true, false, false, false, false, false, false, false, false, false, false, false, false, false] rfl rfl (by kernel_rfl) (fun _ _ _ h => h) (Or.inr ⟨by rfl, rfl⟩) ?_ ?_
       rotate_left
       · simp only [Act.put, List.setIfInBounds_toArray, List.set_cons_zero, List.set_cons_succ]
         rfl)
  refine pure_ (i := 17) (N := some 20) (v := ?_) (a' := ?_) #[true, true, true, true, true, true, true, true, true, true, true, true, true, true, true, true, true, true, false, false, false, false, false, false, false, false, false, false, false, false] rfl rfl (by kernel_rfl) (fun _ _ _ h => h) (Or.inl ⟨by rfl, ?_⟩) ?_ ?_
  rotate_left
  · intro w_
    go_simp
    try with_reducible rfl
  rotate_left
  · simp only [Act.put, List.setIfInBounds_toArray, List.set_cons_zero, List.set_cons_succ]
    rfl
  refine pure_ (i := 18) (N := some 21) (v := ?_) (a' := ?_) #[true, true, true, true, true, true, true, true, true, true, true, true, true, true, true, true, true, true, true, false, false, false, false, false, false, false, false, false, false, false] rfl rfl (by kernel_rfl) (fun _ _ _ h => h) (Or.inl ⟨by rfl, ?_⟩) ?_ ?_
  rotate_left
  · intro w_
    go_simp
    try with_reducible rfl
  rotate_left
  · simp only [Act.put, List.setIfInBounds_toArray, List.set_cons_zero, List.set_cons_succ]
    rfl
  first
    | (refine take_ (i := 19) (N := some 22) (v := .agg #[.int .i64 m.q, .int .i64 m.d0, .int .i64 m.d1, .int .i64 m.d2, .int .i64 m.d3, .int .i64 m.d4, .int .i64 m.d5, .int .i64 m.d6, .int .i64 m.d7, .int .i64 m.t, .int .i64 m.r, .int .i64 m.k, .int .i64 m.a0, .int .i64 m.a1, .int .i64 m.i0, .int .i64 m.i1, .int .i64 m.t0, .int .i64 m.t1, .string m.nm, .string m.nw, .int .i64 m.off, .string m.dt]) (a' := ?_) #[true, true, true, true, true, true, true, true, true, true, true, true, true, true, true, true, true, true, true, true, false, false, false, false, false, false, false, false, false, false] rfl rfl (by kernel_rfl) (fun _ _ _ h => h) (Or.inl ⟨by rfl, fun w' h => run_load_mid 34 _ rfl w.heap.size 0 #[.int .i64 m.q, .int .i64 m.d0, .int .i64 m.d1, .int .i64 m.d2, .int .i64 m.d3, .int .i64 m.d4, .int .i64 m.d5, .int .i64 m.d6, .int .i64 m.d7, .int .i64 m.t, .int .i64 m.r, .int .i64 m.k, .int .i64 m.a0, .int .i64 m.a1, .int .i64 m.i0, .int .i64 m.i1, .int .i64 m.t0, .int .i64 m.t1, .string m.nm, .string m.nw, .int .i64 m.off, .string m.dt].toList rfl _ _ _ (h.get 0 rfl) (fun j v hj => by simpa using hj) _ Try.underlying34 rfl size_msg⟩) hHeld ?_ ?_
       rotate_left
       · simp only [Act.put, List.setIfInBounds_toArray, List.set_cons_zero, List.set_cons_succ]
         rfl)
    | (refine pure_ (i := 19) (N := some 22) (v := undef) (a' := ?_) #[true, true, true, true, true, true, true, true, true, true, true, true, true, true, true, true, true, true, true, true, false, false, false, false, false, false, false, false, false, false] rfl rfl (by kernel_rfl) (fun _ _ _ h => h) (Or.inr ⟨by rfl, rfl⟩) ?_ ?_
       rotate_left
       · simp only [Act.put, List.setIfInBounds_toArray, List.set_cons_zero, List.set_cons_succ]
         rfl)
  first
    | (refine pure_ (i := 21) (N := some 24) (v := ?_) (a' := ?_) #[true, true, true, true, true, true, true, true, true, true, true, true, true, true, true, true, true, true, true, true, false, true, false, false, false, false, false, false, false, false] rfl rfl (by kernel_rfl) (fun _ _ _ h => h) (Or.inl ⟨by rfl, ?_⟩) ?_ ?_
       rotate_left
       · intro w_
         go_simp
         try with_reducible rfl
       rotate_left
       · simp only [Act.put, List.setIfInBounds_toArray, List.set_cons_zero, List.set_cons_succ]
         rfl)
    | (refine pure_ (i := 21) (N := some 24) (v := undef) (a' := ?_) #[true, true, true, true, true, true, true, true, true, true, true, true, true, true, true, true, true, true, true, true, false, true, false, false, false, false, false, false, false, false] rfl rfl (by kernel_rfl) (fun _ _ _ h => h) (Or.inr ⟨by rfl, rfl⟩) ?_ ?_
       rotate_left
       · simp only [Act.put, List.setIfInBounds_toArray, List.set_cons_zero, List.set_cons_succ]
         rfl)
  first
    | (refine pure_ (i := 24) (N := some 27) (v := ?_) (a' := ?_) #[true, true, true, true, true, true, true, true, true, true, true, true, true, true, true, true, true, true, true, true, false, true, false, false, true, false, false, false, false, false] rfl rfl (by kernel_rfl) (fun _ _ _ h => h) (Or.inl ⟨by rfl, ?_⟩) ?_ ?_
       rotate_left
       · intro w_
         go_simp
         try with_reducible rfl
       rotate_left
       · simp only [Act.put, List.setIfInBounds_toArray, List.set_cons_zero, List.set_cons_succ]
         rfl)
    | (refine pure_ (i := 24) (N := some 27) (v := undef) (a' := ?_) #[true, true, true, true, true, true, true, true, true, true, true, true, true, true, true, true, true, true, true, true, false, true, false, false, true, false, false, false, false, false] rfl rfl (by kernel_rfl) (fun _ _ _ h => h) (Or.inr ⟨by rfl, rfl⟩) ?_ ?_
       rotate_left
       · simp only [Act.put, List.setIfInBounds_toArray, List.set_cons_zero, List.set_cons_succ]
         rfl)
  first
    | (refine take_ (i := 25) (N := some 28) (v := .int .i64 m.q) (a' := ?_) #[true, true, true, true, true, true, true, true, true, true, true, true, true, true, true, true, true, true, true, true, false, true, false, false, true, true, false, false, false, false] rfl rfl (by kernel_rfl) (fun _ _ _ h => h) (Or.inl ⟨by rfl, fun w' h => by have c := cell_of_row w' _ 0 _ _ _ (h.get 0 rfl); go_simp⟩) hHeld ?_ ?_
       rotate_left
       · simp only [Act.put, List.setIfInBounds_toArray, List.set_cons_zero, List.set_cons_succ]
         rfl)
    | (refine pure_ (i := 25) (N := some 28) (v := undef) (a' := ?_) #[true, true, true, true, true, true, true, true, true, true, true, true, true, true, true, true, true, true, true, true, false, true, false, false, true, true, false, false, false, false] rfl rfl (by kernel_rfl) (fun _ _ _ h => h) (Or.inr ⟨by rfl, rfl⟩) ?_ ?_
       rotate_left
       · simp only [Act.put, List.setIfInBounds_toArray, List.set_cons_zero, List.set_cons_succ]
         rfl)
  first
    | (refine pure_ (i := 26) (N := some 29) (v := ?_) (a' := ?_) #[true, true, true, true, true, true, true, true, true, true, true, true, true, true, true, true, true, true, true, true, false, true, false, false, true, true, true, false, false, false] rfl rfl (by kernel_rfl) (fun _ _ _ h => h) (Or.inl ⟨by rfl, ?_⟩) ?_ ?_
       rotate_left
       · intro w_
         go_simp
         try with_reducible rfl
       rotate_left
       · simp only [Act.put, List.setIfInBounds_toArray, List.set_cons_zero, List.set_cons_succ]
         rfl)
    | (refine pure_ (i := 26) (N := some 29) (v := undef) (a' := ?_) #[true, true, true, true, true, true, true, true, true, true, true, true, true, true, true, true, true, true, true, true, false, true, false, false, true, true, true, false, false, false] rfl rfl (by kernel_rfl) (fun _ _ _ h => h) (Or.inr ⟨by rfl, rfl⟩) ?_ ?_
       rotate_left
       · simp only [Act.put, List.setIfInBounds_toArray, List.set_cons_zero, List.set_cons_succ]
         rfl)
  first
    | (refine one_ (i := 20) (N := some 23) #[true, true, true, true, true, true, true, true, true, true, true, true, true, true, true, true, true, true, true, true, true, true, false, false, true, true, true, false, false, false] rfl rfl (by kernel_rfl) (by decide) (fun K hK => ?_)
       refine goes_ Try.func17 (by kernel_rfl) rfl #[.agg #[.int .i64 m.q, .int .i64 m.d0, .int .i64 m.d1, .int .i64 m.d2, .int .i64 m.d3, .int .i64 m.d4, .int .i64 m.d5, .int .i64 m.d6, .int .i64 m.d7, .int .i64 m.t, .int .i64 m.r, .int .i64 m.k, .int .i64 m.a0, .int .i64 m.a1, .int .i64 m.i0, .int .i64 m.i1, .int .i64 m.t0, .int .i64 m.t1, .string m.nm, .string m.nw, .int .i64 m.off, .string m.dt]] (by rfl) rfl rfl (by (try simp only [List.map_toArray, List.map_cons, List.map_nil]); first | done | rfl) ?_
       (with_reducible refine (OFF.out _).mono ?_)
       rintro e wr9 ⟨rfl, hr9⟩
       refine ⟨_, rfl, ?_⟩
       refine hK.out _ _ (OFF) (fun hHeld => ?_)
       clear hK K
       refine norm_ (a' := ?_) ?_ ?_
       rotate_left
       · show Act.put _ (some 23) _ = _
         simp only [Act.put, List.setIfInBounds_toArray, List.set_cons_zero, List.set_cons_succ]
         rfl)
    | (refine pure_ (i := 20) (N := some 23) (v := undef) (a' := ?_) #[true, true, true, true, true, true, true, true, true, true, true, true, true, true, true, true, true, true, true, true, true, true, false, false, true, true, true, false, false, false] rfl rfl (by kernel_rfl) (fun _ _ _ h => h) (Or.inr ⟨by rfl, rfl⟩) ?_ ?_
       rotate_left
       · simp only [Act.put, List.setIfInBounds_toArray, List.set_cons_zero, List.set_cons_succ]
         rfl)
  first
    | (refine pure_ (i := 22) (N := some 25) (v := ?_) (a' := ?_) #[true, true, true, true, true, true, true, true, true, true, true, true, true, true, true, true, true, true, true, true, true, true, true, false, true, true, true, false, false, false] rfl rfl (by kernel_rfl) (fun _ _ _ h => h) (Or.inl ⟨by rfl, ?_⟩) ?_ ?_
       rotate_left
       · intro w_
         go_simp
         try with_reducible rfl
       rotate_left
       · simp only [Act.put, List.setIfInBounds_toArray, List.set_cons_zero, List.set_cons_succ]
         rfl)
    | (refine pure_ (i := 22) (N := some 25) (v := undef) (a' := ?_) #[true, true, true, true, true, true, true, true, true, true, true, true, true, true, true, true, true, true, true, true, true, true, true, false, true, true, true, false, false, false] rfl rfl (by kernel_rfl) (fun _ _ _ h => h) (Or.inr ⟨by rfl, rfl⟩) ?_ ?_
       rotate_left
       · simp only [Act.put, List.setIfInBounds_toArray, List.set_cons_zero, List.set_cons_succ]
         rfl)
  first
    | (refine take_ (i := 23) (N := some 26) (v := .int .i64 dr) (a' := ?_) #[true, true, true, true, true, true, true, true, true, true, true, true, true, true, true, true, true, true, true, true, true, true, true, true, true, true, true, false, false, false] rfl rfl (by kernel_rfl) (fun _ _ _ h => h) (Or.inl ⟨by rfl, fun w' h => by have c : w'.cell? ⟨w.heap.size, 1 + rr, none⟩ = some (.int .i64 dr) := (cell_of_row w' _ _ _ _ _ (h.get 0 rfl)).trans HDR.out; go_simp⟩) hHeld ?_ ?_
       rotate_left
       · simp only [Act.put, List.setIfInBounds_toArray, List.set_cons_zero, List.set_cons_succ]
         rfl)
    | (refine pure_ (i := 23) (N := some 26) (v := undef) (a' := ?_) #[true, true, true, true, true, true, true, true, true, true, true, true, true, true, true, true, true, true, true, true, true, true, true, true, true, true, true, false, false, false] rfl rfl (by kernel_rfl) (fun _ _ _ h => h) (Or.inr ⟨by rfl, rfl⟩) ?_ ?_
       rotate_left
       · simp only [Act.put, List.setIfInBounds_toArray, List.set_cons_zero, List.set_cons_succ]
         rfl)
  first
    | (refine pure_ (i := 27) (N := some 30) (v := ?_) (a' := ?_) #[true, true, true, true, true, true, true, true, true, true, true, true, true, true, true, true, true, true, true, true, true, true, true, true, true, true, true, true, false, false] rfl rfl (by kernel_rfl) (fun _ _ _ h => h) (Or.inl ⟨by rfl, ?_⟩) ?_ ?_
       rotate_left
       · intro w_
         go_simp
         try with_reducible rfl
       rotate_left
       · simp only [Act.put, List.setIfInBounds_toArray, List.set_cons_zero, List.set_cons_succ]
         rfl)
    | (refine pure_ (i := 27) (N := some 30) (v := undef) (a' := ?_) #[true, true, true, true, true, true, true, true, true, true, true, true, true, true, true, true, true, true, true, true, true, true, true, true, true, true, true, true, false, false] rfl rfl (by kernel_rfl) (fun _ _ _ h => h) (Or.inr ⟨by rfl, rfl⟩) ?_ ?_
       rotate_left
       · simp only [Act.put, List.setIfInBounds_toArray, List.set_cons_zero, List.set_cons_succ]
         rfl)
  refine pure_ (i := 28) (N := some 31) (v := ?_) (a' := ?_) #[true, true, true, true, true, true, true, true, true, true, true, true, true, true, true, true, true, true, true, true, true, true, true, true, true, true, true, true, true, false] rfl rfl (by kernel_rfl) (fun _ _ _ h => h) (Or.inl ⟨by rfl, ?_⟩) ?_ ?_
  rotate_left
  · intro w_
    go_simp
    try with_reducible rfl
  rotate_left
  · simp only [Act.put, List.setIfInBounds_toArray, List.set_cons_zero, List.set_cons_succ]
    rfl
  refine pure_ (i := 29) (N := some 2) (v := ?_) (a' := ?_) #[true, true, true, true, true, true, true, true, true, true, true, true, true, true, true, true, true, true, true, true, true, true, true, true, true, true, true, true, true, true] rfl rfl (by kernel_rfl) (fun _ _ _ h => h) (Or.inl ⟨by rfl, ?_⟩) ?_ ?_
  rotate_left
  · intro w_
    go_simp
    try with_reducible rfl
  rotate_left
  · simp only [Act.put, List.setIfInBounds_toArray, List.set_cons_zero, List.set_cons_succ]
    rfl
  refine done_ (by kernel_rfl) ?_
  go_wp2_with fail
  go_ret
  exact ⟨by rw [HV.out]; first | rfl | (simp [*]; done) | (simp; done), hHeld.2⟩
set_option maxHeartbeats 4000000 in
set_option maxRecDepth 100000 in
theorem cmay_deps (m : MsgV) (b0 bv : Bool) (dr : Int) (rr : Nat) (w : World) (hdr : (#[.int .i64 m.q, .int .i64 m.d0, .int .i64 m.d1, .int .i64 m.d2, .int .i64 m.d3, .int .i64 m.d4, .int .i64 m.d5, .int .i64 m.d6, .int .i64 m.d7, .int .i64 m.t, .int .i64 m.r, .int .i64 m.k, .int .i64 m.a0, .int .i64 m.a1, .int .i64 m.i0, .int .i64 m.i1, .int .i64 m.t0, .int .i64 m.t1, .string m.nm, .string m.nw, .int .i64 m.off, .string m.dt] : Array Value)[1 + rr]? = some (.int .i64 dr)) (hr8 : rr < 8)
    (HO : Hd (∀ w, Calls Try.prog 32 #[.agg #[.int .i64 m.t, .int .i64 m.r, .int .i64 m.k, .int .i64 m.a0, .int .i64 m.a1, .int .i64 m.i0, .int .i64 m.i1, .int .i64 m.t0, .int .i64 m.t1, .string m.nm, .string m.nw, .int .i64 m.off, .string m.dt]] w fun e w' => e = .returned (.bool b0) ∧ Below w.heap.size w w'))
    (HVM : Hd (∀ w, Calls Try.prog 15 #[.agg [.int .i64 m.d0, .int .i64 m.d1, .int .i64 m.d2, .int .i64 m.d3, .int .i64 m.d4, .int .i64 m.d5, .int .i64 m.d6, .int .i64 m.d7].toArray] w fun e w' => e = .returned (.bool bv) ∧ Below w.heap.size w w'))
    (HR : Hd (∀ w, Calls Try.prog 17 #[.agg #[.int .i64 m.q, .int .i64 m.d0, .int .i64 m.d1, .int .i64 m.d2, .int .i64 m.d3, .int .i64 m.d4, .int .i64 m.d5, .int .i64 m.d6, .int .i64 m.d7, .int .i64 m.t, .int .i64 m.r, .int .i64 m.k, .int .i64 m.a0, .int .i64 m.a1, .int .i64 m.i0, .int .i64 m.i1, .int .i64 m.t0, .int .i64 m.t1, .string m.nm, .string m.nw, .int .i64 m.off, .string m.dt]] w fun e w' => e = .returned (.int .i64 (rr : Int)) ∧ Below w.heap.size w w'))
    (V : Bool) (HV : Hd (V = false)) (h0 : b0 = true) (h1 : 1 ≤ m.q) (h2 : m.q ≤ 1073741824) (h3 : bv = false) :
    Calls Try.prog 18 #[.agg #[.int .i64 m.q, .int .i64 m.d0, .int .i64 m.d1, .int .i64 m.d2, .int .i64 m.d3, .int .i64 m.d4, .int .i64 m.d5, .int .i64 m.d6, .int .i64 m.d7, .int .i64 m.t, .int .i64 m.r, .int .i64 m.k, .int .i64 m.a0, .int .i64 m.a1, .int .i64 m.i0, .int .i64 m.i1, .int .i64 m.t0, .int .i64 m.t1, .string m.nm, .string m.nw, .int .i64 m.off, .string m.dt]] w fun e w' => e = .returned (.bool V) ∧ Below w.heap.size w w' := by
  have K0 := Hd.mk (Holds.start1 w (.cells #[.int .i64 m.q, .int .i64 m.d0, .int .i64 m.d1, .int .i64 m.d2, .int .i64 m.d3, .int .i64 m.d4, .int .i64 m.d5, .int .i64 m.d6, .int .i64 m.d7, .int .i64 m.t, .int .i64 m.r, .int .i64 m.k, .int .i64 m.a0, .int .i64 m.a1, .int .i64 m.i0, .int .i64 m.i1, .int .i64 m.t0, .int .i64 m.t1, .string m.nm, .string m.nw, .int .i64 m.off, .string m.dt] 34 (0, 0)))
  have HDR := Hd.mk hdr
  have g8 : (rr : Int) < 8 := by omega
  subst h0 h3
  have e1 : decide (1 ≤ m.q) = true := decide_eq_true h1
  have e2 : decide (m.q ≤ 1073741824) = true := decide_eq_true h2
  clear h1 h2
  clear hdr hr8
  go_enter Try.func18, Try.ntmps18
  go_upto_region 1 with (fail)
  refine world_gen _ K0.out (fun W hK => ?_)
  have K1 := Hd.mk hK
  clear hK K0
  refine start_ (n := 30) (S := fun W_ => Holds w [(w.heap.size, .cells #[.int .i64 m.q, .int .i64 m.d0, .int .i64 m.d1, .int .i64 m.d2, .int .i64 m.d3, .int .i64 m.d4, .int .i64 m.d5, .int .i64 m.d6, .int .i64 m.d7, .int .i64 m.t, .int .i64 m.r, .int .i64 m.k, .int .i64 m.a0, .int .i64 m.a1, .int .i64 m.i0, .int .i64 m.i1, .int .i64 m.t0, .int .i64 m.t1, .string m.nm, .string m.nw, .int .i64 m.off, .string m.dt] 34 (0, 0))] W_) (ds := []) #[false, false, false, false, false, false, false, false, false, false, false, false, false, false, false, false, false, false, false, false, false, false, false, false, false, false, false, false, false, false] (by kernel_rfl) rfl rfl (K1.out.drew) (fun hHeld => ?_)
  refine pure_ (i := 0) (N := some 3) (v := ?_) (a' := ?_) #[true, false, false, false, false, false, false, false, false, false, false, false, false, false, false, false, false, false, false, false, false, false, false, false, false, false, false, false, false, false] rfl rfl (by kernel_rfl) (fun _ _ _ h => h) (Or.inl ⟨by rfl, ?_⟩) ?_ ?_
  rotate_left
  · intro w_
    go_simp
    try with_reducible rfl
  rotate_left
  · simp only [Act.put, List.setIfInBounds_toArray, List.set_cons_zero, List.set_cons_succ]
    rfl
  refine take_ (i := 1) (N := some 4) (v := .agg #[.int .i64 m.t, .int .i64 m.r, .int .i64 m.k, .int .i64 m.a0, .int .i64 m.a1, .int .i64 m.i0, .int .i64 m.i1, .int .i64 m.t0, .int .i64 m.t1, .string m.nm, .string m.nw, .int .i64 m.off, .string m.dt]) (a' := ?_) #[true, true, false, false, false, false, false, false, false, false, false, false, false, false, false, false, false, false, false, false, false, false, false, false, false, false, false, false, false, false] rfl rfl (by kernel_rfl) (fun _ _ _ h => h) (Or.inl ⟨by rfl, fun w' h => run_load_mid 32 _ rfl w.heap.size 9 #[.int .i64 m.t, .int .i64 m.r, .int .i64 m.k, .int .i64 m.a0, .int .i64 m.a1, .int .i64 m.i0, .int .i64 m.i1, .int .i64 m.t0, .int .i64 m.t1, .string m.nm, .string m.nw, .int .i64 m.off, .string m.dt].toList rfl _ _ _ (h.get 0 rfl) (fun j v hj => by simpa [Nat.add_comm] using hj) _ Try.underlying32 rfl size_opM⟩) hHeld ?_ ?_
  rotate_left
  · simp only [Act.put, List.setIfInBounds_toArray, List.set_cons_zero, List.set_cons_succ]
    rfl
  refine one_ (i := 2) (N := some 5) #[true, true, true, false, false, false, false, false, false, false, false, false, false, false, false, false, false, false, false, false, false, false, false, false, false, false, false, false, false, false] rfl rfl (by kernel_rfl) (by decide) (fun K hK => ?_)
  refine goes_ Try.func32 (by kernel_rfl) rfl #[.agg #[.int .i64 m.t, .int .i64 m.r, .int .i64 m.k, .int .i64 m.a0, .int .i64 m.a1, .int .i64 m.i0, .int .i64 m.i1, .int .i64 m.t0, .int .i64 m.t1, .string m.nm, .string m.nw, .int .i64 m.off, .string m.dt]] (by rfl) rfl rfl (by (try simp only [List.map_toArray, List.map_cons, List.map_nil]); first | done | rfl) ?_
  (with_reducible refine (HO.out _).mono ?_)
  rintro e wr10 ⟨rfl, hr10⟩
  refine ⟨_, rfl, ?_⟩
  refine hK.out _ _ (hHeld.call hr10) (fun hHeld => ?_)
  clear hK K
  refine norm_ (a' := ?_) ?_ ?_
  rotate_left
  · show Act.put _ (some 5) _ = _
    simp only [Act.put, List.setIfInBounds_toArray, List.set_cons_zero, List.set_cons_succ]
    rfl
  refine pure_ (i := 3) (N := some 6) (v := ?_) (a' := ?_) #[true, true, true, true, false, false, false, false, false, false, false, false, false, false, false, false, false, false, false, false, false, false, false, false, false, false, false, false, false, false] rfl rfl (by kernel_rfl) (fun _ _ _ h => h) (Or.inl ⟨by rfl, ?_⟩) ?_ ?_
  rotate_left
  · intro w_
    go_simp
    try with_reducible rfl
  rotate_left
  · simp only [Act.put, List.setIfInBounds_toArray, List.set_cons_zero, List.set_cons_succ]
    rfl
  refine pure_ (i := 4) (N := some 7) (v := ?_) (a' := ?_) #[true, true, true, true, true, false, false, false, false, false, false, false, false, false, false, false, false, false, false, false, false, false, false, false, false, false, false, false, false, false] rfl rfl (by kernel_rfl) (fun _ _ _ h => h) (Or.inl ⟨by rfl, ?_⟩) ?_ ?_
  rotate_left
  · intro w_
    go_simp
    try with_reducible rfl
  rotate_left
  · simp only [Act.put, List.setIfInBounds_toArray, List.set_cons_zero, List.set_cons_succ]
    rfl
  refine take_ (i := 5) (N := some 8) (v := .int .i64 m.q) (a' := ?_) #[true, true, true, true, true, true, false, false, false, false, false, false, false, false, false, false, false, false, false, false, false, false, false, false, false, false, false, false, false, false] rfl rfl (by kernel_rfl) (fun _ _ _ h => h) (Or.inl ⟨by rfl, fun w' h => by have c := cell_of_row w' _ 0 _ _ _ (h.get 0 rfl); go_simp⟩) hHeld ?_ ?_
  rotate_left
  · simp only [Act.put, List.setIfInBounds_toArray, List.set_cons_zero, List.set_cons_succ]
    rfl
  refine pure_ (i := 6) (N := some 9) (v := ?_) (a' := ?_) #[true, true, true, true, true, true, true, false, false, false, false, false, false, false, false, false, false, false, false, false, false, false, false, false, false, false, false, false, false, false] rfl rfl (by kernel_rfl) (fun _ _ _ h => h) (Or.inl ⟨by rfl, ?_⟩) ?_ ?_
  rotate_left
  · intro w_
    go_simp
    try with_reducible rfl
  rotate_left
  · simp only [Act.put, List.setIfInBounds_toArray, List.set_cons_zero, List.set_cons_succ]
    rfl
  refine pure_ (i := 7) (N := some 10) (v := ?_) (a' := ?_) #[true, true, true, true, true, true, true, true, false, false, false, false, false, false, false, false, false, false, false, false, false, false, false, false, false, false, false, false, false, false] rfl rfl (by kernel_rfl) (fun _ _ _ h => h) (Or.inl ⟨by rfl, ?_⟩) ?_ ?_
  rotate_left
  · intro w_
    go_simp
    try with_reducible rfl
  rotate_left
  · simp only [Act.put, List.setIfInBounds_toArray, List.set_cons_zero, List.set_cons_succ]
    rfl
  refine pure_ (i := 8) (N := some 11) (v := ?_) (a' := ?_) #[true, true, true, true, true, true, true, true, true, false, false, false, false, false, false, false, false, false, false, false, false, false, false, false, false, false, false, false, false, false] rfl rfl (by kernel_rfl) (fun _ _ _ h => h) (Or.inl ⟨by rfl, ?_⟩) ?_ ?_
  rotate_left
  · intro w_
    go_simp
    try with_reducible rfl
  rotate_left
  · simp only [Act.put, List.setIfInBounds_toArray, List.set_cons_zero, List.set_cons_succ]
    rfl
  refine pure_ (i := 9) (N := some 12) (v := ?_) (a' := ?_) #[true, true, true, true, true, true, true, true, true, true, false, false, false, false, false, false, false, false, false, false, false, false, false, false, false, false, false, false, false, false] rfl rfl (by kernel_rfl) (fun _ _ _ h => h) (Or.inl ⟨by rfl, ?_⟩) ?_ ?_
  rotate_left
  · intro w_
    go_simp
    try with_reducible rfl
  rotate_left
  · simp only [Act.put, List.setIfInBounds_toArray, List.set_cons_zero, List.set_cons_succ]
    rfl
  refine take_ (i := 10) (N := some 13) (v := .int .i64 m.q) (a' := ?_) #[true, true, true, true, true, true, true, true, true, true, true, false, false, false, false, false, false, false, false, false, false, false, false, false, false, false, false, false, false, false] rfl rfl (by kernel_rfl) (fun _ _ _ h => h) (Or.inl ⟨by rfl, fun w' h => by have c := cell_of_row w' _ 0 _ _ _ (h.get 0 rfl); go_simp⟩) hHeld ?_ ?_
  rotate_left
  · simp only [Act.put, List.setIfInBounds_toArray, List.set_cons_zero, List.set_cons_succ]
    rfl
  refine pure_ (i := 11) (N := some 14) (v := ?_) (a' := ?_) #[true, true, true, true, true, true, true, true, true, true, true, true, false, false, false, false, false, false, false, false, false, false, false, false, false, false, false, false, false, false] rfl rfl (by kernel_rfl) (fun _ _ _ h => h) (Or.inl ⟨by rfl, ?_⟩) ?_ ?_
  rotate_left
  · intro w_
    go_simp
    try with_reducible rfl
  rotate_left
  · simp only [Act.put, List.setIfInBounds_toArray, List.set_cons_zero, List.set_cons_succ]
    rfl
  refine pure_ (i := 12) (N := some 15) (v := ?_) (a' := ?_) #[true, true, true, true, true, true, true, true, true, true, true, true, true, false, false, false, false, false, false, false, false, false, false, false, false, false, false, false, false, false] rfl rfl (by kernel_rfl) (fun _ _ _ h => h) (Or.inl ⟨by rfl, ?_⟩) ?_ ?_
  rotate_left
  · intro w_
    go_simp
    try with_reducible rfl
  rotate_left
  · simp only [Act.put, List.setIfInBounds_toArray, List.set_cons_zero, List.set_cons_succ]
    rfl
  refine pure_ (i := 13) (N := some 16) (v := ?_) (a' := ?_) #[true, true, true, true, true, true, true, true, true, true, true, true, true, true, false, false, false, false, false, false, false, false, false, false, false, false, false, false, false, false] rfl rfl (by kernel_rfl) (fun _ _ _ h => h) (Or.inl ⟨by rfl, ?_⟩) ?_ ?_
  rotate_left
  · intro w_
    go_simp
    try with_reducible rfl
  rotate_left
  · simp only [Act.put, List.setIfInBounds_toArray, List.set_cons_zero, List.set_cons_succ]
    rfl
  refine pure_ (i := 14) (N := some 17) (v := ?_) (a' := ?_) #[true, true, true, true, true, true, true, true, true, true, true, true, true, true, true, false, false, false, false, false, false, false, false, false, false, false, false, false, false, false] rfl rfl (by kernel_rfl) (fun _ _ _ h => h) (Or.inl ⟨by rfl, ?_⟩) ?_ ?_
  rotate_left
  · intro w_
    go_simp
    try with_reducible rfl
  rotate_left
  · simp only [Act.put, List.setIfInBounds_toArray, List.set_cons_zero, List.set_cons_succ]
    rfl
  refine take_ (i := 15) (N := some 18) (v := .agg [.int .i64 m.d0, .int .i64 m.d1, .int .i64 m.d2, .int .i64 m.d3, .int .i64 m.d4, .int .i64 m.d5, .int .i64 m.d6, .int .i64 m.d7].toArray) (a' := ?_) #[true, true, true, true, true, true, true, true, true, true, true, true, true, true, true, true, false, false, false, false, false, false, false, false, false, false, false, false, false, false] rfl rfl (by kernel_rfl) (fun _ _ _ h => h) (Or.inl ⟨by rfl, fun w' h => run_load_mid 27 _ rfl w.heap.size 1 [.int .i64 m.d0, .int .i64 m.d1, .int .i64 m.d2, .int .i64 m.d3, .int .i64 m.d4, .int .i64 m.d5, .int .i64 m.d6, .int .i64 m.d7] rfl _ _ _ (h.get 0 rfl) (eight_at rfl rfl rfl rfl rfl rfl rfl rfl) _ Try.underlying27 rfl size_vecM⟩) hHeld ?_ ?_
  rotate_left
  · simp only [Act.put, List.setIfInBounds_toArray, List.set_cons_zero, List.set_cons_succ]
    rfl
  refine one_ (i := 16) (N := some 19) #[true, true, true, true, true, true, true, true, true, true, true, true, true, true, true, true, true, false, false, false, false, false, false, false, false, false, false, false, false, false] rfl rfl (by kernel_rfl) (by decide) (fun K hK => ?_)
  refine goes_ Try.func15 (by kernel_rfl) rfl #[.agg [.int .i64 m.d0, .int .i64 m.d1, .int .i64 m.d2, .int .i64 m.d3, .int .i64 m.d4, .int .i64 m.d5, .int .i64 m.d6, .int .i64 m.d7].toArray] (by rfl) rfl rfl (by (try simp only [List.map_toArray, List.map_cons, List.map_nil]); first | done | rfl) ?_
  (with_reducible refine (HVM.out _).mono ?_)
  rintro e wr11 ⟨rfl, hr11⟩
  refine ⟨_, rfl, ?_⟩
  refine hK.out _ _ (hHeld.call hr11) (fun hHeld => ?_)
  clear hK K
  refine norm_ (a' := ?_) ?_ ?_
  rotate_left
  · show Act.put _ (some 19) _ = _
    simp only [Act.put, List.setIfInBounds_toArray, List.set_cons_zero, List.set_cons_succ]
    rfl
  refine pure_ (i := 17) (N := some 20) (v := ?_) (a' := ?_) #[true, true, true, true, true, true, true, true, true, true, true, true, true, true, true, true, true, true, false, false, false, false, false, false, false, false, false, false, false, false] rfl rfl (by kernel_rfl) (fun _ _ _ h => h) (Or.inl ⟨by rfl, ?_⟩) ?_ ?_
  rotate_left
  · intro w_
    go_simp
    try with_reducible rfl
  rotate_left
  · simp only [Act.put, List.setIfInBounds_toArray, List.set_cons_zero, List.set_cons_succ]
    rfl
  refine pure_ (i := 18) (N := some 21) (v := ?_) (a' := ?_) #[true, true, true, true, true, true, true, true, true, true, true, true, true, true, true, true, true, true, true, false, false, false, false, false, false, false, false, false, false, false] rfl rfl (by kernel_rfl) (fun _ _ _ h => h) (Or.inl ⟨by rfl, ?_⟩) ?_ ?_
  rotate_left
  · intro w_
    go_simp
    try with_reducible rfl
  rotate_left
  · simp only [Act.put, List.setIfInBounds_toArray, List.set_cons_zero, List.set_cons_succ]
    rfl
  first
    | (refine take_ (i := 19) (N := some 22) (v := .agg #[.int .i64 m.q, .int .i64 m.d0, .int .i64 m.d1, .int .i64 m.d2, .int .i64 m.d3, .int .i64 m.d4, .int .i64 m.d5, .int .i64 m.d6, .int .i64 m.d7, .int .i64 m.t, .int .i64 m.r, .int .i64 m.k, .int .i64 m.a0, .int .i64 m.a1, .int .i64 m.i0, .int .i64 m.i1, .int .i64 m.t0, .int .i64 m.t1, .string m.nm, .string m.nw, .int .i64 m.off, .string m.dt]) (a' := ?_) #[true, true, true, true, true, true, true, true, true, true, true, true, true, true, true, true, true, true, true, true, false, false, false, false, false, false, false, false, false, false] rfl rfl (by kernel_rfl) (fun _ _ _ h => h) (Or.inl ⟨by rfl, fun w' h => run_load_mid 34 _ rfl w.heap.size 0 #[.int .i64 m.q, .int .i64 m.d0, .int .i64 m.d1, .int .i64 m.d2, .int .i64 m.d3, .int .i64 m.d4, .int .i64 m.d5, .int .i64 m.d6, .int .i64 m.d7, .int .i64 m.t, .int .i64 m.r, .int .i64 m.k, .int .i64 m.a0, .int .i64 m.a1, .int .i64 m.i0, .int .i64 m.i1, .int .i64 m.t0, .int .i64 m.t1, .string m.nm, .string m.nw, .int .i64 m.off, .string m.dt].toList rfl _ _ _ (h.get 0 rfl) (fun j v hj => by simpa using hj) _ Try.underlying34 rfl size_msg⟩) hHeld ?_ ?_
       rotate_left
       · simp only [Act.put, List.setIfInBounds_toArray, List.set_cons_zero, List.set_cons_succ]
         rfl)
    | (refine pure_ (i := 19) (N := some 22) (v := undef) (a' := ?_) #[true, true, true, true, true, true, true, true, true, true, true, true, true, true, true, true, true, true, true, true, false, false, false, false, false, false, false, false, false, false] rfl rfl (by kernel_rfl) (fun _ _ _ h => h) (Or.inr ⟨by rfl, rfl⟩) ?_ ?_
       rotate_left
       · simp only [Act.put, List.setIfInBounds_toArray, List.set_cons_zero, List.set_cons_succ]
         rfl)
  first
    | (refine pure_ (i := 21) (N := some 24) (v := ?_) (a' := ?_) #[true, true, true, true, true, true, true, true, true, true, true, true, true, true, true, true, true, true, true, true, false, true, false, false, false, false, false, false, false, false] rfl rfl (by kernel_rfl) (fun _ _ _ h => h) (Or.inl ⟨by rfl, ?_⟩) ?_ ?_
       rotate_left
       · intro w_
         go_simp
         try with_reducible rfl
       rotate_left
       · simp only [Act.put, List.setIfInBounds_toArray, List.set_cons_zero, List.set_cons_succ]
         rfl)
    | (refine pure_ (i := 21) (N := some 24) (v := undef) (a' := ?_) #[true, true, true, true, true, true, true, true, true, true, true, true, true, true, true, true, true, true, true, true, false, true, false, false, false, false, false, false, false, false] rfl rfl (by kernel_rfl) (fun _ _ _ h => h) (Or.inr ⟨by rfl, rfl⟩) ?_ ?_
       rotate_left
       · simp only [Act.put, List.setIfInBounds_toArray, List.set_cons_zero, List.set_cons_succ]
         rfl)
  first
    | (refine pure_ (i := 24) (N := some 27) (v := ?_) (a' := ?_) #[true, true, true, true, true, true, true, true, true, true, true, true, true, true, true, true, true, true, true, true, false, true, false, false, true, false, false, false, false, false] rfl rfl (by kernel_rfl) (fun _ _ _ h => h) (Or.inl ⟨by rfl, ?_⟩) ?_ ?_
       rotate_left
       · intro w_
         go_simp
         try with_reducible rfl
       rotate_left
       · simp only [Act.put, List.setIfInBounds_toArray, List.set_cons_zero, List.set_cons_succ]
         rfl)
    | (refine pure_ (i := 24) (N := some 27) (v := undef) (a' := ?_) #[true, true, true, true, true, true, true, true, true, true, true, true, true, true, true, true, true, true, true, true, false, true, false, false, true, false, false, false, false, false] rfl rfl (by kernel_rfl) (fun _ _ _ h => h) (Or.inr ⟨by rfl, rfl⟩) ?_ ?_
       rotate_left
       · simp only [Act.put, List.setIfInBounds_toArray, List.set_cons_zero, List.set_cons_succ]
         rfl)
  first
    | (refine take_ (i := 25) (N := some 28) (v := .int .i64 m.q) (a' := ?_) #[true, true, true, true, true, true, true, true, true, true, true, true, true, true, true, true, true, true, true, true, false, true, false, false, true, true, false, false, false, false] rfl rfl (by kernel_rfl) (fun _ _ _ h => h) (Or.inl ⟨by rfl, fun w' h => by have c := cell_of_row w' _ 0 _ _ _ (h.get 0 rfl); go_simp⟩) hHeld ?_ ?_
       rotate_left
       · simp only [Act.put, List.setIfInBounds_toArray, List.set_cons_zero, List.set_cons_succ]
         rfl)
    | (refine pure_ (i := 25) (N := some 28) (v := undef) (a' := ?_) #[true, true, true, true, true, true, true, true, true, true, true, true, true, true, true, true, true, true, true, true, false, true, false, false, true, true, false, false, false, false] rfl rfl (by kernel_rfl) (fun _ _ _ h => h) (Or.inr ⟨by rfl, rfl⟩) ?_ ?_
       rotate_left
       · simp only [Act.put, List.setIfInBounds_toArray, List.set_cons_zero, List.set_cons_succ]
         rfl)
  first
    | (refine pure_ (i := 26) (N := some 29) (v := ?_) (a' := ?_) #[true, true, true, true, true, true, true, true, true, true, true, true, true, true, true, true, true, true, true, true, false, true, false, false, true, true, true, false, false, false] rfl rfl (by kernel_rfl) (fun _ _ _ h => h) (Or.inl ⟨by rfl, ?_⟩) ?_ ?_
       rotate_left
       · intro w_
         go_simp
         try with_reducible rfl
       rotate_left
       · simp only [Act.put, List.setIfInBounds_toArray, List.set_cons_zero, List.set_cons_succ]
         rfl)
    | (refine pure_ (i := 26) (N := some 29) (v := undef) (a' := ?_) #[true, true, true, true, true, true, true, true, true, true, true, true, true, true, true, true, true, true, true, true, false, true, false, false, true, true, true, false, false, false] rfl rfl (by kernel_rfl) (fun _ _ _ h => h) (Or.inr ⟨by rfl, rfl⟩) ?_ ?_
       rotate_left
       · simp only [Act.put, List.setIfInBounds_toArray, List.set_cons_zero, List.set_cons_succ]
         rfl)
  first
    | (refine one_ (i := 20) (N := some 23) #[true, true, true, true, true, true, true, true, true, true, true, true, true, true, true, true, true, true, true, true, true, true, false, false, true, true, true, false, false, false] rfl rfl (by kernel_rfl) (by decide) (fun K hK => ?_)
       refine goes_ Try.func17 (by kernel_rfl) rfl #[.agg #[.int .i64 m.q, .int .i64 m.d0, .int .i64 m.d1, .int .i64 m.d2, .int .i64 m.d3, .int .i64 m.d4, .int .i64 m.d5, .int .i64 m.d6, .int .i64 m.d7, .int .i64 m.t, .int .i64 m.r, .int .i64 m.k, .int .i64 m.a0, .int .i64 m.a1, .int .i64 m.i0, .int .i64 m.i1, .int .i64 m.t0, .int .i64 m.t1, .string m.nm, .string m.nw, .int .i64 m.off, .string m.dt]] (by rfl) rfl rfl (by (try simp only [List.map_toArray, List.map_cons, List.map_nil]); first | done | rfl) ?_
       (with_reducible refine (OFF.out _).mono ?_)
       rintro e wr12 ⟨rfl, hr12⟩
       refine ⟨_, rfl, ?_⟩
       refine hK.out _ _ (OFF) (fun hHeld => ?_)
       clear hK K
       refine norm_ (a' := ?_) ?_ ?_
       rotate_left
       · show Act.put _ (some 23) _ = _
         simp only [Act.put, List.setIfInBounds_toArray, List.set_cons_zero, List.set_cons_succ]
         rfl)
    | (refine pure_ (i := 20) (N := some 23) (v := undef) (a' := ?_) #[true, true, true, true, true, true, true, true, true, true, true, true, true, true, true, true, true, true, true, true, true, true, false, false, true, true, true, false, false, false] rfl rfl (by kernel_rfl) (fun _ _ _ h => h) (Or.inr ⟨by rfl, rfl⟩) ?_ ?_
       rotate_left
       · simp only [Act.put, List.setIfInBounds_toArray, List.set_cons_zero, List.set_cons_succ]
         rfl)
  first
    | (refine pure_ (i := 22) (N := some 25) (v := ?_) (a' := ?_) #[true, true, true, true, true, true, true, true, true, true, true, true, true, true, true, true, true, true, true, true, true, true, true, false, true, true, true, false, false, false] rfl rfl (by kernel_rfl) (fun _ _ _ h => h) (Or.inl ⟨by rfl, ?_⟩) ?_ ?_
       rotate_left
       · intro w_
         go_simp
         try with_reducible rfl
       rotate_left
       · simp only [Act.put, List.setIfInBounds_toArray, List.set_cons_zero, List.set_cons_succ]
         rfl)
    | (refine pure_ (i := 22) (N := some 25) (v := undef) (a' := ?_) #[true, true, true, true, true, true, true, true, true, true, true, true, true, true, true, true, true, true, true, true, true, true, true, false, true, true, true, false, false, false] rfl rfl (by kernel_rfl) (fun _ _ _ h => h) (Or.inr ⟨by rfl, rfl⟩) ?_ ?_
       rotate_left
       · simp only [Act.put, List.setIfInBounds_toArray, List.set_cons_zero, List.set_cons_succ]
         rfl)
  first
    | (refine take_ (i := 23) (N := some 26) (v := .int .i64 dr) (a' := ?_) #[true, true, true, true, true, true, true, true, true, true, true, true, true, true, true, true, true, true, true, true, true, true, true, true, true, true, true, false, false, false] rfl rfl (by kernel_rfl) (fun _ _ _ h => h) (Or.inl ⟨by rfl, fun w' h => by have c : w'.cell? ⟨w.heap.size, 1 + rr, none⟩ = some (.int .i64 dr) := (cell_of_row w' _ _ _ _ _ (h.get 0 rfl)).trans HDR.out; go_simp⟩) hHeld ?_ ?_
       rotate_left
       · simp only [Act.put, List.setIfInBounds_toArray, List.set_cons_zero, List.set_cons_succ]
         rfl)
    | (refine pure_ (i := 23) (N := some 26) (v := undef) (a' := ?_) #[true, true, true, true, true, true, true, true, true, true, true, true, true, true, true, true, true, true, true, true, true, true, true, true, true, true, true, false, false, false] rfl rfl (by kernel_rfl) (fun _ _ _ h => h) (Or.inr ⟨by rfl, rfl⟩) ?_ ?_
       rotate_left
       · simp only [Act.put, List.setIfInBounds_toArray, List.set_cons_zero, List.set_cons_succ]
         rfl)
  first
    | (refine pure_ (i := 27) (N := some 30) (v := ?_) (a' := ?_) #[true, true, true, true, true, true, true, true, true, true, true, true, true, true, true, true, true, true, true, true, true, true, true, true, true, true, true, true, false, false] rfl rfl (by kernel_rfl) (fun _ _ _ h => h) (Or.inl ⟨by rfl, ?_⟩) ?_ ?_
       rotate_left
       · intro w_
         go_simp
         try with_reducible rfl
       rotate_left
       · simp only [Act.put, List.setIfInBounds_toArray, List.set_cons_zero, List.set_cons_succ]
         rfl)
    | (refine pure_ (i := 27) (N := some 30) (v := undef) (a' := ?_) #[true, true, true, true, true, true, true, true, true, true, true, true, true, true, true, true, true, true, true, true, true, true, true, true, true, true, true, true, false, false] rfl rfl (by kernel_rfl) (fun _ _ _ h => h) (Or.inr ⟨by rfl, rfl⟩) ?_ ?_
       rotate_left
       · simp only [Act.put, List.setIfInBounds_toArray, List.set_cons_zero, List.set_cons_succ]
         rfl)
  refine pure_ (i := 28) (N := some 31) (v := ?_) (a' := ?_) #[true, true, true, true, true, true, true, true, true, true, true, true, true, true, true, true, true, true, true, true, true, true, true, true, true, true, true, true, true, false] rfl rfl (by kernel_rfl) (fun _ _ _ h => h) (Or.inl ⟨by rfl, ?_⟩) ?_ ?_
  rotate_left
  · intro w_
    go_simp
    try with_reducible rfl
  rotate_left
  · simp only [Act.put, List.setIfInBounds_toArray, List.set_cons_zero, List.set_cons_succ]
    rfl
  refine pure_ (i := 29) (N := some 2) (v := ?_) (a' := ?_) #[true, true, true, true, true, true, true, true, true, true, true, true, true, true, true, true, true, true, true, true, true, true, true, true, true, true, true, true, true, true] rfl rfl (by kernel_rfl) (fun _ _ _ h => h) (Or.inl ⟨by rfl, ?_⟩) ?_ ?_
  rotate_left
  · intro w_
    go_simp
    try with_reducible rfl
  rotate_left
  · simp only [Act.put, List.setIfInBounds_toArray, List.set_cons_zero, List.set_cons_succ]
    rfl
  refine done_ (by kernel_rfl) ?_
  go_wp2_with fail
  go_ret
  exact ⟨by rw [HV.out]; first | rfl | (simp [*]; done) | (simp; done), hHeld.2⟩
set_option maxHeartbeats 4000000 in
set_option maxRecDepth 100000 in
theorem cmay_all (m : MsgV) (b0 bv : Bool) (dr : Int) (rr : Nat) (w : World) (hdr : (#[.int .i64 m.q, .int .i64 m.d0, .int .i64 m.d1, .int .i64 m.d2, .int .i64 m.d3, .int .i64 m.d4, .int .i64 m.d5, .int .i64 m.d6, .int .i64 m.d7, .int .i64 m.t, .int .i64 m.r, .int .i64 m.k, .int .i64 m.a0, .int .i64 m.a1, .int .i64 m.i0, .int .i64 m.i1, .int .i64 m.t0, .int .i64 m.t1, .string m.nm, .string m.nw, .int .i64 m.off, .string m.dt] : Array Value)[1 + rr]? = some (.int .i64 dr)) (hr8 : rr < 8)
    (HO : Hd (∀ w, Calls Try.prog 32 #[.agg #[.int .i64 m.t, .int .i64 m.r, .int .i64 m.k, .int .i64 m.a0, .int .i64 m.a1, .int .i64 m.i0, .int .i64 m.i1, .int .i64 m.t0, .int .i64 m.t1, .string m.nm, .string m.nw, .int .i64 m.off, .string m.dt]] w fun e w' => e = .returned (.bool b0) ∧ Below w.heap.size w w'))
    (HVM : Hd (∀ w, Calls Try.prog 15 #[.agg [.int .i64 m.d0, .int .i64 m.d1, .int .i64 m.d2, .int .i64 m.d3, .int .i64 m.d4, .int .i64 m.d5, .int .i64 m.d6, .int .i64 m.d7].toArray] w fun e w' => e = .returned (.bool bv) ∧ Below w.heap.size w w'))
    (HR : Hd (∀ w, Calls Try.prog 17 #[.agg #[.int .i64 m.q, .int .i64 m.d0, .int .i64 m.d1, .int .i64 m.d2, .int .i64 m.d3, .int .i64 m.d4, .int .i64 m.d5, .int .i64 m.d6, .int .i64 m.d7, .int .i64 m.t, .int .i64 m.r, .int .i64 m.k, .int .i64 m.a0, .int .i64 m.a1, .int .i64 m.i0, .int .i64 m.i1, .int .i64 m.t0, .int .i64 m.t1, .string m.nm, .string m.nw, .int .i64 m.off, .string m.dt]] w fun e w' => e = .returned (.int .i64 (rr : Int)) ∧ Below w.heap.size w w'))
    (V : Bool) (HV : Hd (V = (dr == m.q - 1))) (h0 : b0 = true) (h1 : 1 ≤ m.q) (h2 : m.q ≤ 1073741824) (h3 : bv = true) :
    Calls Try.prog 18 #[.agg #[.int .i64 m.q, .int .i64 m.d0, .int .i64 m.d1, .int .i64 m.d2, .int .i64 m.d3, .int .i64 m.d4, .int .i64 m.d5, .int .i64 m.d6, .int .i64 m.d7, .int .i64 m.t, .int .i64 m.r, .int .i64 m.k, .int .i64 m.a0, .int .i64 m.a1, .int .i64 m.i0, .int .i64 m.i1, .int .i64 m.t0, .int .i64 m.t1, .string m.nm, .string m.nw, .int .i64 m.off, .string m.dt]] w fun e w' => e = .returned (.bool V) ∧ Below w.heap.size w w' := by
  have K0 := Hd.mk (Holds.start1 w (.cells #[.int .i64 m.q, .int .i64 m.d0, .int .i64 m.d1, .int .i64 m.d2, .int .i64 m.d3, .int .i64 m.d4, .int .i64 m.d5, .int .i64 m.d6, .int .i64 m.d7, .int .i64 m.t, .int .i64 m.r, .int .i64 m.k, .int .i64 m.a0, .int .i64 m.a1, .int .i64 m.i0, .int .i64 m.i1, .int .i64 m.t0, .int .i64 m.t1, .string m.nm, .string m.nw, .int .i64 m.off, .string m.dt] 34 (0, 0)))
  have HDR := Hd.mk hdr
  have g8 : (rr : Int) < 8 := by omega
  subst h0 h3
  have hq : wrap64 (m.q - 1) = m.q - 1 := by unfold wrap64; omega
  have hq2 : IntKind.i64.wrap (m.q - 1) = m.q - 1 := by rw [IntKind.wrap_i64]; omega
  have e1 : decide (1 ≤ m.q) = true := decide_eq_true h1
  have e2 : decide (m.q ≤ 1073741824) = true := decide_eq_true h2
  clear h1 h2
  clear hdr hr8
  go_enter Try.func18, Try.ntmps18
  go_upto_region 1 with (fail)
  refine world_gen _ K0.out (fun W hK => ?_)
  have K1 := Hd.mk hK
  clear hK K0
  refine start_ (n := 30) (S := fun W_ => Holds w [(w.heap.size, .cells #[.int .i64 m.q, .int .i64 m.d0, .int .i64 m.d1, .int .i64 m.d2, .int .i64 m.d3, .int .i64 m.d4, .int .i64 m.d5, .int .i64 m.d6, .int .i64 m.d7, .int .i64 m.t, .int .i64 m.r, .int .i64 m.k, .int .i64 m.a0, .int .i64 m.a1, .int .i64 m.i0, .int .i64 m.i1, .int .i64 m.t0, .int .i64 m.t1, .string m.nm, .string m.nw, .int .i64 m.off, .string m.dt] 34 (0, 0))] W_) (ds := []) #[false, false, false, false, false, false, false, false, false, false, false, false, false, false, false, false, false, false, false, false, false, false, false, false, false, false, false, false, false, false] (by kernel_rfl) rfl rfl (K1.out.drew) (fun hHeld => ?_)
  refine pure_ (i := 0) (N := some 3) (v := ?_) (a' := ?_) #[true, false, false, false, false, false, false, false, false, false, false, false, false, false, false, false, false, false, false, false, false, false, false, false, false, false, false, false, false, false] rfl rfl (by kernel_rfl) (fun _ _ _ h => h) (Or.inl ⟨by rfl, ?_⟩) ?_ ?_
  rotate_left
  · intro w_
    go_simp
    try with_reducible rfl
  rotate_left
  · simp only [Act.put, List.setIfInBounds_toArray, List.set_cons_zero, List.set_cons_succ]
    rfl
  refine take_ (i := 1) (N := some 4) (v := .agg #[.int .i64 m.t, .int .i64 m.r, .int .i64 m.k, .int .i64 m.a0, .int .i64 m.a1, .int .i64 m.i0, .int .i64 m.i1, .int .i64 m.t0, .int .i64 m.t1, .string m.nm, .string m.nw, .int .i64 m.off, .string m.dt]) (a' := ?_) #[true, true, false, false, false, false, false, false, false, false, false, false, false, false, false, false, false, false, false, false, false, false, false, false, false, false, false, false, false, false] rfl rfl (by kernel_rfl) (fun _ _ _ h => h) (Or.inl ⟨by rfl, fun w' h => run_load_mid 32 _ rfl w.heap.size 9 #[.int .i64 m.t, .int .i64 m.r, .int .i64 m.k, .int .i64 m.a0, .int .i64 m.a1, .int .i64 m.i0, .int .i64 m.i1, .int .i64 m.t0, .int .i64 m.t1, .string m.nm, .string m.nw, .int .i64 m.off, .string m.dt].toList rfl _ _ _ (h.get 0 rfl) (fun j v hj => by simpa [Nat.add_comm] using hj) _ Try.underlying32 rfl size_opM⟩) hHeld ?_ ?_
  rotate_left
  · simp only [Act.put, List.setIfInBounds_toArray, List.set_cons_zero, List.set_cons_succ]
    rfl
  refine one_ (i := 2) (N := some 5) #[true, true, true, false, false, false, false, false, false, false, false, false, false, false, false, false, false, false, false, false, false, false, false, false, false, false, false, false, false, false] rfl rfl (by kernel_rfl) (by decide) (fun K hK => ?_)
  refine goes_ Try.func32 (by kernel_rfl) rfl #[.agg #[.int .i64 m.t, .int .i64 m.r, .int .i64 m.k, .int .i64 m.a0, .int .i64 m.a1, .int .i64 m.i0, .int .i64 m.i1, .int .i64 m.t0, .int .i64 m.t1, .string m.nm, .string m.nw, .int .i64 m.off, .string m.dt]] (by rfl) rfl rfl (by (try simp only [List.map_toArray, List.map_cons, List.map_nil]); first | done | rfl) ?_
  (with_reducible refine (HO.out _).mono ?_)
  rintro e wr13 ⟨rfl, hr13⟩
  refine ⟨_, rfl, ?_⟩
  refine hK.out _ _ (hHeld.call hr13) (fun hHeld => ?_)
  clear hK K
  refine norm_ (a' := ?_) ?_ ?_
  rotate_left
  · show Act.put _ (some 5) _ = _
    simp only [Act.put, List.setIfInBounds_toArray, List.set_cons_zero, List.set_cons_succ]
    rfl
  refine pure_ (i := 3) (N := some 6) (v := ?_) (a' := ?_) #[true, true, true, true, false, false, false, false, false, false, false, false, false, false, false, false, false, false, false, false, false, false, false, false, false, false, false, false, false, false] rfl rfl (by kernel_rfl) (fun _ _ _ h => h) (Or.inl ⟨by rfl, ?_⟩) ?_ ?_
  rotate_left
  · intro w_
    go_simp
    try with_reducible rfl
  rotate_left
  · simp only [Act.put, List.setIfInBounds_toArray, List.set_cons_zero, List.set_cons_succ]
    rfl
  refine pure_ (i := 4) (N := some 7) (v := ?_) (a' := ?_) #[true, true, true, true, true, false, false, false, false, false, false, false, false, false, false, false, false, false, false, false, false, false, false, false, false, false, false, false, false, false] rfl rfl (by kernel_rfl) (fun _ _ _ h => h) (Or.inl ⟨by rfl, ?_⟩) ?_ ?_
  rotate_left
  · intro w_
    go_simp
    try with_reducible rfl
  rotate_left
  · simp only [Act.put, List.setIfInBounds_toArray, List.set_cons_zero, List.set_cons_succ]
    rfl
  refine take_ (i := 5) (N := some 8) (v := .int .i64 m.q) (a' := ?_) #[true, true, true, true, true, true, false, false, false, false, false, false, false, false, false, false, false, false, false, false, false, false, false, false, false, false, false, false, false, false] rfl rfl (by kernel_rfl) (fun _ _ _ h => h) (Or.inl ⟨by rfl, fun w' h => by have c := cell_of_row w' _ 0 _ _ _ (h.get 0 rfl); go_simp⟩) hHeld ?_ ?_
  rotate_left
  · simp only [Act.put, List.setIfInBounds_toArray, List.set_cons_zero, List.set_cons_succ]
    rfl
  refine pure_ (i := 6) (N := some 9) (v := ?_) (a' := ?_) #[true, true, true, true, true, true, true, false, false, false, false, false, false, false, false, false, false, false, false, false, false, false, false, false, false, false, false, false, false, false] rfl rfl (by kernel_rfl) (fun _ _ _ h => h) (Or.inl ⟨by rfl, ?_⟩) ?_ ?_
  rotate_left
  · intro w_
    go_simp
    try with_reducible rfl
  rotate_left
  · simp only [Act.put, List.setIfInBounds_toArray, List.set_cons_zero, List.set_cons_succ]
    rfl
  refine pure_ (i := 7) (N := some 10) (v := ?_) (a' := ?_) #[true, true, true, true, true, true, true, true, false, false, false, false, false, false, false, false, false, false, false, false, false, false, false, false, false, false, false, false, false, false] rfl rfl (by kernel_rfl) (fun _ _ _ h => h) (Or.inl ⟨by rfl, ?_⟩) ?_ ?_
  rotate_left
  · intro w_
    go_simp
    try with_reducible rfl
  rotate_left
  · simp only [Act.put, List.setIfInBounds_toArray, List.set_cons_zero, List.set_cons_succ]
    rfl
  refine pure_ (i := 8) (N := some 11) (v := ?_) (a' := ?_) #[true, true, true, true, true, true, true, true, true, false, false, false, false, false, false, false, false, false, false, false, false, false, false, false, false, false, false, false, false, false] rfl rfl (by kernel_rfl) (fun _ _ _ h => h) (Or.inl ⟨by rfl, ?_⟩) ?_ ?_
  rotate_left
  · intro w_
    go_simp
    try with_reducible rfl
  rotate_left
  · simp only [Act.put, List.setIfInBounds_toArray, List.set_cons_zero, List.set_cons_succ]
    rfl
  refine pure_ (i := 9) (N := some 12) (v := ?_) (a' := ?_) #[true, true, true, true, true, true, true, true, true, true, false, false, false, false, false, false, false, false, false, false, false, false, false, false, false, false, false, false, false, false] rfl rfl (by kernel_rfl) (fun _ _ _ h => h) (Or.inl ⟨by rfl, ?_⟩) ?_ ?_
  rotate_left
  · intro w_
    go_simp
    try with_reducible rfl
  rotate_left
  · simp only [Act.put, List.setIfInBounds_toArray, List.set_cons_zero, List.set_cons_succ]
    rfl
  refine take_ (i := 10) (N := some 13) (v := .int .i64 m.q) (a' := ?_) #[true, true, true, true, true, true, true, true, true, true, true, false, false, false, false, false, false, false, false, false, false, false, false, false, false, false, false, false, false, false] rfl rfl (by kernel_rfl) (fun _ _ _ h => h) (Or.inl ⟨by rfl, fun w' h => by have c := cell_of_row w' _ 0 _ _ _ (h.get 0 rfl); go_simp⟩) hHeld ?_ ?_
  rotate_left
  · simp only [Act.put, List.setIfInBounds_toArray, List.set_cons_zero, List.set_cons_succ]
    rfl
  refine pure_ (i := 11) (N := some 14) (v := ?_) (a' := ?_) #[true, true, true, true, true, true, true, true, true, true, true, true, false, false, false, false, false, false, false, false, false, false, false, false, false, false, false, false, false, false] rfl rfl (by kernel_rfl) (fun _ _ _ h => h) (Or.inl ⟨by rfl, ?_⟩) ?_ ?_
  rotate_left
  · intro w_
    go_simp
    try with_reducible rfl
  rotate_left
  · simp only [Act.put, List.setIfInBounds_toArray, List.set_cons_zero, List.set_cons_succ]
    rfl
  refine pure_ (i := 12) (N := some 15) (v := ?_) (a' := ?_) #[true, true, true, true, true, true, true, true, true, true, true, true, true, false, false, false, false, false, false, false, false, false, false, false, false, false, false, false, false, false] rfl rfl (by kernel_rfl) (fun _ _ _ h => h) (Or.inl ⟨by rfl, ?_⟩) ?_ ?_
  rotate_left
  · intro w_
    go_simp
    try with_reducible rfl
  rotate_left
  · simp only [Act.put, List.setIfInBounds_toArray, List.set_cons_zero, List.set_cons_succ]
    rfl
  refine pure_ (i := 13) (N := some 16) (v := ?_) (a' := ?_) #[true, true, true, true, true, true, true, true, true, true, true, true, true, true, false, false, false, false, false, false, false, false, false, false, false, false, false, false, false, false] rfl rfl (by kernel_rfl) (fun _ _ _ h => h) (Or.inl ⟨by rfl, ?_⟩) ?_ ?_
  rotate_left
  · intro w_
    go_simp
    try with_reducible rfl
  rotate_left
  · simp only [Act.put, List.setIfInBounds_toArray, List.set_cons_zero, List.set_cons_succ]
    rfl
  refine pure_ (i := 14) (N := some 17) (v := ?_) (a' := ?_) #[true, true, true, true, true, true, true, true, true, true, true, true, true, true, true, false, false, false, false, false, false, false, false, false, false, false, false, false, false, false] rfl rfl (by kernel_rfl) (fun _ _ _ h => h) (Or.inl ⟨by rfl, ?_⟩) ?_ ?_
  rotate_left
  · intro w_
    go_simp
    try with_reducible rfl
  rotate_left
  · simp only [Act.put, List.setIfInBounds_toArray, List.set_cons_zero, List.set_cons_succ]
    rfl
  refine take_ (i := 15) (N := some 18) (v := .agg [.int .i64 m.d0, .int .i64 m.d1, .int .i64 m.d2, .int .i64 m.d3, .int .i64 m.d4, .int .i64 m.d5, .int .i64 m.d6, .int .i64 m.d7].toArray) (a' := ?_) #[true, true, true, true, true, true, true, true, true, true, true, true, true, true, true, true, false, false, false, false, false, false, false, false, false, false, false, false, false, false] rfl rfl (by kernel_rfl) (fun _ _ _ h => h) (Or.inl ⟨by rfl, fun w' h => run_load_mid 27 _ rfl w.heap.size 1 [.int .i64 m.d0, .int .i64 m.d1, .int .i64 m.d2, .int .i64 m.d3, .int .i64 m.d4, .int .i64 m.d5, .int .i64 m.d6, .int .i64 m.d7] rfl _ _ _ (h.get 0 rfl) (eight_at rfl rfl rfl rfl rfl rfl rfl rfl) _ Try.underlying27 rfl size_vecM⟩) hHeld ?_ ?_
  rotate_left
  · simp only [Act.put, List.setIfInBounds_toArray, List.set_cons_zero, List.set_cons_succ]
    rfl
  refine one_ (i := 16) (N := some 19) #[true, true, true, true, true, true, true, true, true, true, true, true, true, true, true, true, true, false, false, false, false, false, false, false, false, false, false, false, false, false] rfl rfl (by kernel_rfl) (by decide) (fun K hK => ?_)
  refine goes_ Try.func15 (by kernel_rfl) rfl #[.agg [.int .i64 m.d0, .int .i64 m.d1, .int .i64 m.d2, .int .i64 m.d3, .int .i64 m.d4, .int .i64 m.d5, .int .i64 m.d6, .int .i64 m.d7].toArray] (by rfl) rfl rfl (by (try simp only [List.map_toArray, List.map_cons, List.map_nil]); first | done | rfl) ?_
  (with_reducible refine (HVM.out _).mono ?_)
  rintro e wr14 ⟨rfl, hr14⟩
  refine ⟨_, rfl, ?_⟩
  refine hK.out _ _ (hHeld.call hr14) (fun hHeld => ?_)
  clear hK K
  refine norm_ (a' := ?_) ?_ ?_
  rotate_left
  · show Act.put _ (some 19) _ = _
    simp only [Act.put, List.setIfInBounds_toArray, List.set_cons_zero, List.set_cons_succ]
    rfl
  refine pure_ (i := 17) (N := some 20) (v := ?_) (a' := ?_) #[true, true, true, true, true, true, true, true, true, true, true, true, true, true, true, true, true, true, false, false, false, false, false, false, false, false, false, false, false, false] rfl rfl (by kernel_rfl) (fun _ _ _ h => h) (Or.inl ⟨by rfl, ?_⟩) ?_ ?_
  rotate_left
  · intro w_
    go_simp
    try with_reducible rfl
  rotate_left
  · simp only [Act.put, List.setIfInBounds_toArray, List.set_cons_zero, List.set_cons_succ]
    rfl
  refine pure_ (i := 18) (N := some 21) (v := ?_) (a' := ?_) #[true, true, true, true, true, true, true, true, true, true, true, true, true, true, true, true, true, true, true, false, false, false, false, false, false, false, false, false, false, false] rfl rfl (by kernel_rfl) (fun _ _ _ h => h) (Or.inl ⟨by rfl, ?_⟩) ?_ ?_
  rotate_left
  · intro w_
    go_simp
    try with_reducible rfl
  rotate_left
  · simp only [Act.put, List.setIfInBounds_toArray, List.set_cons_zero, List.set_cons_succ]
    rfl
  refine take_ (i := 19) (N := some 22) (v := .agg #[.int .i64 m.q, .int .i64 m.d0, .int .i64 m.d1, .int .i64 m.d2, .int .i64 m.d3, .int .i64 m.d4, .int .i64 m.d5, .int .i64 m.d6, .int .i64 m.d7, .int .i64 m.t, .int .i64 m.r, .int .i64 m.k, .int .i64 m.a0, .int .i64 m.a1, .int .i64 m.i0, .int .i64 m.i1, .int .i64 m.t0, .int .i64 m.t1, .string m.nm, .string m.nw, .int .i64 m.off, .string m.dt]) (a' := ?_) #[true, true, true, true, true, true, true, true, true, true, true, true, true, true, true, true, true, true, true, true, false, false, false, false, false, false, false, false, false, false] rfl rfl (by kernel_rfl) (fun _ _ _ h => h) (Or.inl ⟨by rfl, fun w' h => run_load_mid 34 _ rfl w.heap.size 0 #[.int .i64 m.q, .int .i64 m.d0, .int .i64 m.d1, .int .i64 m.d2, .int .i64 m.d3, .int .i64 m.d4, .int .i64 m.d5, .int .i64 m.d6, .int .i64 m.d7, .int .i64 m.t, .int .i64 m.r, .int .i64 m.k, .int .i64 m.a0, .int .i64 m.a1, .int .i64 m.i0, .int .i64 m.i1, .int .i64 m.t0, .int .i64 m.t1, .string m.nm, .string m.nw, .int .i64 m.off, .string m.dt].toList rfl _ _ _ (h.get 0 rfl) (fun j v hj => by simpa using hj) _ Try.underlying34 rfl size_msg⟩) hHeld ?_ ?_
  rotate_left
  · simp only [Act.put, List.setIfInBounds_toArray, List.set_cons_zero, List.set_cons_succ]
    rfl
  refine pure_ (i := 21) (N := some 24) (v := ?_) (a' := ?_) #[true, true, true, true, true, true, true, true, true, true, true, true, true, true, true, true, true, true, true, true, false, true, false, false, false, false, false, false, false, false] rfl rfl (by kernel_rfl) (fun _ _ _ h => h) (Or.inl ⟨by rfl, ?_⟩) ?_ ?_
  rotate_left
  · intro w_
    go_simp
    try with_reducible rfl
  rotate_left
  · simp only [Act.put, List.setIfInBounds_toArray, List.set_cons_zero, List.set_cons_succ]
    rfl
  refine pure_ (i := 24) (N := some 27) (v := ?_) (a' := ?_) #[true, true, true, true, true, true, true, true, true, true, true, true, true, true, true, true, true, true, true, true, false, true, false, false, true, false, false, false, false, false] rfl rfl (by kernel_rfl) (fun _ _ _ h => h) (Or.inl ⟨by rfl, ?_⟩) ?_ ?_
  rotate_left
  · intro w_
    go_simp
    try with_reducible rfl
  rotate_left
  · simp only [Act.put, List.setIfInBounds_toArray, List.set_cons_zero, List.set_cons_succ]
    rfl
  refine take_ (i := 25) (N := some 28) (v := .int .i64 m.q) (a' := ?_) #[true, true, true, true, true, true, true, true, true, true, true, true, true, true, true, true, true, true, true, true, false, true, false, false, true, true, false, false, false, false] rfl rfl (by kernel_rfl) (fun _ _ _ h => h) (Or.inl ⟨by rfl, fun w' h => by have c := cell_of_row w' _ 0 _ _ _ (h.get 0 rfl); go_simp⟩) hHeld ?_ ?_
  rotate_left
  · simp only [Act.put, List.setIfInBounds_toArray, List.set_cons_zero, List.set_cons_succ]
    rfl
  refine pure_ (i := 26) (N := some 29) (v := ?_) (a' := ?_) #[true, true, true, true, true, true, true, true, true, true, true, true, true, true, true, true, true, true, true, true, false, true, false, false, true, true, true, false, false, false] rfl rfl (by kernel_rfl) (fun _ _ _ h => h) (Or.inl ⟨by rfl, ?_⟩) ?_ ?_
  rotate_left
  · intro w_
    go_simp
    try with_reducible rfl
  rotate_left
  · simp only [Act.put, List.setIfInBounds_toArray, List.set_cons_zero, List.set_cons_succ]
    rfl
  refine one_ (i := 20) (N := some 23) #[true, true, true, true, true, true, true, true, true, true, true, true, true, true, true, true, true, true, true, true, true, true, false, false, true, true, true, false, false, false] rfl rfl (by kernel_rfl) (by decide) (fun K hK => ?_)
  refine goes_ Try.func17 (by kernel_rfl) rfl #[.agg #[.int .i64 m.q, .int .i64 m.d0, .int .i64 m.d1, .int .i64 m.d2, .int .i64 m.d3, .int .i64 m.d4, .int .i64 m.d5, .int .i64 m.d6, .int .i64 m.d7, .int .i64 m.t, .int .i64 m.r, .int .i64 m.k, .int .i64 m.a0, .int .i64 m.a1, .int .i64 m.i0, .int .i64 m.i1, .int .i64 m.t0, .int .i64 m.t1, .string m.nm, .string m.nw, .int .i64 m.off, .string m.dt]] (by rfl) rfl rfl (by (try simp only [List.map_toArray, List.map_cons, List.map_nil]); first | done | rfl) ?_
  (with_reducible refine (HR.out _).mono ?_)
  rintro e wr15 ⟨rfl, hr15⟩
  refine ⟨_, rfl, ?_⟩
  refine hK.out _ _ (hHeld.call hr15) (fun hHeld => ?_)
  clear hK K
  refine norm_ (a' := ?_) ?_ ?_
  rotate_left
  · show Act.put _ (some 23) _ = _
    simp only [Act.put, List.setIfInBounds_toArray, List.set_cons_zero, List.set_cons_succ]
    rfl
  refine pure_ (i := 22) (N := some 25) (v := ?_) (a' := ?_) #[true, true, true, true, true, true, true, true, true, true, true, true, true, true, true, true, true, true, true, true, true, true, true, false, true, true, true, false, false, false] rfl rfl (by kernel_rfl) (fun _ _ _ h => h) (Or.inl ⟨by rfl, ?_⟩) ?_ ?_
  rotate_left
  · intro w_
    go_simp
    try with_reducible rfl
  rotate_left
  · simp only [Act.put, List.setIfInBounds_toArray, List.set_cons_zero, List.set_cons_succ]
    rfl
  refine take_ (i := 23) (N := some 26) (v := .int .i64 dr) (a' := ?_) #[true, true, true, true, true, true, true, true, true, true, true, true, true, true, true, true, true, true, true, true, true, true, true, true, true, true, true, false, false, false] rfl rfl (by kernel_rfl) (fun _ _ _ h => h) (Or.inl ⟨by rfl, fun w' h => by have c : w'.cell? ⟨w.heap.size, 1 + rr, none⟩ = some (.int .i64 dr) := (cell_of_row w' _ _ _ _ _ (h.get 0 rfl)).trans HDR.out; go_simp⟩) hHeld ?_ ?_
  rotate_left
  · simp only [Act.put, List.setIfInBounds_toArray, List.set_cons_zero, List.set_cons_succ]
    rfl
  refine pure_ (i := 27) (N := some 30) (v := ?_) (a' := ?_) #[true, true, true, true, true, true, true, true, true, true, true, true, true, true, true, true, true, true, true, true, true, true, true, true, true, true, true, true, false, false] rfl rfl (by kernel_rfl) (fun _ _ _ h => h) (Or.inl ⟨by rfl, ?_⟩) ?_ ?_
  rotate_left
  · intro w_
    go_simp
    try with_reducible rfl
  rotate_left
  · simp only [Act.put, List.setIfInBounds_toArray, List.set_cons_zero, List.set_cons_succ]
    rfl
  refine pure_ (i := 28) (N := some 31) (v := ?_) (a' := ?_) #[true, true, true, true, true, true, true, true, true, true, true, true, true, true, true, true, true, true, true, true, true, true, true, true, true, true, true, true, true, false] rfl rfl (by kernel_rfl) (fun _ _ _ h => h) (Or.inl ⟨by rfl, ?_⟩) ?_ ?_
  rotate_left
  · intro w_
    go_simp
    try with_reducible rfl
  rotate_left
  · simp only [Act.put, List.setIfInBounds_toArray, List.set_cons_zero, List.set_cons_succ]
    rfl
  refine pure_ (i := 29) (N := some 2) (v := ?_) (a' := ?_) #[true, true, true, true, true, true, true, true, true, true, true, true, true, true, true, true, true, true, true, true, true, true, true, true, true, true, true, true, true, true] rfl rfl (by kernel_rfl) (fun _ _ _ h => h) (Or.inl ⟨by rfl, ?_⟩) ?_ ?_
  rotate_left
  · intro w_
    go_simp
    try with_reducible rfl
  rotate_left
  · simp only [Act.put, List.setIfInBounds_toArray, List.set_cons_zero, List.set_cons_succ]
    rfl
  refine done_ (by kernel_rfl) ?_
  go_wp2_with fail
  go_ret
  exact ⟨by rw [HV.out]; first | rfl | (simp [*]; done) | (simp; done), hHeld.2⟩
theorem deps_at (m : MsgV) {rr : Nat} (h : rr < 8) : (#[.int .i64 m.q, .int .i64 m.d0, .int .i64 m.d1, .int .i64 m.d2, .int .i64 m.d3, .int .i64 m.d4, .int .i64 m.d5, .int .i64 m.d6, .int .i64 m.d7, .int .i64 m.t, .int .i64 m.r, .int .i64 m.k, .int .i64 m.a0, .int .i64 m.a1, .int .i64 m.i0, .int .i64 m.i1, .int .i64 m.t0, .int .i64 m.t1, .string m.nm, .string m.nw, .int .i64 m.off, .string m.dt] : Array Value)[1 + rr]? = some (.int .i64 (m.deps.getD rr 0)) := by
  match rr, h with
  | 0, _ => rfl
  | 1, _ => rfl
  | 2, _ => rfl
  | 3, _ => rfl
  | 4, _ => rfl
  | 5, _ => rfl
  | 6, _ => rfl
  | 7, _ => rfl
theorem msg_May (m : MsgV) (hd : m.dt.size ≤ 140737488355328) (w : World) : Calls Try.prog 18 #[.agg #[.int .i64 m.q, .int .i64 m.d0, .int .i64 m.d1, .int .i64 m.d2, .int .i64 m.d3, .int .i64 m.d4, .int .i64 m.d5, .int .i64 m.d6, .int .i64 m.d7, .int .i64 m.t, .int .i64 m.r, .int .i64 m.k, .int .i64 m.a0, .int .i64 m.a1, .int .i64 m.i0, .int .i64 m.i1, .int .i64 m.t0, .int .i64 m.t1, .string m.nm, .string m.nw, .int .i64 m.off, .string m.dt]] w fun e w' => e = .returned (.bool m.fine) ∧ Below w.heap.size w w' := by
  have HO : Hd (∀ w, Calls Try.prog 32 #[.agg #[.int .i64 m.t, .int .i64 m.r, .int .i64 m.k, .int .i64 m.a0, .int .i64 m.a1, .int .i64 m.i0, .int .i64 m.i1, .int .i64 m.t0, .int .i64 m.t1, .string m.nm, .string m.nw, .int .i64 m.off, .string m.dt]] w fun e w' => e = .returned (.bool m.may) ∧ Below w.heap.size w w') := ⟨op_May m.t m.r m.k m.a0 m.a1 m.i0 m.i1 m.t0 m.t1 m.nm m.nw m.off m.dt hd⟩
  have HV : Hd (∀ w, Calls Try.prog 15 #[.agg [.int .i64 m.d0, .int .i64 m.d1, .int .i64 m.d2, .int .i64 m.d3, .int .i64 m.d4, .int .i64 m.d5, .int .i64 m.d6, .int .i64 m.d7].toArray] w fun e w' => e = .returned (.bool (mayV m.deps)) ∧ Below w.heap.size w w') := ⟨fun w => vec_May m.deps rfl w⟩
  by_cases h0 : m.may = true
  · obtain ⟨rr, hr8, hr⟩ := may_rep h0
    have HR : Hd (∀ w, Calls Try.prog 17 #[.agg #[.int .i64 m.q, .int .i64 m.d0, .int .i64 m.d1, .int .i64 m.d2, .int .i64 m.d3, .int .i64 m.d4, .int .i64 m.d5, .int .i64 m.d6, .int .i64 m.d7, .int .i64 m.t, .int .i64 m.r, .int .i64 m.k, .int .i64 m.a0, .int .i64 m.a1, .int .i64 m.i0, .int .i64 m.i1, .int .i64 m.t0, .int .i64 m.t1, .string m.nm, .string m.nw, .int .i64 m.off, .string m.dt]] w fun e w' => e = .returned (.int .i64 (rr : Int)) ∧ Below w.heap.size w w') := ⟨fun w => by rw [← hr]; exact msg_rep m w⟩
    have hn : m.r.toNat = rr := by omega
    by_cases h1 : 1 ≤ m.q
    · by_cases h2 : m.q ≤ 1073741824
      · cases h3 : mayV m.deps with
        | false => exact cmay_deps m _ _ _ rr w (deps_at m hr8) hr8 HO HV HR _ ⟨by unfold MsgV.fine; rw [h0, h3]; simp⟩ h0 h1 h2 h3
        | true => exact cmay_all m _ _ _ rr w (deps_at m hr8) hr8 HO HV HR _ ⟨by unfold MsgV.fine; rw [h0, h3, hn, decide_eq_true h1, decide_eq_true h2]; simp⟩ h0 h1 h2 h3
      · exact cmay_high m _ _ _ rr w (deps_at m hr8) hr8 HO HV HR _ ⟨by unfold MsgV.fine; rw [decide_eq_false h2]; simp⟩ h0 h1 h2
    · exact cmay_low m _ _ _ rr w (deps_at m hr8) hr8 HO HV HR _ ⟨by unfold MsgV.fine; rw [decide_eq_false h1]; simp⟩ h0 h1
  · have h0 : m.may = false := by simpa using h0
    exact cmay_op m _ _ w HO HV _ ⟨by unfold MsgV.fine; rw [h0]; rfl⟩ h0
end Go.Proofs.Ytcgkkjfbdappoaa
