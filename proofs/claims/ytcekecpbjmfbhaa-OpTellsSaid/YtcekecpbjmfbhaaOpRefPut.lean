/- The document's Put of an operation. -/
import Derived.Test.YtcekecpbjmfbhaaOpRef0
namespace Go.Proofs.Ytcekecpbjmfbhaa
open Go.RowKit Go.Proofs.YtcekecpbjmfbhaaW.PrintWords Go.Proofs.YtcekecpbjmfbhaaW.PrintLast Go.Proofs.YtcekecpbjmfbhaaW.PrintMore Pk
set_option linter.unusedVariables false
set_option linter.unusedSimpArgs false

set_option maxHeartbeats 4000000 in
set_option maxRecDepth 100000 in
theorem refPut_walk (t r k a0 a1 i0 i1 t0 t1 off : Int) (nm nw dt : ByteArray) (kI p1 p2 p3 p4 s1 s2 oI s3 : ByteArray) (w : World) (hz : kI.size ≤ 10 ∧ p1.size ≤ 20 ∧ p2.size ≤ 20 ∧ p3.size ≤ 20 ∧ p4.size ≤ 20 ∧ s1.size ≤ 140737488355400 ∧ s2.size ≤ 140737488355400 ∧ oI.size ≤ 10 ∧ s3.size ≤ 140737488355400)
    (HI : Hd (∀ w, Calls Try.prog 62 #[.int .i64 k] w fun e w' => e = .returned (.string kI) ∧ Below w.heap.size w w'))
    (H1 : Hd (∀ w, Calls Try.prog 63 #[.agg #[.int .i64 t, .int .i64 r]] w fun e w' => e = .returned (.string p1) ∧ Below w.heap.size w w'))
    (H2 : Hd (∀ w, Calls Try.prog 63 #[.agg #[.int .i64 a0, .int .i64 a1]] w fun e w' => e = .returned (.string p2) ∧ Below w.heap.size w w'))
    (H3 : Hd (∀ w, Calls Try.prog 63 #[.agg #[.int .i64 i0, .int .i64 i1]] w fun e w' => e = .returned (.string p3) ∧ Below w.heap.size w w'))
    (H4 : Hd (∀ w, Calls Try.prog 63 #[.agg #[.int .i64 t0, .int .i64 t1]] w fun e w' => e = .returned (.string p4) ∧ Below w.heap.size w w'))
    (HN : Hd (∀ w, Calls Try.prog 40 #[.string nm] w fun e w' => e = .returned (.string s1) ∧ Below w.heap.size w w'))
    (HW : Hd (∀ w, Calls Try.prog 40 #[.string nw] w fun e w' => e = .returned (.string s2) ∧ Below w.heap.size w w'))
    (HO : Hd (∀ w, Calls Try.prog 62 #[.int .i64 off] w fun e w' => e = .returned (.string oI) ∧ Below w.heap.size w w'))
    (HD : Hd (∀ w, Calls Try.prog 40 #[.string dt] w fun e w' => e = .returned (.string s3) ∧ Below w.heap.size w w')) :
    Calls Try.prog 35 #[.agg #[.int .i64 t, .int .i64 r, .int .i64 k, .int .i64 a0, .int .i64 a1, .int .i64 i0, .int .i64 i1, .int .i64 t0, .int .i64 t1, .string nm, .string nw, .int .i64 off, .string dt]] w fun e w' => e = .returned (.string (kI ++ p1 ++ p2 ++ p3 ++ p4 ++ s1 ++ s2 ++ oI ++ s3)) ∧ Below w.heap.size w w' := by
  have K0 := Hd.mk (Holds.start1 w (.cells #[.int .i64 t, .int .i64 r, .int .i64 k, .int .i64 a0, .int .i64 a1, .int .i64 i0, .int .i64 i1, .int .i64 t0, .int .i64 t1, .string nm, .string nw, .int .i64 off, .string dt] 50 (0, 0)))
  obtain ⟨z0, z1, z2, z3, z4, z5, z6, z7, z8⟩ := hz
  obtain ⟨x1, hx1⟩ : ∃ x, x = kI ++ p1 := ⟨_, rfl⟩
  obtain ⟨x2, hx2⟩ : ∃ x, x = x1 ++ p2 := ⟨_, rfl⟩
  obtain ⟨x3, hx3⟩ : ∃ x, x = x2 ++ p3 := ⟨_, rfl⟩
  obtain ⟨x4, hx4⟩ : ∃ x, x = x3 ++ p4 := ⟨_, rfl⟩
  have q1 : x1.size = kI.size + p1.size := by rw [hx1, size_app]
  have q2 : x2.size = x1.size + p2.size := by rw [hx2, size_app]
  have q3 : x3.size = x2.size + p3.size := by rw [hx3, size_app]
  have q4 : x4.size = x3.size + p4.size := by rw [hx4, size_app]
  have m1 : kI.size + p1.size ≤ 9223372036854775807 := by omega
  have m2 : x1.size + p2.size ≤ 9223372036854775807 := by omega
  have m3 : x2.size + p3.size ≤ 9223372036854775807 := by omega
  have m4 : x3.size + p4.size ≤ 9223372036854775807 := by omega
  have m5 : x4.size + s1.size ≤ 9223372036854775807 := by omega
  have m6 : x4.size + s1.size + s2.size ≤ 9223372036854775807 := by omega
  have m7 : x4.size + s1.size + s2.size + oI.size ≤ 9223372036854775807 := by omega
  have m8 : x4.size + s1.size + s2.size + oI.size + s3.size ≤ 9223372036854775807 := by omega
  have HX4 := Hd.mk (show x4 = kI ++ p1 ++ p2 ++ p3 ++ p4 by rw [hx4, hx3, hx2, hx1])
  have y1 : (9223372036854775807 < kI.size + p1.size) = False := eq_false (Nat.not_lt.2 m1)
  have y2 : (9223372036854775807 < kI.size + p1.size + p2.size) = False := eq_false (Nat.not_lt.2 (by omega))
  have y3 : (9223372036854775807 < kI.size + p1.size + p2.size + p3.size) = False := eq_false (Nat.not_lt.2 (by omega))
  have y4 : (9223372036854775807 < kI.size + p1.size + p2.size + p3.size + p4.size) = False := eq_false (Nat.not_lt.2 (by omega))
  clear q1 q2 q3 q4 hx1 hx2 hx3 hx4 z0 z1 z2 z3 z4 z5 z6 z7 z8
  go_enter Try.func35, Try.ntmps35
  go_upto_region 1 with (fail)
  refine world_gen _ K0.out (fun W hK => ?_)
  have K1 := Hd.mk hK
  clear hK K0
  refine start_ (n := 20) (S := fun W_ => Holds w [(w.heap.size, .cells #[.int .i64 t, .int .i64 r, .int .i64 k, .int .i64 a0, .int .i64 a1, .int .i64 i0, .int .i64 i1, .int .i64 t0, .int .i64 t1, .string nm, .string nw, .int .i64 off, .string dt] 50 (0, 0))] W_) (ds := []) #[false, false, false, false, false, false, false, false, false, false, false, false, false, false, false, false, false, false, false, false] (by kernel_rfl) rfl rfl (K1.out.drew) (fun hHeld => ?_)
  refine pure_ (i := 0) (N := some 4) (v := ?_) (a' := ?_) #[true, false, false, false, false, false, false, false, false, false, false, false, false, false, false, false, false, false, false, false] rfl rfl (by kernel_rfl) (fun _ _ _ h => h) (Or.inl ⟨by rfl, ?_⟩) ?_ ?_
  rotate_left
  · intro w_
    go_simp
    try with_reducible rfl
  rotate_left
  · simp only [Act.put, List.setIfInBounds_toArray, List.set_cons_zero, List.set_cons_succ]
    rfl
  refine take_ (i := 1) (N := some 5) (v := .int .i64 k) (a' := ?_) #[true, true, false, false, false, false, false, false, false, false, false, false, false, false, false, false, false, false, false, false] rfl rfl (by kernel_rfl) (fun _ _ _ h => h) (Or.inl ⟨by rfl, fun w' h => by have c := cell_of_row w' _ 2 _ _ _ (h.get 0 rfl); go_simp⟩) hHeld ?_ ?_
  rotate_left
  · simp only [Act.put, List.setIfInBounds_toArray, List.set_cons_zero, List.set_cons_succ]
    rfl
  refine pure_ (i := 3) (N := some 7) (v := ?_) (a' := ?_) #[true, true, false, true, false, false, false, false, false, false, false, false, false, false, false, false, false, false, false, false] rfl rfl (by kernel_rfl) (fun _ _ _ h => h) (Or.inl ⟨by rfl, ?_⟩) ?_ ?_
  rotate_left
  · intro w_
    go_simp
    try with_reducible rfl
  rotate_left
  · simp only [Act.put, List.setIfInBounds_toArray, List.set_cons_zero, List.set_cons_succ]
    rfl
  refine take_ (i := 4) (N := some 8) (v := .agg #[.int .i64 t, .int .i64 r]) (a' := ?_) #[true, true, false, true, true, false, false, false, false, false, false, false, false, false, false, false, false, false, false, false] rfl rfl (by kernel_rfl) (fun _ _ _ h => h) (Or.inl ⟨by rfl, fun w' h => run_load_mid 48 _ rfl w.heap.size 0 [.int .i64 t, .int .i64 r] rfl _ _ _ (h.get 0 rfl) (two_at rfl rfl) _ Try.underlying48 rfl size_stamp⟩) hHeld ?_ ?_
  rotate_left
  · simp only [Act.put, List.setIfInBounds_toArray, List.set_cons_zero, List.set_cons_succ]
    rfl
  refine pure_ (i := 7) (N := some 11) (v := ?_) (a' := ?_) #[true, true, false, true, true, false, false, true, false, false, false, false, false, false, false, false, false, false, false, false] rfl rfl (by kernel_rfl) (fun _ _ _ h => h) (Or.inl ⟨by rfl, ?_⟩) ?_ ?_
  rotate_left
  · intro w_
    go_simp
    try with_reducible rfl
  rotate_left
  · simp only [Act.put, List.setIfInBounds_toArray, List.set_cons_zero, List.set_cons_succ]
    rfl
  refine take_ (i := 8) (N := some 12) (v := .agg #[.int .i64 a0, .int .i64 a1]) (a' := ?_) #[true, true, false, true, true, false, false, true, true, false, false, false, false, false, false, false, false, false, false, false] rfl rfl (by kernel_rfl) (fun _ _ _ h => h) (Or.inl ⟨by rfl, fun w' h => run_load_mid 48 _ rfl w.heap.size 3 [.int .i64 a0, .int .i64 a1] rfl _ _ _ (h.get 0 rfl) (two_at rfl rfl) _ Try.underlying48 rfl size_stamp⟩) hHeld ?_ ?_
  rotate_left
  · simp only [Act.put, List.setIfInBounds_toArray, List.set_cons_zero, List.set_cons_succ]
    rfl
  refine pure_ (i := 11) (N := some 15) (v := ?_) (a' := ?_) #[true, true, false, true, true, false, false, true, true, false, false, true, false, false, false, false, false, false, false, false] rfl rfl (by kernel_rfl) (fun _ _ _ h => h) (Or.inl ⟨by rfl, ?_⟩) ?_ ?_
  rotate_left
  · intro w_
    go_simp
    try with_reducible rfl
  rotate_left
  · simp only [Act.put, List.setIfInBounds_toArray, List.set_cons_zero, List.set_cons_succ]
    rfl
  refine take_ (i := 12) (N := some 16) (v := .agg #[.int .i64 i0, .int .i64 i1]) (a' := ?_) #[true, true, false, true, true, false, false, true, true, false, false, true, true, false, false, false, false, false, false, false] rfl rfl (by kernel_rfl) (fun _ _ _ h => h) (Or.inl ⟨by rfl, fun w' h => run_load_mid 48 _ rfl w.heap.size 5 [.int .i64 i0, .int .i64 i1] rfl _ _ _ (h.get 0 rfl) (two_at rfl rfl) _ Try.underlying48 rfl size_stamp⟩) hHeld ?_ ?_
  rotate_left
  · simp only [Act.put, List.setIfInBounds_toArray, List.set_cons_zero, List.set_cons_succ]
    rfl
  refine pure_ (i := 15) (N := some 19) (v := ?_) (a' := ?_) #[true, true, false, true, true, false, false, true, true, false, false, true, true, false, false, true, false, false, false, false] rfl rfl (by kernel_rfl) (fun _ _ _ h => h) (Or.inl ⟨by rfl, ?_⟩) ?_ ?_
  rotate_left
  · intro w_
    go_simp
    try with_reducible rfl
  rotate_left
  · simp only [Act.put, List.setIfInBounds_toArray, List.set_cons_zero, List.set_cons_succ]
    rfl
  refine take_ (i := 16) (N := some 20) (v := .agg #[.int .i64 t0, .int .i64 t1]) (a' := ?_) #[true, true, false, true, true, false, false, true, true, false, false, true, true, false, false, true, true, false, false, false] rfl rfl (by kernel_rfl) (fun _ _ _ h => h) (Or.inl ⟨by rfl, fun w' h => run_load_mid 48 _ rfl w.heap.size 7 [.int .i64 t0, .int .i64 t1] rfl _ _ _ (h.get 0 rfl) (two_at rfl rfl) _ Try.underlying48 rfl size_stamp⟩) hHeld ?_ ?_
  rotate_left
  · simp only [Act.put, List.setIfInBounds_toArray, List.set_cons_zero, List.set_cons_succ]
    rfl
  refine one_ (i := 2) (N := some 6) #[true, true, true, true, true, false, false, true, true, false, false, true, true, false, false, true, true, false, false, false] rfl rfl (by kernel_rfl) (by decide) (fun K hK => ?_)
  refine goes_ Try.func62 (by kernel_rfl) rfl #[.int .i64 k] (by rfl) rfl rfl (by (try simp only [List.map_toArray, List.map_cons, List.map_nil]); first | done | rfl) ?_
  (with_reducible refine (HI.out _).mono ?_)
  rintro e wr1 ⟨rfl, hr1⟩
  refine ⟨_, rfl, ?_⟩
  refine hK.out _ _ (hHeld.call hr1) (fun hHeld => ?_)
  clear hK K
  refine norm_ (a' := ?_) ?_ ?_
  rotate_left
  · show Act.put _ (some 6) _ = _
    simp only [Act.put, List.setIfInBounds_toArray, List.set_cons_zero, List.set_cons_succ]
    rfl
  refine one_ (i := 5) (N := some 9) #[true, true, true, true, true, true, false, true, true, false, false, true, true, false, false, true, true, false, false, false] rfl rfl (by kernel_rfl) (by decide) (fun K hK => ?_)
  refine goes_ Try.func63 (by kernel_rfl) rfl #[.agg #[.int .i64 t, .int .i64 r]] (by rfl) rfl rfl (by (try simp only [List.map_toArray, List.map_cons, List.map_nil]); first | done | rfl) ?_
  (with_reducible refine (H1.out _).mono ?_)
  rintro e wr2 ⟨rfl, hr2⟩
  refine ⟨_, rfl, ?_⟩
  refine hK.out _ _ (hHeld.call hr2) (fun hHeld => ?_)
  clear hK K
  refine norm_ (a' := ?_) ?_ ?_
  rotate_left
  · show Act.put _ (some 9) _ = _
    simp only [Act.put, List.setIfInBounds_toArray, List.set_cons_zero, List.set_cons_succ]
    rfl
  refine pure_ (i := 6) (N := some 10) (v := ?_) (a' := ?_) #[true, true, true, true, true, true, true, true, true, false, false, true, true, false, false, true, true, false, false, false] rfl rfl (by kernel_rfl) (fun _ _ _ h => h) (Or.inl ⟨by rfl, ?_⟩) ?_ ?_
  rotate_left
  · intro w_
    go_simp
    try with_reducible rfl
  rotate_left
  · simp only [Act.put, List.setIfInBounds_toArray, List.set_cons_zero, List.set_cons_succ]
    rfl
  refine one_ (i := 9) (N := some 13) #[true, true, true, true, true, true, true, true, true, true, false, true, true, false, false, true, true, false, false, false] rfl rfl (by kernel_rfl) (by decide) (fun K hK => ?_)
  refine goes_ Try.func63 (by kernel_rfl) rfl #[.agg #[.int .i64 a0, .int .i64 a1]] (by rfl) rfl rfl (by (try simp only [List.map_toArray, List.map_cons, List.map_nil]); first | done | rfl) ?_
  (with_reducible refine (H2.out _).mono ?_)
  rintro e wr3 ⟨rfl, hr3⟩
  refine ⟨_, rfl, ?_⟩
  refine hK.out _ _ (hHeld.call hr3) (fun hHeld => ?_)
  clear hK K
  refine norm_ (a' := ?_) ?_ ?_
  rotate_left
  · show Act.put _ (some 13) _ = _
    simp only [Act.put, List.setIfInBounds_toArray, List.set_cons_zero, List.set_cons_succ]
    rfl
  refine pure_ (i := 10) (N := some 14) (v := ?_) (a' := ?_) #[true, true, true, true, true, true, true, true, true, true, true, true, true, false, false, true, true, false, false, false] rfl rfl (by kernel_rfl) (fun _ _ _ h => h) (Or.inl ⟨by rfl, ?_⟩) ?_ ?_
  rotate_left
  · intro w_
    go_simp
    try with_reducible rfl
  rotate_left
  · simp only [Act.put, List.setIfInBounds_toArray, List.set_cons_zero, List.set_cons_succ]
    rfl
  refine one_ (i := 13) (N := some 17) #[true, true, true, true, true, true, true, true, true, true, true, true, true, true, false, true, true, false, false, false] rfl rfl (by kernel_rfl) (by decide) (fun K hK => ?_)
  refine goes_ Try.func63 (by kernel_rfl) rfl #[.agg #[.int .i64 i0, .int .i64 i1]] (by rfl) rfl rfl (by (try simp only [List.map_toArray, List.map_cons, List.map_nil]); first | done | rfl) ?_
  (with_reducible refine (H3.out _).mono ?_)
  rintro e wr4 ⟨rfl, hr4⟩
  refine ⟨_, rfl, ?_⟩
  refine hK.out _ _ (hHeld.call hr4) (fun hHeld => ?_)
  clear hK K
  refine norm_ (a' := ?_) ?_ ?_
  rotate_left
  · show Act.put _ (some 17) _ = _
    simp only [Act.put, List.setIfInBounds_toArray, List.set_cons_zero, List.set_cons_succ]
    rfl
  refine pure_ (i := 14) (N := some 18) (v := ?_) (a' := ?_) #[true, true, true, true, true, true, true, true, true, true, true, true, true, true, true, true, true, false, false, false] rfl rfl (by kernel_rfl) (fun _ _ _ h => h) (Or.inl ⟨by rfl, ?_⟩) ?_ ?_
  rotate_left
  · intro w_
    go_simp
    try with_reducible rfl
  rotate_left
  · simp only [Act.put, List.setIfInBounds_toArray, List.set_cons_zero, List.set_cons_succ]
    rfl
  refine one_ (i := 17) (N := some 21) #[true, true, true, true, true, true, true, true, true, true, true, true, true, true, true, true, true, true, false, false] rfl rfl (by kernel_rfl) (by decide) (fun K hK => ?_)
  refine goes_ Try.func63 (by kernel_rfl) rfl #[.agg #[.int .i64 t0, .int .i64 t1]] (by rfl) rfl rfl (by (try simp only [List.map_toArray, List.map_cons, List.map_nil]); first | done | rfl) ?_
  (with_reducible refine (H4.out _).mono ?_)
  rintro e wr5 ⟨rfl, hr5⟩
  refine ⟨_, rfl, ?_⟩
  refine hK.out _ _ (hHeld.call hr5) (fun hHeld => ?_)
  clear hK K
  refine norm_ (a' := ?_) ?_ ?_
  rotate_left
  · show Act.put _ (some 21) _ = _
    simp only [Act.put, List.setIfInBounds_toArray, List.set_cons_zero, List.set_cons_succ]
    rfl
  refine pure_ (i := 18) (N := some 22) (v := ?_) (a' := ?_) #[true, true, true, true, true, true, true, true, true, true, true, true, true, true, true, true, true, true, true, false] rfl rfl (by kernel_rfl) (fun _ _ _ h => h) (Or.inl ⟨by rfl, ?_⟩) ?_ ?_
  rotate_left
  · intro w_
    go_simp
    try with_reducible rfl
  rotate_left
  · simp only [Act.put, List.setIfInBounds_toArray, List.set_cons_zero, List.set_cons_succ]
    rfl
  refine pure_ (i := 19) (N := some 3) (v := ?_) (a' := ?_) #[true, true, true, true, true, true, true, true, true, true, true, true, true, true, true, true, true, true, true, true] rfl rfl (by kernel_rfl) (fun _ _ _ h => h) (Or.inl ⟨by rfl, ?_⟩) ?_ ?_
  rotate_left
  · intro w_
    go_simp
    try with_reducible rfl
  rotate_left
  · simp only [Act.put, List.setIfInBounds_toArray, List.set_cons_zero, List.set_cons_succ]
    rfl
  refine done_ (by kernel_rfl) ?_
  clear y1 y2 y3 y4
  rw [← HX4.out]
  go_upto_region 2 with (fail)
  have HZ := Hd.mk hHeld
  clear hHeld
  have y5 : (9223372036854775807 < x4.size + s1.size) = False := eq_false (Nat.not_lt.2 m5)
  have y6 : (9223372036854775807 < x4.size + s1.size + s2.size) = False := eq_false (Nat.not_lt.2 m6)
  have y7 : (9223372036854775807 < x4.size + s1.size + s2.size + oI.size) = False := eq_false (Nat.not_lt.2 m7)
  have y8 : (9223372036854775807 < x4.size + s1.size + s2.size + oI.size + s3.size) = False := eq_false (Nat.not_lt.2 m8)
  refine start_ (n := 18) (S := fun W_ => Holds w [(w.heap.size, .cells #[.int .i64 t, .int .i64 r, .int .i64 k, .int .i64 a0, .int .i64 a1, .int .i64 i0, .int .i64 i1, .int .i64 t0, .int .i64 t1, .string nm, .string nw, .int .i64 off, .string dt] 50 (0, 0))] W_) (ds := []) #[false, false, false, false, false, false, false, false, false, false, false, false, false, false, false, false, false, false] (by kernel_rfl) rfl rfl (HZ.out.drew) (fun hHeld => ?_)
  refine pure_ (i := 0) (N := some 23) (v := ?_) (a' := ?_) #[true, false, false, false, false, false, false, false, false, false, false, false, false, false, false, false, false, false] rfl rfl (by kernel_rfl) (fun _ _ _ h => h) (Or.inl ⟨by rfl, ?_⟩) ?_ ?_
  rotate_left
  · intro w_
    go_simp
    try with_reducible rfl
  rotate_left
  · simp only [Act.put, List.setIfInBounds_toArray, List.set_cons_zero, List.set_cons_succ]
    rfl
  refine pure_ (i := 1) (N := some 24) (v := ?_) (a' := ?_) #[true, true, false, false, false, false, false, false, false, false, false, false, false, false, false, false, false, false] rfl rfl (by kernel_rfl) (fun _ _ _ h => h) (Or.inl ⟨by rfl, ?_⟩) ?_ ?_
  rotate_left
  · intro w_
    go_simp
    try with_reducible rfl
  rotate_left
  · simp only [Act.put, List.setIfInBounds_toArray, List.set_cons_zero, List.set_cons_succ]
    rfl
  refine take_ (i := 2) (N := some 25) (v := .string nm) (a' := ?_) #[true, true, true, false, false, false, false, false, false, false, false, false, false, false, false, false, false, false] rfl rfl (by kernel_rfl) (fun _ _ _ h => h) (Or.inl ⟨by rfl, fun w' h => by have c := cell_of_row w' _ 9 _ _ _ (h.get 0 rfl); go_simp⟩) hHeld ?_ ?_
  rotate_left
  · simp only [Act.put, List.setIfInBounds_toArray, List.set_cons_zero, List.set_cons_succ]
    rfl
  refine pure_ (i := 5) (N := some 28) (v := ?_) (a' := ?_) #[true, true, true, false, false, true, false, false, false, false, false, false, false, false, false, false, false, false] rfl rfl (by kernel_rfl) (fun _ _ _ h => h) (Or.inl ⟨by rfl, ?_⟩) ?_ ?_
  rotate_left
  · intro w_
    go_simp
    try with_reducible rfl
  rotate_left
  · simp only [Act.put, List.setIfInBounds_toArray, List.set_cons_zero, List.set_cons_succ]
    rfl
  refine take_ (i := 6) (N := some 29) (v := .string nw) (a' := ?_) #[true, true, true, false, false, true, true, false, false, false, false, false, false, false, false, false, false, false] rfl rfl (by kernel_rfl) (fun _ _ _ h => h) (Or.inl ⟨by rfl, fun w' h => by have c := cell_of_row w' _ 10 _ _ _ (h.get 0 rfl); go_simp⟩) hHeld ?_ ?_
  rotate_left
  · simp only [Act.put, List.setIfInBounds_toArray, List.set_cons_zero, List.set_cons_succ]
    rfl
  refine pure_ (i := 9) (N := some 32) (v := ?_) (a' := ?_) #[true, true, true, false, false, true, true, false, false, true, false, false, false, false, false, false, false, false] rfl rfl (by kernel_rfl) (fun _ _ _ h => h) (Or.inl ⟨by rfl, ?_⟩) ?_ ?_
  rotate_left
  · intro w_
    go_simp
    try with_reducible rfl
  rotate_left
  · simp only [Act.put, List.setIfInBounds_toArray, List.set_cons_zero, List.set_cons_succ]
    rfl
  refine take_ (i := 10) (N := some 33) (v := .int .i64 off) (a' := ?_) #[true, true, true, false, false, true, true, false, false, true, true, false, false, false, false, false, false, false] rfl rfl (by kernel_rfl) (fun _ _ _ h => h) (Or.inl ⟨by rfl, fun w' h => by have c := cell_of_row w' _ 11 _ _ _ (h.get 0 rfl); go_simp⟩) hHeld ?_ ?_
  rotate_left
  · simp only [Act.put, List.setIfInBounds_toArray, List.set_cons_zero, List.set_cons_succ]
    rfl
  refine pure_ (i := 13) (N := some 36) (v := ?_) (a' := ?_) #[true, true, true, false, false, true, true, false, false, true, true, false, false, true, false, false, false, false] rfl rfl (by kernel_rfl) (fun _ _ _ h => h) (Or.inl ⟨by rfl, ?_⟩) ?_ ?_
  rotate_left
  · intro w_
    go_simp
    try with_reducible rfl
  rotate_left
  · simp only [Act.put, List.setIfInBounds_toArray, List.set_cons_zero, List.set_cons_succ]
    rfl
  refine take_ (i := 14) (N := some 37) (v := .string dt) (a' := ?_) #[true, true, true, false, false, true, true, false, false, true, true, false, false, true, true, false, false, false] rfl rfl (by kernel_rfl) (fun _ _ _ h => h) (Or.inl ⟨by rfl, fun w' h => by have c := cell_of_row w' _ 12 _ _ _ (h.get 0 rfl); go_simp⟩) hHeld ?_ ?_
  rotate_left
  · simp only [Act.put, List.setIfInBounds_toArray, List.set_cons_zero, List.set_cons_succ]
    rfl
  refine one_ (i := 3) (N := some 26) #[true, true, true, true, false, true, true, false, false, true, true, false, false, true, true, false, false, false] rfl rfl (by kernel_rfl) (by decide) (fun K hK => ?_)
  refine goes_ Try.func40 (by kernel_rfl) rfl #[.string nm] (by rfl) rfl rfl (by (try simp only [List.map_toArray, List.map_cons, List.map_nil]); first | done | rfl) ?_
  (with_reducible refine (HN.out _).mono ?_)
  rintro e wr6 ⟨rfl, hr6⟩
  refine ⟨_, rfl, ?_⟩
  refine hK.out _ _ (hHeld.call hr6) (fun hHeld => ?_)
  clear hK K
  refine norm_ (a' := ?_) ?_ ?_
  rotate_left
  · show Act.put _ (some 26) _ = _
    simp only [Act.put, List.setIfInBounds_toArray, List.set_cons_zero, List.set_cons_succ]
    rfl
  refine pure_ (i := 4) (N := some 27) (v := ?_) (a' := ?_) #[true, true, true, true, true, true, true, false, false, true, true, false, false, true, true, false, false, false] rfl rfl (by kernel_rfl) (fun _ _ _ h => h) (Or.inl ⟨by rfl, ?_⟩) ?_ ?_
  rotate_left
  · intro w_
    go_simp
    try with_reducible rfl
  rotate_left
  · simp only [Act.put, List.setIfInBounds_toArray, List.set_cons_zero, List.set_cons_succ]
    rfl
  refine one_ (i := 7) (N := some 30) #[true, true, true, true, true, true, true, true, false, true, true, false, false, true, true, false, false, false] rfl rfl (by kernel_rfl) (by decide) (fun K hK => ?_)
  refine goes_ Try.func40 (by kernel_rfl) rfl #[.string nw] (by rfl) rfl rfl (by (try simp only [List.map_toArray, List.map_cons, List.map_nil]); first | done | rfl) ?_
  (with_reducible refine (HW.out _).mono ?_)
  rintro e wr7 ⟨rfl, hr7⟩
  refine ⟨_, rfl, ?_⟩
  refine hK.out _ _ (hHeld.call hr7) (fun hHeld => ?_)
  clear hK K
  refine norm_ (a' := ?_) ?_ ?_
  rotate_left
  · show Act.put _ (some 30) _ = _
    simp only [Act.put, List.setIfInBounds_toArray, List.set_cons_zero, List.set_cons_succ]
    rfl
  refine pure_ (i := 8) (N := some 31) (v := ?_) (a' := ?_) #[true, true, true, true, true, true, true, true, true, true, true, false, false, true, true, false, false, false] rfl rfl (by kernel_rfl) (fun _ _ _ h => h) (Or.inl ⟨by rfl, ?_⟩) ?_ ?_
  rotate_left
  · intro w_
    go_simp
    try with_reducible rfl
  rotate_left
  · simp only [Act.put, List.setIfInBounds_toArray, List.set_cons_zero, List.set_cons_succ]
    rfl
  refine one_ (i := 11) (N := some 34) #[true, true, true, true, true, true, true, true, true, true, true, true, false, true, true, false, false, false] rfl rfl (by kernel_rfl) (by decide) (fun K hK => ?_)
  refine goes_ Try.func62 (by kernel_rfl) rfl #[.int .i64 off] (by rfl) rfl rfl (by (try simp only [List.map_toArray, List.map_cons, List.map_nil]); first | done | rfl) ?_
  (with_reducible refine (HO.out _).mono ?_)
  rintro e wr8 ⟨rfl, hr8⟩
  refine ⟨_, rfl, ?_⟩
  refine hK.out _ _ (hHeld.call hr8) (fun hHeld => ?_)
  clear hK K
  refine norm_ (a' := ?_) ?_ ?_
  rotate_left
  · show Act.put _ (some 34) _ = _
    simp only [Act.put, List.setIfInBounds_toArray, List.set_cons_zero, List.set_cons_succ]
    rfl
  refine pure_ (i := 12) (N := some 35) (v := ?_) (a' := ?_) #[true, true, true, true, true, true, true, true, true, true, true, true, true, true, true, false, false, false] rfl rfl (by kernel_rfl) (fun _ _ _ h => h) (Or.inl ⟨by rfl, ?_⟩) ?_ ?_
  rotate_left
  · intro w_
    go_simp
    try with_reducible rfl
  rotate_left
  · simp only [Act.put, List.setIfInBounds_toArray, List.set_cons_zero, List.set_cons_succ]
    rfl
  refine one_ (i := 15) (N := some 38) #[true, true, true, true, true, true, true, true, true, true, true, true, true, true, true, true, false, false] rfl rfl (by kernel_rfl) (by decide) (fun K hK => ?_)
  refine goes_ Try.func40 (by kernel_rfl) rfl #[.string dt] (by rfl) rfl rfl (by (try simp only [List.map_toArray, List.map_cons, List.map_nil]); first | done | rfl) ?_
  (with_reducible refine (HD.out _).mono ?_)
  rintro e wr9 ⟨rfl, hr9⟩
  refine ⟨_, rfl, ?_⟩
  refine hK.out _ _ (hHeld.call hr9) (fun hHeld => ?_)
  clear hK K
  refine norm_ (a' := ?_) ?_ ?_
  rotate_left
  · show Act.put _ (some 38) _ = _
    simp only [Act.put, List.setIfInBounds_toArray, List.set_cons_zero, List.set_cons_succ]
    rfl
  refine pure_ (i := 16) (N := some 39) (v := ?_) (a' := ?_) #[true, true, true, true, true, true, true, true, true, true, true, true, true, true, true, true, true, false] rfl rfl (by kernel_rfl) (fun _ _ _ h => h) (Or.inl ⟨by rfl, ?_⟩) ?_ ?_
  rotate_left
  · intro w_
    go_simp
    try with_reducible rfl
  rotate_left
  · simp only [Act.put, List.setIfInBounds_toArray, List.set_cons_zero, List.set_cons_succ]
    rfl
  refine pure_ (i := 17) (N := some 2) (v := ?_) (a' := ?_) #[true, true, true, true, true, true, true, true, true, true, true, true, true, true, true, true, true, true] rfl rfl (by kernel_rfl) (fun _ _ _ h => h) (Or.inl ⟨by rfl, ?_⟩) ?_ ?_
  rotate_left
  · intro w_
    go_simp
    try with_reducible rfl
  rotate_left
  · simp only [Act.put, List.setIfInBounds_toArray, List.set_cons_zero, List.set_cons_succ]
    rfl
  refine done_ (by kernel_rfl) ?_
  go_wp2_with fail
  go_ret
  exact ⟨by rw [← HX4.out]; rfl, hHeld.2⟩
theorem ref_Put {t r k a0 a1 i0 i1 t0 t1 off : Int} {nm nw dt : ByteArray} (hr : OpRng t r k a0 a1 i0 i1 t0 t1 off) (h1 : nm.size ≤ 140737488355328) (h2 : nw.size ≤ 140737488355328) (h3 : dt.size ≤ 140737488355328) (w : World) :
    Calls Try.prog 35 #[.agg #[.int .i64 t, .int .i64 r, .int .i64 k, .int .i64 a0, .int .i64 a1, .int .i64 i0, .int .i64 i1, .int .i64 t0, .int .i64 t1, .string nm, .string nw, .int .i64 off, .string dt]] w fun e w' => e = .returned (.string (putO t r k a0 a1 i0 i1 t0 t1 nm nw off dt)) ∧ Below w.heap.size w w' := by
  obtain ⟨b1, b2, b3, b4, b5, b6, b7, b8, b9, b10⟩ := hr
  exact refPut_walk t r k a0 a1 i0 i1 t0 t1 off nm nw dt _ _ _ _ _ _ _ _ _ w ⟨num_size (zig_lt b3.1 b3.2), putS_size b1 b2, putS_size b4 b5, putS_size b6 b7, putS_size b8 b9, text_size h1, text_size h2, num_size (zig_lt b10.1 b10.2), text_size h3⟩
    ⟨ref_Int k b3.1 b3.2⟩ ⟨ref_stampPut t r b1 b2⟩ ⟨ref_stampPut a0 a1 b4 b5⟩ ⟨ref_stampPut i0 i1 b6 b7⟩ ⟨ref_stampPut t0 t1 b8 b9⟩ ⟨ref_Text nm h1⟩ ⟨ref_Text nw h2⟩ ⟨ref_Int off b10.1 b10.2⟩ ⟨ref_Text dt h3⟩
end Go.Proofs.Ytcekecpbjmfbhaa
