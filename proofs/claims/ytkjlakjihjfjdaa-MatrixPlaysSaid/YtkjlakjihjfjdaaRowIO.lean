/- Rows as bytes, and what a string begins with; the document's MayRow, Merge: their contracts. -/
import Derived.Test.YtkjlakjihjfjdaaMatWalk
import Derived.Test.YtkjlakjihjfjdaaMatRow
import Derived.Test.YtkjlakjihjfjdaaVecRef4
import Derived.Test.YtkjlakjihjfjdaaVecBack
namespace Go.Proofs.Ytkjlakjihjfjdaa
open Go.RowKit Go.Proofs.YtkjlakjihjfjdaaW.PrintWords Go.Proofs.YtkjlakjihjfjdaaW.PrintLast Go.Proofs.YtkjlakjihjfjdaaW.PrintMore Pk
set_option linter.unusedVariables false
set_option linter.unusedSimpArgs false

theorem putV_app (s : List Int) (t : Int) : putV (s ++ [t]) = putV s ++ strOfNums (num (zig t)) := by
  unfold putV putL
  rw [numB_str, mk_append]
  simp
theorem fits_app {s : List Int} {t : Int} (h : Fits64 (s ++ [t])) : Fits64 s ∧ -9223372036854775808 ≤ t ∧ t ≤ 9223372036854775807 :=
  ⟨fun x hx => h x (List.mem_append_left _ hx), h t (by simp)⟩
/-- The row with which a string begins. -/
def tkR (l : List UInt8) : Option (List Int × List UInt8) := fin [] (tkN 9 l)
def tvR : Option (List Int × List UInt8) → Value
  | none => .tuple #[.agg (vec zero9), .string ⟨#[]⟩, .int .i64 2]
  | some (v, q) => .tuple #[.agg (vec v), .string ⟨q.toArray⟩, .int .i64 0]
theorem tkN_last : ∀ (n : Nat) (l : List UInt8), tkN (n + 1) l = match tkN n l with
    | none => none
    | some (v, q) => match tk q 0 0 with
      | none => none
      | some (m, r) => some (v ++ [unzig m], r)
  | 0, l => by
    show (match tk l 0 0 with | none => none | some (m, r) => match tkN 0 r with | none => none | some (v, q) => some (unzig m :: v, q)) = _
    cases h : tk l 0 0 with
    | none => simp [tkN, h]
    | some p => obtain ⟨m, r⟩ := p; simp [tkN, h]
  | n + 1, l => by
    show (match tk l 0 0 with | none => none | some (m, r) => match tkN (n + 1) r with | none => none | some (v, q) => some (unzig m :: v, q)) = _
    show _ = match (match tk l 0 0 with | none => none | some (m, r) => match tkN n r with | none => none | some (v, q) => some (unzig m :: v, q)) with | none => none | some (v, q) => _
    cases h : tk l 0 0 with
    | none => rfl
    | some p =>
      obtain ⟨m, r⟩ := p
      simp only [tkN_last n r]
      cases h2 : tkN n r with
      | none => rfl
      | some p2 =>
        obtain ⟨v, q⟩ := p2
        simp only
        cases h3 : tk q 0 0 with
        | none => rfl
        | some p3 => obtain ⟨m2, r2⟩ := p3; rfl
theorem tkR_of (l : List UInt8) : tkR l = match tkV l with
    | none => none
    | some (v, q) => match tk q 0 0 with
      | none => none
      | some (m, r) => if mayV (v ++ [unzig m]) = true then some (v ++ [unzig m], r) else none := by
  unfold tkR tkV
  rw [tkN_last 8 l]
  cases h : tkN 8 l with
  | none => rfl
  | some p =>
    obtain ⟨v, q⟩ := p
    by_cases hm : mayV v = true
    · simp only [fin, List.nil_append, if_pos hm]
      cases h3 : tk q 0 0 with
      | none => rfl
      | some p3 => obtain ⟨m2, r2⟩ := p3; rfl
    · simp only [fin, List.nil_append, if_neg hm]
      cases h3 : tk q 0 0 with
      | none => rfl
      | some p3 =>
        obtain ⟨m2, r2⟩ := p3
        have : mayV (v ++ [unzig m2]) = false := by rw [mayV_row]; simp [hm]
        simp [this]
theorem tk_empty : tk (⟨#[]⟩ : ByteArray).data.toList 0 0 = none := by rfl
theorem build_rnone (w : World) : (Instr.build 55 #[]).run Try.prog w = .ok (.agg (vec zero9)) w := run_build w _ _ _ (by kernel_rfl)
theorem run_alloc_rrow {o : Oper} {ρ : Operand → Value} {w : World} (ho : o.op = .alloc 55) : (execOp ρ o).run Try.prog w = .ok (.value (.pointer (some ⟨w.heap.size, 0, none⟩))) (w.alloc (.cells (vec zero9) 55)) := by
  have hz := zeroRRow w
  unfold execOp
  simp only [ho]
  go_simp
set_option maxHeartbeats 4000000 in
set_option maxRecDepth 100000 in
theorem ref_rowMay (r : List Int) (hr : r.length = 9) (w : World) :
    Calls Try.prog 50 #[.agg (vec r)] w fun e w' => e = .returned (.bool (mayV r)) ∧ Below w.heap.size w w' := by
  obtain ⟨s, t, hs, rfl⟩ := nine hr
  rw [mayV_row]
  have H0 := Hd.mk (Holds.start1 w (.cells (vec (s ++ [t])) 55))
  have HM := Hd.mk (ref_vecMay s hs)
  have HA := Hd.mk (app_at hs t)
  have HT := Hd.mk (app_take hs t)
  have HL := Hd.mk (app_len hs t)
  clear hr hs
  generalize mayV s = q at *
  go_enter Try.func50, Try.ntmps50
  go_upto_region 1 with (fail)
  generalize w.alloc (.cells (vec (s ++ [t])) 55) = W at *
  go_wp2_with (first | ((with_reducible refine gate_load (t := 34) rfl ?_); refine wpList_load_vec rfl _ _ rfl w.heap.size 0 8 rfl (s ++ [t]) 55 (0, 0) (H0.out.get 0 rfl) _ Try.underlying34 rfl size_eight9 (by rw [HL.out]; omega) ?_; simp only [HT.out]))
  refine (HM.out _).mono ?_; rintro e w1 ⟨rfl, h1⟩
  have H1 := Hd.mk (H0.out.call h1)
  have hc : w1.cell? ⟨w.heap.size, 8, none⟩ = some (.int .i64 t) := by rw [cell_of_row w1 _ 8 _ _ _ (H1.out.get 0 rfl)]; exact HA.out
  clear H0 h1
  cases q with
  | false =>
    go_wp2_with fail
    go_ret
    exact ⟨rfl, H1.out.2⟩
  | true =>
    by_cases h0 : 0 ≤ t
    · by_cases h1 : t ≤ 1073741824
      · go_wp2_with fail
        go_ret
        exact ⟨by first | rfl | simp [h0, h1], H1.out.2⟩
      · go_wp2_with fail
        go_ret
        exact ⟨by first | rfl | simp [h0, h1], H1.out.2⟩
    · go_wp2_with fail
      go_ret
      exact ⟨by first | rfl | (simp [h0]; done) | (simp; omega), H1.out.2⟩
set_option maxHeartbeats 4000000 in
set_option maxRecDepth 100000 in
theorem row_Put (r : List Int) (hr : r.length = 9) (hf : Fits64 r) (w : World) :
    Calls Try.prog 48 #[.agg (vec r)] w fun e w' => e = .returned (.string (putV r)) ∧ Below w.heap.size w w' := by
  obtain ⟨s, t, hs, rfl⟩ := nine hr
  obtain ⟨hfs, ht0, ht1⟩ := fits_app hf
  rw [putV_app]
  have H0 := Hd.mk (Holds.start1 w (.cells (vec (s ++ [t])) 46))
  have HP := Hd.mk (vec_Put s hs hfs)
  have HI := Hd.mk (pack_Int t ht0 ht1)
  have z1 := putV_size s hfs
  have z2 := num_size (zig_lt ht0 ht1)
  have hsum : (putV s).size + (strOfNums (num (zig t))).size ≤ 9223372036854775807 := by rw [hs] at z1; omega
  have HA := Hd.mk (app_at hs t)
  have HT := Hd.mk (app_take hs t)
  have HL := Hd.mk (app_len hs t)
  clear hr hs z1 z2 hf hfs
  generalize putV s = p at *
  generalize strOfNums (num (zig t)) = p2 at *
  go_enter Try.func48, Try.ntmps48
  go_upto_region 1 with (fail)
  generalize w.alloc (.cells (vec (s ++ [t])) 46) = W at *
  refine start_ (n := 8) (S := fun W_ => Holds w [(w.heap.size, .cells (vec (s ++ [t])) 46 (0, 0))] W_) (ds := []) #[false, false, false, false, false, false, false, false] (by kernel_rfl) rfl rfl (H0.out.drew) (fun hHeld => ?_)
  refine pure_ (i := 0) (N := some 3) (v := ?_) (a' := ?_) #[true, false, false, false, false, false, false, false] rfl rfl (by kernel_rfl) (fun _ _ _ h => h) (Or.inl ⟨by rfl, ?_⟩) ?_ ?_
  rotate_left
  · intro w_
    go_simp
    try with_reducible rfl
  rotate_left
  · simp only [Act.put, List.setIfInBounds_toArray, List.set_cons_zero, List.set_cons_succ]
    rfl
  refine take_ (i := 1) (N := some 4) (v := .agg (vec s)) (a' := ?_) #[true, true, false, false, false, false, false, false] rfl rfl (by kernel_rfl) (fun _ _ _ h => h) (Or.inl ⟨by rfl, fun w' h => by rw [← HT.out]; exact run_load_vec 35 _ rfl w.heap.size 0 8 rfl (s ++ [t]) 46 (0, 0) (h.get 0 rfl) _ Try.underlying35 rfl size_vec (by rw [HL.out]; omega)⟩) hHeld ?_ ?_
  rotate_left
  · simp only [Act.put, List.setIfInBounds_toArray, List.set_cons_zero, List.set_cons_succ]
    rfl
  refine pure_ (i := 3) (N := some 6) (v := ?_) (a' := ?_) #[true, true, false, true, false, false, false, false] rfl rfl (by kernel_rfl) (fun _ _ _ h => h) (Or.inl ⟨by rfl, ?_⟩) ?_ ?_
  rotate_left
  · intro w_
    go_simp
    try with_reducible rfl
  rotate_left
  · simp only [Act.put, List.setIfInBounds_toArray, List.set_cons_zero, List.set_cons_succ]
    rfl
  refine take_ (i := 4) (N := some 7) (v := .int .i64 t) (a' := ?_) #[true, true, false, true, true, false, false, false] rfl rfl (by kernel_rfl) (fun _ _ _ h => h) (Or.inl ⟨by rfl, fun w' h => by have hc : w'.cell? ⟨w.heap.size, 8, none⟩ = some (.int .i64 t) := (by rw [cell_of_row w' _ 8 _ _ _ (h.get 0 rfl)]; exact HA.out); go_simp⟩) hHeld ?_ ?_
  rotate_left
  · simp only [Act.put, List.setIfInBounds_toArray, List.set_cons_zero, List.set_cons_succ]
    rfl
  refine one_ (i := 2) (N := some 5) #[true, true, true, true, true, false, false, false] rfl rfl (by kernel_rfl) (by decide) (fun K hK => ?_)
  refine goes_ Try.func61 (by kernel_rfl) rfl #[.agg (vec s)] (by rfl) rfl rfl (by (try simp only [List.map_toArray, List.map_cons, List.map_nil]); first | done | rfl) ?_
  (with_reducible refine (HP.out _).mono ?_)
  rintro e wr1 ⟨rfl, hr1⟩
  refine ⟨_, rfl, ?_⟩
  refine hK.out _ _ (hHeld.call hr1) (fun hHeld => ?_)
  clear hK K
  refine norm_ (a' := ?_) ?_ ?_
  rotate_left
  · show Act.put _ (some 5) _ = _
    simp only [Act.put, List.setIfInBounds_toArray, List.set_cons_zero, List.set_cons_succ]
    rfl
  refine one_ (i := 5) (N := some 8) #[true, true, true, true, true, true, false, false] rfl rfl (by kernel_rfl) (by decide) (fun K hK => ?_)
  refine goes_ Try.func62 (by kernel_rfl) rfl #[.int .i64 t] (by rfl) rfl rfl (by (try simp only [List.map_toArray, List.map_cons, List.map_nil]); first | done | rfl) ?_
  (with_reducible refine (HI.out _).mono ?_)
  rintro e wr2 ⟨rfl, hr2⟩
  refine ⟨_, rfl, ?_⟩
  refine hK.out _ _ (hHeld.call hr2) (fun hHeld => ?_)
  clear hK K
  refine norm_ (a' := ?_) ?_ ?_
  rotate_left
  · show Act.put _ (some 8) _ = _
    simp only [Act.put, List.setIfInBounds_toArray, List.set_cons_zero, List.set_cons_succ]
    rfl
  refine take_ (i := 6) (N := some 9) (v := .string (p ++ p2)) (a' := ?_) #[true, true, true, true, true, true, true, false] rfl rfl (by kernel_rfl) (fun _ _ _ h => h) (Or.inl ⟨by rfl, fun w' h => by go_simp⟩) hHeld ?_ ?_
  rotate_left
  · simp only [Act.put, List.setIfInBounds_toArray, List.set_cons_zero, List.set_cons_succ]
    rfl
  refine pure_ (i := 7) (N := some 2) (v := ?_) (a' := ?_) #[true, true, true, true, true, true, true, true] rfl rfl (by kernel_rfl) (fun _ _ _ h => h) (Or.inl ⟨by rfl, ?_⟩) ?_ ?_
  rotate_left
  · intro w_
    go_simp
    try with_reducible rfl
  rotate_left
  · simp only [Act.put, List.setIfInBounds_toArray, List.set_cons_zero, List.set_cons_succ]
    rfl
  refine done_ (by kernel_rfl) ?_
  go_wp2
  go_ret
  exact ⟨rfl, hHeld.2⟩
set_option maxHeartbeats 4000000 in
set_option maxRecDepth 100000 in
theorem ref_rowPut (r : List Int) (hr : r.length = 9) (hf : Fits64 r) (w : World) :
    Calls Try.prog 51 #[.agg (vec r)] w fun e w' => e = .returned (.string (putV r)) ∧ Below w.heap.size w w' := by
  obtain ⟨s, t, hs, rfl⟩ := nine hr
  obtain ⟨hfs, ht0, ht1⟩ := fits_app hf
  rw [putV_app]
  have H0 := Hd.mk (Holds.start1 w (.cells (vec (s ++ [t])) 55))
  have HP := Hd.mk (ref_vecPut s hs hfs)
  have HI := Hd.mk (ref_Int t ht0 ht1)
  have z1 := putV_size s hfs
  have z2 := num_size (zig_lt ht0 ht1)
  have hsum : (putV s).size + (strOfNums (num (zig t))).size ≤ 9223372036854775807 := by rw [hs] at z1; omega
  have HA := Hd.mk (app_at hs t)
  have HT := Hd.mk (app_take hs t)
  have HL := Hd.mk (app_len hs t)
  clear hr hs z1 z2 hf hfs
  generalize putV s = p at *
  generalize strOfNums (num (zig t)) = p2 at *
  go_enter Try.func51, Try.ntmps51
  go_upto_region 1 with (fail)
  generalize w.alloc (.cells (vec (s ++ [t])) 55) = W at *
  refine start_ (n := 8) (S := fun W_ => Holds w [(w.heap.size, .cells (vec (s ++ [t])) 55 (0, 0))] W_) (ds := []) #[false, false, false, false, false, false, false, false] (by kernel_rfl) rfl rfl (H0.out.drew) (fun hHeld => ?_)
  refine pure_ (i := 0) (N := some 3) (v := ?_) (a' := ?_) #[true, false, false, false, false, false, false, false] rfl rfl (by kernel_rfl) (fun _ _ _ h => h) (Or.inl ⟨by rfl, ?_⟩) ?_ ?_
  rotate_left
  · intro w_
    go_simp
    try with_reducible rfl
  rotate_left
  · simp only [Act.put, List.setIfInBounds_toArray, List.set_cons_zero, List.set_cons_succ]
    rfl
  refine take_ (i := 1) (N := some 4) (v := .agg (vec s)) (a' := ?_) #[true, true, false, false, false, false, false, false] rfl rfl (by kernel_rfl) (fun _ _ _ h => h) (Or.inl ⟨by rfl, fun w' h => by rw [← HT.out]; exact run_load_vec 34 _ rfl w.heap.size 0 8 rfl (s ++ [t]) 55 (0, 0) (h.get 0 rfl) _ Try.underlying34 rfl size_eight9 (by rw [HL.out]; omega)⟩) hHeld ?_ ?_
  rotate_left
  · simp only [Act.put, List.setIfInBounds_toArray, List.set_cons_zero, List.set_cons_succ]
    rfl
  refine pure_ (i := 3) (N := some 6) (v := ?_) (a' := ?_) #[true, true, false, true, false, false, false, false] rfl rfl (by kernel_rfl) (fun _ _ _ h => h) (Or.inl ⟨by rfl, ?_⟩) ?_ ?_
  rotate_left
  · intro w_
    go_simp
    try with_reducible rfl
  rotate_left
  · simp only [Act.put, List.setIfInBounds_toArray, List.set_cons_zero, List.set_cons_succ]
    rfl
  refine take_ (i := 4) (N := some 7) (v := .int .i64 t) (a' := ?_) #[true, true, false, true, true, false, false, false] rfl rfl (by kernel_rfl) (fun _ _ _ h => h) (Or.inl ⟨by rfl, fun w' h => by have hc : w'.cell? ⟨w.heap.size, 8, none⟩ = some (.int .i64 t) := (by rw [cell_of_row w' _ 8 _ _ _ (h.get 0 rfl)]; exact HA.out); go_simp⟩) hHeld ?_ ?_
  rotate_left
  · simp only [Act.put, List.setIfInBounds_toArray, List.set_cons_zero, List.set_cons_succ]
    rfl
  refine one_ (i := 2) (N := some 5) #[true, true, true, true, true, false, false, false] rfl rfl (by kernel_rfl) (by decide) (fun K hK => ?_)
  refine goes_ Try.func65 (by kernel_rfl) rfl #[.agg (vec s)] (by rfl) rfl rfl (by (try simp only [List.map_toArray, List.map_cons, List.map_nil]); first | done | rfl) ?_
  (with_reducible refine (HP.out _).mono ?_)
  rintro e wr3 ⟨rfl, hr3⟩
  refine ⟨_, rfl, ?_⟩
  refine hK.out _ _ (hHeld.call hr3) (fun hHeld => ?_)
  clear hK K
  refine norm_ (a' := ?_) ?_ ?_
  rotate_left
  · show Act.put _ (some 5) _ = _
    simp only [Act.put, List.setIfInBounds_toArray, List.set_cons_zero, List.set_cons_succ]
    rfl
  refine one_ (i := 5) (N := some 8) #[true, true, true, true, true, true, false, false] rfl rfl (by kernel_rfl) (by decide) (fun K hK => ?_)
  refine goes_ Try.func66 (by kernel_rfl) rfl #[.int .i64 t] (by rfl) rfl rfl (by (try simp only [List.map_toArray, List.map_cons, List.map_nil]); first | done | rfl) ?_
  (with_reducible refine (HI.out _).mono ?_)
  rintro e wr4 ⟨rfl, hr4⟩
  refine ⟨_, rfl, ?_⟩
  refine hK.out _ _ (hHeld.call hr4) (fun hHeld => ?_)
  clear hK K
  refine norm_ (a' := ?_) ?_ ?_
  rotate_left
  · show Act.put _ (some 8) _ = _
    simp only [Act.put, List.setIfInBounds_toArray, List.set_cons_zero, List.set_cons_succ]
    rfl
  refine take_ (i := 6) (N := some 9) (v := .string (p ++ p2)) (a' := ?_) #[true, true, true, true, true, true, true, false] rfl rfl (by kernel_rfl) (fun _ _ _ h => h) (Or.inl ⟨by rfl, fun w' h => by go_simp⟩) hHeld ?_ ?_
  rotate_left
  · simp only [Act.put, List.setIfInBounds_toArray, List.set_cons_zero, List.set_cons_succ]
    rfl
  refine pure_ (i := 7) (N := some 2) (v := ?_) (a' := ?_) #[true, true, true, true, true, true, true, true] rfl rfl (by kernel_rfl) (fun _ _ _ h => h) (Or.inl ⟨by rfl, ?_⟩) ?_ ?_
  rotate_left
  · intro w_
    go_simp
    try with_reducible rfl
  rotate_left
  · simp only [Act.put, List.setIfInBounds_toArray, List.set_cons_zero, List.set_cons_succ]
    rfl
  refine done_ (by kernel_rfl) ?_
  go_wp2
  go_ret
  exact ⟨rfl, hHeld.2⟩
set_option maxHeartbeats 4000000 in
set_option maxRecDepth 100000 in
theorem row_Take_walk (s0 : ByteArray) (v : List Int) (q : ByteArray) (c1 : Int) (x : Int) (q2 : ByteArray) (c2 : Int) (b : Bool) (hv : v.length = 8) (w : World)
    (H1 : Hd (∀ w, Calls Try.prog 57 #[.string s0] w fun e w' => e = .returned (.tuple #[.agg (vec v), .string q, .int .i64 c1]) ∧ Below w.heap.size w w'))
    (H2 : Hd (∀ w, Calls Try.prog 58 #[.string q] w fun e w' => e = .returned (.tuple #[.int .i64 x, .string q2, .int .i64 c2]) ∧ Below w.heap.size w w'))
    (H3 : Hd (∀ w, Calls Try.prog 49 #[.agg (vec (v ++ [x]))] w fun e w' => e = .returned (.bool b) ∧ Below w.heap.size w w'))
    (hc : (c1 = 0 ∧ c2 = 0 ∧ b = true) ∨ c1 = 2 ∨ (c1 = 0 ∧ c2 = 2) ∨ (c1 = 0 ∧ c2 = 0 ∧ b = false)) :
    Calls Try.prog 46 #[.string s0] w fun e w' => e = .returned (if c1 = 0 ∧ c2 = 0 ∧ b = true then .tuple #[.agg (vec (v ++ [x])), .string q2, .int .i64 0] else .tuple #[.agg (vec zero9), .string ⟨#[]⟩, .int .i64 2]) ∧ Below w.heap.size w w' := by
  have H0 := Hd.mk (Holds.start1 w (.cells (vec zero9) 46))
  have SV := Hd.mk (show (Try.prog.info? 35).map (·.size) = some (vec v).size by rw [vec_size, hv]; exact size_vec)
  have ZV := Hd.mk (show (vec zero8).size = (vec v).size by rw [vec_size, vec_size, hv]; rfl)
  have ST := Hd.mk (show (Try.prog.info? 46).map (·.size) = some (vec (v ++ [x])).size by rw [vec_size, app_len hv]; exact size_row)
  have ZT := Hd.mk (show (vec zero9).size = (vec (v ++ [x])).size by rw [vec_size, vec_size, app_len hv]; rfl)
  have HB := Hd.mk (build_row hv x)
  have HC := Hd.mk hc
  have hz := zeroRow
  have hz8 : ∀ w : World, (zeroValue 35).run Try.prog w = .ok (.agg (vec zero8)) w := fun w => by kernel_rfl
  clear hv hc
  go_enter Try.func46, Try.ntmps46
  go_upto_region 1 with (fail)
  generalize w.alloc (.cells (vec zero9) 46) = W at *
  go_wp2_with fail
  refine (H1.out _).mono ?_; rintro e w1 ⟨rfl, h1⟩
  have K1 := Hd.mk (((H0.out.call h1).fresh (.cells (vec zero8) 35)).set (vec v))
  clear h1 H0
  go_upto_region 2 with (first | ((with_reducible refine gate_store (t := 35) rfl ?_); refine wpList_store_row rfl _ _ _ rfl w1.heap.size (vec v) rfl rfl 35 (vec zero8) (heap_alloc_new _ _) SV.out ZV.out (vec_one _) ?_; generalize (w1.alloc (.cells (vec zero8) 35)).setRow w1.heap.size (vec v) = W1 at *; generalize w1.heap.size = bv at *))
  go_wp2_with fail
  refine (H2.out _).mono ?_; rintro e w2 ⟨rfl, h2⟩
  have K2 := Hd.mk (K1.out.call h2)
  have K3 := Hd.mk ((K2.out.fresh (.cells (vec zero9) 46)).set (vec (v ++ [x])))
  clear h2 K1
  go_upto_region 4 with (first | ((with_reducible refine gate_dst (N := 23) rfl ?_); refine wpList_load_row rfl 35 _ rfl bv rfl 35 (vec v) (0, 0) _ (K2.out.get 0 rfl) Try.underlying35 rfl SV.out ?_) | ((with_reducible refine gate_dst (N := 25) rfl ?_); refine wpList_build rfl _ _ rfl #[(0, .agg (vec v)), (1, .int .i64 x)] (by simp only [List.map_toArray, List.map_cons, List.map_nil]; rfl) (.agg (vec (v ++ [x]))) (HB.out _) ?_) | ((with_reducible refine gate_store (t := 46) rfl ?_); refine wpList_store_row rfl _ _ _ rfl w2.heap.size (vec (v ++ [x])) rfl rfl 46 (vec zero9) (heap_alloc_new _ _) ST.out ZT.out (vec_one _) ?_; generalize (w2.alloc (.cells (vec zero9) 46)).setRow w2.heap.size (vec (v ++ [x])) = W2 at *; generalize w2.heap.size = br at *))
  clear K2 hz hz8
  rcases HC.out with ⟨rfl, rfl, rfl⟩ | rfl | ⟨rfl, rfl⟩ | ⟨rfl, rfl, rfl⟩
  · clear HC
    go_wp2_with (first | ((with_reducible refine gate_dst (N := 33) rfl ?_); refine gate_guard (by rfl) ?_; refine wpList_load_row rfl 46 _ rfl br rfl 46 (vec (v ++ [x])) (0, 0) _ (K3.out.get 0 rfl) Try.underlying46 rfl ST.out ?_))
    refine (H3.out _).mono ?_; rintro e w3 ⟨rfl, h3⟩
    have K4 := Hd.mk (K3.out.call h3)
    clear h3 K3
    go_wp2_with (first | ((with_reducible refine gate_dst (N := 38) rfl ?_); refine wpList_load_row rfl 46 _ rfl br rfl 46 (vec (v ++ [x])) (0, 0) _ (K4.out.get 0 rfl) Try.underlying46 rfl ST.out ?_) | ((with_reducible refine gate_store (t := 46) rfl ?_); refine wpList_store_row rfl _ _ _ rfl w.heap.size (vec (v ++ [x])) rfl rfl 46 (vec zero9) (K4.out.get 2 rfl) ST.out ZT.out (vec_one _) ?_))
    exact bodyPost_ret (results_cell_tmp2 (p := 2) (q := 3) (r := 4) rfl _ _ w.heap.size 46 (vec (v ++ [x])) (0, 0) _ rfl (setRow_heap _ _ _ _ _ _ (K4.out.get 2 rfl)) Try.underlying46 rfl ST.out) rfl ⟨by simp, below_setRow K4.out.2 (Nat.le_refl _) _⟩
  · clear HC
    go_wp2_with (first  | ((with_reducible refine gate_dst (N := 37) rfl ?_); refine wpList_build rfl _ _ rfl #[] (by simp) (.agg (vec zero9)) (build_none _) ?_) | ((with_reducible refine gate_store (t := 46) rfl ?_); refine wpList_store_row rfl _ _ _ rfl w.heap.size (vec zero9) rfl rfl 46 (vec zero9) (K3.out.get 2 rfl) size_row rfl (vec_one _) ?_))
    exact bodyPost_ret (results_cell_tmp2 (p := 2) (q := 3) (r := 4) rfl _ _ w.heap.size 46 (vec zero9) (0, 0) _ rfl (setRow_heap _ _ _ _ _ _ (K3.out.get 2 rfl)) Try.underlying46 rfl size_row) rfl ⟨by simp, below_setRow K3.out.2 (Nat.le_refl _) _⟩
  · clear HC
    go_wp2_with (first  | ((with_reducible refine gate_dst (N := 37) rfl ?_); refine wpList_build rfl _ _ rfl #[] (by simp) (.agg (vec zero9)) (build_none _) ?_) | ((with_reducible refine gate_store (t := 46) rfl ?_); refine wpList_store_row rfl _ _ _ rfl w.heap.size (vec zero9) rfl rfl 46 (vec zero9) (K3.out.get 2 rfl) size_row rfl (vec_one _) ?_))
    exact bodyPost_ret (results_cell_tmp2 (p := 2) (q := 3) (r := 4) rfl _ _ w.heap.size 46 (vec zero9) (0, 0) _ rfl (setRow_heap _ _ _ _ _ _ (K3.out.get 2 rfl)) Try.underlying46 rfl size_row) rfl ⟨by simp, below_setRow K3.out.2 (Nat.le_refl _) _⟩
  · clear HC
    go_wp2_with (first | ((with_reducible refine gate_dst (N := 33) rfl ?_); refine gate_guard (by rfl) ?_; refine wpList_load_row rfl 46 _ rfl br rfl 46 (vec (v ++ [x])) (0, 0) _ (K3.out.get 0 rfl) Try.underlying46 rfl ST.out ?_) | ((with_reducible refine gate_dst (N := 37) rfl ?_); refine wpList_build rfl _ _ rfl #[] (by simp) (.agg (vec zero9)) (build_none _) ?_) | ((with_reducible refine gate_store (t := 46) rfl ?_); refine wpList_store_row rfl _ _ _ rfl w.heap.size (vec zero9) rfl rfl 46 (vec zero9) (K3.out.get 2 rfl) size_row rfl (vec_one _) ?_))
    refine (H3.out _).mono ?_; rintro e w3 ⟨rfl, h3⟩
    have K4 := Hd.mk (K3.out.call h3)
    clear h3 K3
    go_wp2_with (first | ((with_reducible refine gate_dst (N := 37) rfl ?_); refine wpList_build rfl _ _ rfl #[] (by simp) (.agg (vec zero9)) (build_none _) ?_) | ((with_reducible refine gate_store (t := 46) rfl ?_); refine wpList_store_row rfl _ _ _ rfl w.heap.size (vec zero9) rfl rfl 46 (vec zero9) (K4.out.get 2 rfl) size_row rfl (vec_one _) ?_))
    exact bodyPost_ret (results_cell_tmp2 (p := 2) (q := 3) (r := 4) rfl _ _ w.heap.size 46 (vec zero9) (0, 0) _ rfl (setRow_heap _ _ _ _ _ _ (K4.out.get 2 rfl)) Try.underlying46 rfl size_row) rfl ⟨by simp, below_setRow K4.out.2 (Nat.le_refl _) _⟩
theorem row_Take (s0 : ByteArray) (hs0 : s0.size ≤ 140737488351232) (w : World) :
    Calls Try.prog 46 #[.string s0] w fun e w' => e = .returned (tvR (tkR s0.data.toList)) ∧ Below w.heap.size w w' := by
  have HV := vec_Take s0 (by omega)
  rw [tkR_of]
  cases hT : tkV s0.data.toList with
  | none =>
    rw [hT] at HV
    have HI := pack_TakeInt ⟨#[]⟩ (by show 0 ≤ _; exact Nat.zero_le _)
    rw [tk_empty] at HI
    have := row_Take_walk s0 zero8 ⟨#[]⟩ 2 0 ⟨#[]⟩ 2 _ rfl w ⟨HV⟩ ⟨HI⟩ ⟨row_May (zero8 ++ [0]) rfl⟩ (Or.inr (Or.inl rfl))
    simpa [tvR] using this
  | some p =>
    obtain ⟨v, q⟩ := p
    rw [hT] at HV
    obtain ⟨hv, hvf, hvm, hcat, hql⟩ := tkV_very hT
    have HI := pack_TakeInt ⟨q.toArray⟩ (by rw [size_of]; first | omega | (unfold maxLen; omega))
    rw [mk_list] at HI
    simp only
    cases hK : tk q 0 0 with
    | none =>
      rw [hK] at HI
      have := row_Take_walk s0 v ⟨q.toArray⟩ 0 0 ⟨#[]⟩ 2 _ hv w ⟨HV⟩ ⟨HI⟩ ⟨row_May (v ++ [0]) (app_len hv 0)⟩ (Or.inr (Or.inr (Or.inl ⟨rfl, rfl⟩)))
      simpa [tvR] using this
    | some p2 =>
      obtain ⟨m, r⟩ := p2
      rw [hK] at HI
      have HM := row_May (v ++ [unzig m]) (app_len hv _)
      cases hm : mayV (v ++ [unzig m]) with
      | false =>
        rw [hm] at HM
        have := row_Take_walk s0 v ⟨q.toArray⟩ 0 (unzig m) ⟨r.toArray⟩ 0 false hv w ⟨HV⟩ ⟨HI⟩ ⟨HM⟩ (Or.inr (Or.inr (Or.inr ⟨rfl, rfl, rfl⟩)))
        simpa [tvR, hm] using this
      | true =>
        rw [hm] at HM
        have := row_Take_walk s0 v ⟨q.toArray⟩ 0 (unzig m) ⟨r.toArray⟩ 0 true hv w ⟨HV⟩ ⟨HI⟩ ⟨HM⟩ (Or.inl ⟨rfl, rfl, rfl⟩)
        simpa [tvR, hm] using this
set_option maxHeartbeats 4000000 in
set_option maxRecDepth 100000 in
theorem ref_rowTake_walk (s0 : ByteArray) (v : List Int) (q : ByteArray) (c1 : Int) (x : Int) (q2 : ByteArray) (c2 : Int) (b : Bool) (hv : v.length = 8) (w : World)
    (H1 : Hd (∀ w, Calls Try.prog 59 #[.string s0] w fun e w' => e = .returned (.tuple #[.agg (vec v), .string q, .int .i64 c1]) ∧ Below w.heap.size w w'))
    (H2 : Hd (∀ w, Calls Try.prog 60 #[.string q] w fun e w' => e = .returned (.tuple #[.int .i64 x, .string q2, .int .i64 c2]) ∧ Below w.heap.size w w'))
    (H3 : Hd (∀ w, Calls Try.prog 50 #[.agg (vec (v ++ [x]))] w fun e w' => e = .returned (.bool b) ∧ Below w.heap.size w w'))
    (hc : (c1 = 0 ∧ c2 = 0 ∧ b = true) ∨ c1 = 2 ∨ (c1 = 0 ∧ c2 = 2) ∨ (c1 = 0 ∧ c2 = 0 ∧ b = false)) :
    Calls Try.prog 47 #[.string s0] w fun e w' => e = .returned (if c1 = 0 ∧ c2 = 0 ∧ b = true then .tuple #[.agg (vec (v ++ [x])), .string q2, .int .i64 0] else .tuple #[.agg (vec zero9), .string ⟨#[]⟩, .int .i64 2]) ∧ Below w.heap.size w w' := by
  have H0 := Hd.mk (Holds.start1 w (.cells (vec zero9) 55))
  have SV := Hd.mk (show (Try.prog.info? 34).map (·.size) = some (vec v).size by rw [vec_size, hv]; exact size_eight9)
  have ZV := Hd.mk (show (vec zero8).size = (vec v).size by rw [vec_size, vec_size, hv]; rfl)
  have ST := Hd.mk (show (Try.prog.info? 55).map (·.size) = some (vec (v ++ [x])).size by rw [vec_size, app_len hv]; exact size_rrow)
  have ZT := Hd.mk (show (vec zero9).size = (vec (v ++ [x])).size by rw [vec_size, vec_size, app_len hv]; rfl)
  have HB := Hd.mk (build_rrow hv x)
  have HC := Hd.mk hc
  have hz := zeroRRow
  have hz8 : ∀ w : World, (zeroValue 34).run Try.prog w = .ok (.agg (vec zero8)) w := fun w => by kernel_rfl
  clear hv hc
  go_enter Try.func47, Try.ntmps47
  go_upto_region 1 with (fail)
  generalize w.alloc (.cells (vec zero9) 55) = W at *
  go_wp2_with fail
  refine (H1.out _).mono ?_; rintro e w1 ⟨rfl, h1⟩
  have K1 := Hd.mk (((H0.out.call h1).fresh (.cells (vec zero8) 34)).set (vec v))
  clear h1 H0
  go_upto_region 2 with (first | ((with_reducible refine gate_store (t := 34) rfl ?_); refine wpList_store_row rfl _ _ _ rfl w1.heap.size (vec v) rfl rfl 34 (vec zero8) (heap_alloc_new _ _) SV.out ZV.out (vec_one _) ?_; generalize (w1.alloc (.cells (vec zero8) 34)).setRow w1.heap.size (vec v) = W1 at *; generalize w1.heap.size = bv at *))
  go_wp2_with fail
  refine (H2.out _).mono ?_; rintro e w2 ⟨rfl, h2⟩
  have K2 := Hd.mk (K1.out.call h2)
  have K3 := Hd.mk ((K2.out.fresh (.cells (vec zero9) 55)).set (vec (v ++ [x])))
  clear h2 K1
  go_upto_region 4 with (first | ((with_reducible refine gate_dst (N := 24) rfl ?_); refine wpList_load_row rfl 34 _ rfl bv rfl 34 (vec v) (0, 0) _ (K2.out.get 0 rfl) Try.underlying34 rfl SV.out ?_) | ((with_reducible refine gate_dst (N := 26) rfl ?_); refine wpList_build rfl _ _ rfl #[(0, .agg (vec v)), (1, .int .i64 x)] (by simp only [List.map_toArray, List.map_cons, List.map_nil]; rfl) (.agg (vec (v ++ [x]))) (HB.out _) ?_) | ((with_reducible refine gate_store (t := 55) rfl ?_); refine wpList_store_row rfl _ _ _ rfl w2.heap.size (vec (v ++ [x])) rfl rfl 55 (vec zero9) (heap_alloc_new _ _) ST.out ZT.out (vec_one _) ?_; generalize (w2.alloc (.cells (vec zero9) 55)).setRow w2.heap.size (vec (v ++ [x])) = W2 at *; generalize w2.heap.size = br at *))
  clear K2 hz hz8
  rcases HC.out with ⟨rfl, rfl, rfl⟩ | rfl | ⟨rfl, rfl⟩ | ⟨rfl, rfl, rfl⟩
  · clear HC
    go_wp2_with (first | ((with_reducible refine gate_dst (N := 34) rfl ?_); refine gate_guard (by rfl) ?_; refine wpList_load_row rfl 55 _ rfl br rfl 55 (vec (v ++ [x])) (0, 0) _ (K3.out.get 0 rfl) Try.underlying55 rfl ST.out ?_))
    refine (H3.out _).mono ?_; rintro e w3 ⟨rfl, h3⟩
    have K4 := Hd.mk (K3.out.call h3)
    clear h3 K3
    go_wp2_with (first | ((with_reducible refine gate_dst (N := 39) rfl ?_); refine wpList_load_row rfl 55 _ rfl br rfl 55 (vec (v ++ [x])) (0, 0) _ (K4.out.get 0 rfl) Try.underlying55 rfl ST.out ?_) | ((with_reducible refine gate_store (t := 55) rfl ?_); refine wpList_store_row rfl _ _ _ rfl w.heap.size (vec (v ++ [x])) rfl rfl 55 (vec zero9) (K4.out.get 2 rfl) ST.out ZT.out (vec_one _) ?_))
    exact bodyPost_ret (results_cell_tmp2 (p := 2) (q := 3) (r := 4) rfl _ _ w.heap.size 55 (vec (v ++ [x])) (0, 0) _ rfl (setRow_heap _ _ _ _ _ _ (K4.out.get 2 rfl)) Try.underlying55 rfl ST.out) rfl ⟨by simp, below_setRow K4.out.2 (Nat.le_refl _) _⟩
  · clear HC
    go_wp2_with (first  | ((with_reducible refine gate_dst (N := 38) rfl ?_); refine wpList_build rfl _ _ rfl #[] (by simp) (.agg (vec zero9)) (build_rnone _) ?_) | ((with_reducible refine gate_store (t := 55) rfl ?_); refine wpList_store_row rfl _ _ _ rfl w.heap.size (vec zero9) rfl rfl 55 (vec zero9) (K3.out.get 2 rfl) size_rrow rfl (vec_one _) ?_))
    exact bodyPost_ret (results_cell_tmp2 (p := 2) (q := 3) (r := 4) rfl _ _ w.heap.size 55 (vec zero9) (0, 0) _ rfl (setRow_heap _ _ _ _ _ _ (K3.out.get 2 rfl)) Try.underlying55 rfl size_rrow) rfl ⟨by simp, below_setRow K3.out.2 (Nat.le_refl _) _⟩
  · clear HC
    go_wp2_with (first  | ((with_reducible refine gate_dst (N := 38) rfl ?_); refine wpList_build rfl _ _ rfl #[] (by simp) (.agg (vec zero9)) (build_rnone _) ?_) | ((with_reducible refine gate_store (t := 55) rfl ?_); refine wpList_store_row rfl _ _ _ rfl w.heap.size (vec zero9) rfl rfl 55 (vec zero9) (K3.out.get 2 rfl) size_rrow rfl (vec_one _) ?_))
    exact bodyPost_ret (results_cell_tmp2 (p := 2) (q := 3) (r := 4) rfl _ _ w.heap.size 55 (vec zero9) (0, 0) _ rfl (setRow_heap _ _ _ _ _ _ (K3.out.get 2 rfl)) Try.underlying55 rfl size_rrow) rfl ⟨by simp, below_setRow K3.out.2 (Nat.le_refl _) _⟩
  · clear HC
    go_wp2_with (first | ((with_reducible refine gate_dst (N := 34) rfl ?_); refine gate_guard (by rfl) ?_; refine wpList_load_row rfl 55 _ rfl br rfl 55 (vec (v ++ [x])) (0, 0) _ (K3.out.get 0 rfl) Try.underlying55 rfl ST.out ?_) | ((with_reducible refine gate_dst (N := 38) rfl ?_); refine wpList_build rfl _ _ rfl #[] (by simp) (.agg (vec zero9)) (build_rnone _) ?_) | ((with_reducible refine gate_store (t := 55) rfl ?_); refine wpList_store_row rfl _ _ _ rfl w.heap.size (vec zero9) rfl rfl 55 (vec zero9) (K3.out.get 2 rfl) size_rrow rfl (vec_one _) ?_))
    refine (H3.out _).mono ?_; rintro e w3 ⟨rfl, h3⟩
    have K4 := Hd.mk (K3.out.call h3)
    clear h3 K3
    go_wp2_with (first | ((with_reducible refine gate_dst (N := 38) rfl ?_); refine wpList_build rfl _ _ rfl #[] (by simp) (.agg (vec zero9)) (build_rnone _) ?_) | ((with_reducible refine gate_store (t := 55) rfl ?_); refine wpList_store_row rfl _ _ _ rfl w.heap.size (vec zero9) rfl rfl 55 (vec zero9) (K4.out.get 2 rfl) size_rrow rfl (vec_one _) ?_))
    exact bodyPost_ret (results_cell_tmp2 (p := 2) (q := 3) (r := 4) rfl _ _ w.heap.size 55 (vec zero9) (0, 0) _ rfl (setRow_heap _ _ _ _ _ _ (K4.out.get 2 rfl)) Try.underlying55 rfl size_rrow) rfl ⟨by simp, below_setRow K4.out.2 (Nat.le_refl _) _⟩
theorem ref_rowTake (s0 : ByteArray) (hs0 : s0.size ≤ 140737488351232) (w : World) :
    Calls Try.prog 47 #[.string s0] w fun e w' => e = .returned (tvR (tkR s0.data.toList)) ∧ Below w.heap.size w w' := by
  have HV := ref_vecTake s0 (by omega)
  rw [tkR_of]
  cases hT : tkV s0.data.toList with
  | none =>
    rw [hT] at HV
    have HI := ref_TakeInt ⟨#[]⟩ (by show 0 ≤ _; exact Nat.zero_le _)
    rw [tk_empty] at HI
    have := ref_rowTake_walk s0 zero8 ⟨#[]⟩ 2 0 ⟨#[]⟩ 2 _ rfl w ⟨HV⟩ ⟨HI⟩ ⟨ref_rowMay (zero8 ++ [0]) rfl⟩ (Or.inr (Or.inl rfl))
    simpa [tvR] using this
  | some p =>
    obtain ⟨v, q⟩ := p
    rw [hT] at HV
    obtain ⟨hv, hvf, hvm, hcat, hql⟩ := tkV_very hT
    have HI := ref_TakeInt ⟨q.toArray⟩ (by rw [size_of]; first | omega | (unfold maxLen; omega))
    rw [mk_list] at HI
    simp only
    cases hK : tk q 0 0 with
    | none =>
      rw [hK] at HI
      have := ref_rowTake_walk s0 v ⟨q.toArray⟩ 0 0 ⟨#[]⟩ 2 _ hv w ⟨HV⟩ ⟨HI⟩ ⟨ref_rowMay (v ++ [0]) (app_len hv 0)⟩ (Or.inr (Or.inr (Or.inl ⟨rfl, rfl⟩)))
      simpa [tvR] using this
    | some p2 =>
      obtain ⟨m, r⟩ := p2
      rw [hK] at HI
      have HM := ref_rowMay (v ++ [unzig m]) (app_len hv _)
      cases hm : mayV (v ++ [unzig m]) with
      | false =>
        rw [hm] at HM
        have := ref_rowTake_walk s0 v ⟨q.toArray⟩ 0 (unzig m) ⟨r.toArray⟩ 0 false hv w ⟨HV⟩ ⟨HI⟩ ⟨HM⟩ (Or.inr (Or.inr (Or.inr ⟨rfl, rfl, rfl⟩)))
        simpa [tvR, hm] using this
      | true =>
        rw [hm] at HM
        have := ref_rowTake_walk s0 v ⟨q.toArray⟩ 0 (unzig m) ⟨r.toArray⟩ 0 true hv w ⟨HV⟩ ⟨HI⟩ ⟨HM⟩ (Or.inl ⟨rfl, rfl, rfl⟩)
        simpa [tvR, hm] using this
set_option maxHeartbeats 4000000 in
set_option maxRecDepth 100000 in
theorem ref_rowMerge (a b : List Int) (ha : a.length = 9) (hb : b.length = 9) (w : World) :
    Calls Try.prog 35 #[.agg (vec a), .agg (vec b)] w fun e w' => e = .returned (.agg (vec (joinL a b))) ∧ Below w.heap.size w w' := by
  obtain ⟨s, x, hs, rfl⟩ := nine ha
  obtain ⟨u, y, hu, rfl⟩ := nine hb
  have hz := zeroRRow
  have H0 := Hd.mk (Holds.start3 w (.cells (vec (s ++ [x])) 55) (.cells (vec (u ++ [y])) 55) (.cells (vec zero9) 55))
  have HJ := Hd.mk (ref_vecJoin s u hs hu)
  have HX := Hd.mk (app_at hs x)
  have HY := Hd.mk (app_at hu y)
  have HTs := Hd.mk (app_take hs x)
  have HTu := Hd.mk (app_take hu y)
  have HLs := Hd.mk (app_len hs x)
  have HLu := Hd.mk (app_len hu y)
  have HBL : Hd ((joinL s u).length = 8) := ⟨bothL_len hs hu⟩
  have HBR := Hd.mk (build_rrow (s := joinL s u) HBL.out x)
  have e : joinL (s ++ [x]) (u ++ [y]) = joinL s u ++ [mx x y] := bothL_app hs hu x y
  rw [e]
  have HL9 : Hd ((joinL s u ++ [mx x y]).length = 9) := ⟨app_len HBL.out _⟩
  have HL8 : Hd ((joinL s u ++ [x]).length = 9) := ⟨app_len HBL.out _⟩
  have HSET : Hd ((vec (joinL s u ++ [x])).setIfInBounds 8 (.int .i64 y) = vec (joinL s u ++ [y])) := ⟨by rw [vec_set, List.set_append_right _ _ (by rw [HBL.out]; omega), HBL.out]; rfl⟩
  have HJX := Hd.mk (app_at HBL.out x)
  clear e ha hb hs hu
  generalize joinL s u = j at *
  go_enter Try.func35, Try.ntmps35
  go_upto_region 1 with (fail)
  clear hz
  generalize ((w.alloc (.cells (vec (s ++ [x])) 55)).alloc (.cells (vec (u ++ [y])) 55)).alloc (.cells (vec zero9) 55) = W at *
  refine start_ (n := 10) (S := fun W_ => Holds w [(w.heap.size + 1 + 1, .cells (vec zero9) 55 (0, 0)), (w.heap.size + 1, .cells (vec (u ++ [y])) 55 (0, 0)), (w.heap.size, .cells (vec (s ++ [x])) 55 (0, 0))] W_) (ds := [9]) #[false, false, false, false, false, false, false, false, false, false] (by kernel_rfl) rfl rfl (H0.out.drew) (fun hHeld => ?_)
  refine pure_ (i := 0) (N := some 6) (v := ?_) (a' := ?_) #[true, false, false, false, false, false, false, false, false, false] rfl rfl (by kernel_rfl) (fun _ _ _ h => h) (Or.inl ⟨by rfl, ?_⟩) ?_ ?_
  rotate_left
  · intro w_
    go_simp
    try with_reducible rfl
  rotate_left
  · simp only [Act.put, List.setIfInBounds_toArray, List.set_cons_zero, List.set_cons_succ]
    rfl
  refine take_ (i := 1) (N := some 7) (v := .agg (vec s)) (a' := ?_) #[true, true, false, false, false, false, false, false, false, false] rfl rfl (by kernel_rfl) (fun _ _ _ h => h) (Or.inl ⟨by rfl, fun w' h => by rw [← HTs.out]; exact run_load_vec 34 _ rfl w.heap.size 0 8 rfl (s ++ [x]) 55 (0, 0) (h.get 2 rfl) _ Try.underlying34 rfl size_eight9 (by rw [HLs.out]; omega)⟩) hHeld ?_ ?_
  rotate_left
  · simp only [Act.put, List.setIfInBounds_toArray, List.set_cons_zero, List.set_cons_succ]
    rfl
  refine pure_ (i := 2) (N := some 8) (v := ?_) (a' := ?_) #[true, true, true, false, false, false, false, false, false, false] rfl rfl (by kernel_rfl) (fun _ _ _ h => h) (Or.inl ⟨by rfl, ?_⟩) ?_ ?_
  rotate_left
  · intro w_
    go_simp
    try with_reducible rfl
  rotate_left
  · simp only [Act.put, List.setIfInBounds_toArray, List.set_cons_zero, List.set_cons_succ]
    rfl
  refine take_ (i := 3) (N := some 9) (v := .agg (vec u)) (a' := ?_) #[true, true, true, true, false, false, false, false, false, false] rfl rfl (by kernel_rfl) (fun _ _ _ h => h) (Or.inl ⟨by rfl, fun w' h => by rw [← HTu.out]; exact run_load_vec 34 _ rfl (w.heap.size + 1) 0 8 rfl (u ++ [y]) 55 (0, 0) (h.get 1 rfl) _ Try.underlying34 rfl size_eight9 (by rw [HLu.out]; omega)⟩) hHeld ?_ ?_
  rotate_left
  · simp only [Act.put, List.setIfInBounds_toArray, List.set_cons_zero, List.set_cons_succ]
    rfl
  refine pure_ (i := 5) (N := some 11) (v := ?_) (a' := ?_) #[true, true, true, true, false, true, false, false, false, false] rfl rfl (by kernel_rfl) (fun _ _ _ h => h) (Or.inl ⟨by rfl, ?_⟩) ?_ ?_
  rotate_left
  · intro w_
    go_simp
    try with_reducible rfl
  rotate_left
  · simp only [Act.put, List.setIfInBounds_toArray, List.set_cons_zero, List.set_cons_succ]
    rfl
  refine take_ (i := 6) (N := some 12) (v := .int .i64 x) (a' := ?_) #[true, true, true, true, false, true, true, false, false, false] rfl rfl (by kernel_rfl) (fun _ _ _ h => h) (Or.inl ⟨by rfl, fun w' h => by have hc : w'.cell? ⟨w.heap.size, 8, none⟩ = some (.int .i64 x) := (by rw [cell_of_row w' _ 8 _ _ _ (h.get 2 rfl)]; exact HX.out); go_simp⟩) hHeld ?_ ?_
  rotate_left
  · simp only [Act.put, List.setIfInBounds_toArray, List.set_cons_zero, List.set_cons_succ]
    rfl
  refine join_ (σ := Nat) 1 #[true, true, true, true, true, true, true, true, true, false] (fun q => [(10, .agg (vec j)), (13, .agg (vec (j ++ [x]))), (5, .pointer (some ⟨q, 0, none⟩))]) (fun q w_ => NewHolds w q (.cells (vec zero9) 55 (0, 0)) ([(w.heap.size + 1 + 1, .cells (vec zero9) 55 (0, 0)), (w.heap.size + 1, .cells (vec (u ++ [y])) 55 (0, 0)), (w.heap.size, .cells (vec (s ++ [x])) 55 (0, 0))]) w_) ?_ (fun hcont => ?_)
  rotate_left
  · skip
    refine two_ (i := 4) (j := 8) (Ni := some 10) (Nj := some 5) #[true, true, true, true, true, true, true, false, false, false] #[true, true, true, true, false, true, true, false, true, false] rfl rfl rfl rfl (by kernel_rfl) (by decide) (by decide) (fun K hK => ?_) (fun K hK => ?_)
    · skip
      refine goes_ Try.func55 (by kernel_rfl) rfl #[.agg (vec s), .agg (vec u)] (by rfl) rfl rfl (by (try simp only [List.map_toArray, List.map_cons, List.map_nil]); first | done | rfl) ?_
      (with_reducible refine (HJ.out _).mono ?_)
      rintro e wq1 ⟨rfl, hq1⟩
      refine ⟨_, rfl, ?_⟩
      refine hK.out _ _ (hHeld.call hq1) (fun hHeld => ?_)
      clear hK K
      refine norm_ (a' := ?_) ?_ ?_
      rotate_left
      · show Act.put _ (some 10) _ = _
        simp only [Act.put, List.setIfInBounds_toArray, List.set_cons_zero, List.set_cons_succ]
        rfl
      refine pure_ (i := 7) (N := some 13) (v := .agg (vec (j ++ [x]))) (a' := ?_) #[true, true, true, true, true, true, true, true, false, false] rfl rfl (by kernel_rfl) (fun _ _ _ h => h) (Or.inl ⟨by rfl, ?_⟩) ?_ ?_
      · intro w_
        have hb := HBR.out w_; unfold execOp; simp only [Act.eval]; simp [hb]
      rotate_left
      · simp only [Act.put, List.setIfInBounds_toArray, List.set_cons_zero, List.set_cons_succ]
        rfl
      refine one_ (i := 8) (N := some 5) #[true, true, true, true, true, true, true, true, true, false] rfl rfl (by kernel_rfl) (by decide) (fun K hK => ?_)
      refine value_ (by rfl) rfl (run_alloc_rrow rfl) ?_
      have HQ := hHeld.fresh (.cells (vec zero9) 55 (0, 0))
      refine hK.out _ _ HQ.tail (fun hHeld => ?_)
      clear hK K
      refine norm_ (a' := ?_) ?_ ?_
      rotate_left
      · show Act.put _ (some 5) _ = _
        simp only [Act.put, List.setIfInBounds_toArray, List.set_cons_zero, List.set_cons_succ]
        rfl
      have fin := hcont _ _ HQ
      simp only [putAll, Act.put, List.setIfInBounds_toArray, List.set_cons_zero, List.set_cons_succ] at fin
      exact fin
    · skip
      refine value_ (by rfl) rfl (run_alloc_rrow rfl) ?_
      have HQ := hHeld.fresh (.cells (vec zero9) 55 (0, 0))
      refine hK.out _ _ HQ.tail (fun hHeld => ?_)
      clear hK K
      refine norm_ (a' := ?_) ?_ ?_
      rotate_left
      · show Act.put _ (some 5) _ = _
        simp only [Act.put, List.setIfInBounds_toArray, List.set_cons_zero, List.set_cons_succ]
        rfl
      refine one_ (i := 4) (N := some 10) #[true, true, true, true, true, true, true, false, true, false] rfl rfl (by kernel_rfl) (by decide) (fun K hK => ?_)
      refine goes_ Try.func55 (by kernel_rfl) rfl #[.agg (vec s), .agg (vec u)] (by rfl) rfl rfl (by (try simp only [List.map_toArray, List.map_cons, List.map_nil]); first | done | rfl) ?_
      (with_reducible refine (HJ.out _).mono ?_)
      rintro e wq2 ⟨rfl, hq2⟩
      refine ⟨_, rfl, ?_⟩
      refine hK.out _ _ (hHeld.call hq2) (fun hHeld => ?_)
      clear hK K
      replace HQ := HQ.call hq2
      refine norm_ (a' := ?_) ?_ ?_
      rotate_left
      · show Act.put _ (some 10) _ = _
        simp only [Act.put, List.setIfInBounds_toArray, List.set_cons_zero, List.set_cons_succ]
        rfl
      refine pure_ (i := 7) (N := some 13) (v := .agg (vec (j ++ [x]))) (a' := ?_) #[true, true, true, true, true, true, true, true, true, false] rfl rfl (by kernel_rfl) (fun _ _ _ h => h) (Or.inl ⟨by rfl, ?_⟩) ?_ ?_
      · intro w_
        have hb := HBR.out w_; unfold execOp; simp only [Act.eval]; simp [hb]
      rotate_left
      · simp only [Act.put, List.setIfInBounds_toArray, List.set_cons_zero, List.set_cons_succ]
        rfl
      have fin := hcont _ _ HQ
      simp only [putAll, Act.put, List.setIfInBounds_toArray, List.set_cons_zero, List.set_cons_succ] at fin
      exact fin
  intro q wq HQ
  simp only [putAll, Act.put, List.setIfInBounds_toArray, List.set_cons_zero, List.set_cons_succ]
  refine last_ (i := 9) (N := none) #[true, true, true, true, true, true, true, true, true, true] rfl rfl (by kernel_rfl) (by decide) (fun K hK => ?_)
  refine skip_ (by rfl) rfl (run_store_vec 55 _ _ rfl q 0 (j ++ [x]) rfl rfl zero9 55 (HQ.1.get 0 rfl) (by rw [HL8.out]; exact size_rrow) (by rw [HL8.out]; exact Nat.le_refl _)) ?_
  refine hK.out _ _ ?_
  clear hK K
  refine done_ (by kernel_rfl) ?_
  have HQ1 : Hd (Holds w [(q, .cells (vec (j ++ [x])) 55 (0, 0)), (w.heap.size + 1 + 1, .cells (vec zero9) 55 (0, 0)), (w.heap.size + 1, .cells (vec (u ++ [y])) 55 (0, 0)), (w.heap.size, .cells (vec (s ++ [x])) 55 (0, 0))] (wq.setCells q 0 (vec (j ++ [x])).toList)) := ⟨by
    refine ⟨?_, below_setCells HQ.1.2 HQ.2.1 _ _⟩
    intro p hp
    rcases List.mem_cons.1 hp with rfl | hp
    · show _ = some (Obj.cells _ _ _)
      rw [setCells_vec _ _ _ _ _ (HQ.1.get 0 rfl) (by rw [HL8.out]; exact Nat.le_refl _), layL_full (by rw [HL8.out]; rfl)]
    · exact ((setCells_keep q _ 0 wq).2.2.2.2 p.1 (Nat.ne_of_lt (HQ.2.2 p hp))).trans (HQ.1.1 p (List.mem_cons_of_mem _ hp))⟩
  have HQ2 := Hd.mk (⟨HQ.2.1, fun p hp => Nat.ne_of_lt (HQ.2.2 p hp)⟩ : _ ∧ _)
  clear HQ hHeld H0
  generalize wq.setCells q 0 (vec (j ++ [x])).toList = W1 at *
  have cx : W1.cell? ⟨w.heap.size, 8, none⟩ = some (.int .i64 x) := by rw [cell_of_row W1 _ 8 _ _ _ (HQ1.out.get 3 rfl)]; exact HX.out
  have cy : W1.cell? ⟨w.heap.size + 1, 8, none⟩ = some (.int .i64 y) := by rw [cell_of_row W1 _ 8 _ _ _ (HQ1.out.get 2 rfl)]; exact HY.out
  have cq : W1.cell? ⟨q, 8, none⟩ = some (.int .i64 x) := by rw [cell_of_row W1 _ 8 _ _ _ (HQ1.out.get 0 rfl)]; exact HJX.out
  have fq : W1.frozen? ⟨q, 8, none⟩ = false := frozen_of_row W1 _ 8 _ _ (HQ1.out.get 0 rfl)
  by_cases hxy : x < y
  · have hm : Hd (mx x y = y) := ⟨by unfold mx; rw [if_pos hxy]⟩
    go_upto_region 4 with (fail)
    have HW : Hd (Holds w [(q, .cells (vec (j ++ [mx x y])) 55 (0, 0)), (w.heap.size + 1 + 1, .cells (vec zero9) 55 (0, 0)), (w.heap.size + 1, .cells (vec (u ++ [y])) 55 (0, 0)), (w.heap.size, .cells (vec (s ++ [x])) 55 (0, 0))] (W1.setCell ⟨q, 8, none⟩ (.int .i64 y))) := ⟨by rw [hm.out, ← HSET.out]; exact Holds_cell HQ1.out 8 _ HQ2.out.1 HQ2.out.2⟩
    clear HQ1 cx cy cq fq
    generalize W1.setCell ⟨q, 8, none⟩ (.int .i64 y) = W2 at *
    go_wp2_with (first | ((with_reducible refine gate_dst (N := 22) rfl ?_); refine wpList_load_row rfl 55 _ rfl q rfl 55 (vec (j ++ [mx x y])) (0, 0) _ (HW.out.get 0 rfl) Try.underlying55 rfl (by rw [vec_size, HL9.out]; exact size_rrow) ?_) | ((with_reducible refine gate_store (t := 55) rfl ?_); refine wpList_store_row rfl _ _ _ rfl (w.heap.size + 1 + 1) (vec (j ++ [mx x y])) rfl rfl 55 (vec zero9) (HW.out.get 1 rfl) (by rw [vec_size, HL9.out]; exact size_rrow) (by rw [vec_size, vec_size, HL9.out]; rfl) (vec_one _) ?_))
    exact bodyPost_ret (results_cell_row (p := 4) rfl _ _ (w.heap.size + 1 + 1) 55 (vec (j ++ [mx x y])) (0, 0) _ rfl (setRow_heap _ _ _ _ _ _ (HW.out.get 1 rfl)) Try.underlying55 rfl (by rw [vec_size, HL9.out]; exact size_rrow)) rfl ⟨rfl, below_setRow HW.out.2 (by omega) _⟩
  · have hm : Hd (mx x y = x) := ⟨by unfold mx; rw [if_neg hxy]⟩
    have HW : Hd (Holds w [(q, .cells (vec (j ++ [mx x y])) 55 (0, 0)), (w.heap.size + 1 + 1, .cells (vec zero9) 55 (0, 0)), (w.heap.size + 1, .cells (vec (u ++ [y])) 55 (0, 0)), (w.heap.size, .cells (vec (s ++ [x])) 55 (0, 0))] W1) := ⟨by rw [hm.out]; exact HQ1.out⟩
    clear HQ1
    go_wp2_with (first | ((with_reducible refine gate_dst (N := 22) rfl ?_); refine wpList_load_row rfl 55 _ rfl q rfl 55 (vec (j ++ [mx x y])) (0, 0) _ (HW.out.get 0 rfl) Try.underlying55 rfl (by rw [vec_size, HL9.out]; exact size_rrow) ?_) | ((with_reducible refine gate_store (t := 55) rfl ?_); refine wpList_store_row rfl _ _ _ rfl (w.heap.size + 1 + 1) (vec (j ++ [mx x y])) rfl rfl 55 (vec zero9) (HW.out.get 1 rfl) (by rw [vec_size, HL9.out]; exact size_rrow) (by rw [vec_size, vec_size, HL9.out]; rfl) (vec_one _) ?_))
    exact bodyPost_ret (results_cell_row (p := 4) rfl _ _ (w.heap.size + 1 + 1) 55 (vec (j ++ [mx x y])) (0, 0) _ rfl (setRow_heap _ _ _ _ _ _ (HW.out.get 1 rfl)) Try.underlying55 rfl (by rw [vec_size, HL9.out]; exact size_rrow)) rfl ⟨rfl, below_setRow HW.out.2 (by omega) _⟩
end Go.Proofs.Ytkjlakjihjfjdaa
