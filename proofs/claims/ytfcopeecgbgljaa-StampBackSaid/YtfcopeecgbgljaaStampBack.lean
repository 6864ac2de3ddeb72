/- What a stamp that may be was put as is taken, whatever stands behind; what may not isn't; what is taken has the very bytes: the law returns true, whatever comes in. -/
import Derived.Test.YtfcopeecgbgljaaStampWalk
import Derived.Test.YtfcopeecgbgljaaKeep
import Derived.Test.YtfcopeecgbgljaaStampPureStampOrder
namespace Go.Proofs.Ytfcopeecgbgljaa.stampBack
open Go.RowKit Go.Proofs.YtfcopeecgbgljaaW.PrintWords Go.Proofs.YtfcopeecgbgljaaW.PrintLast Go.Proofs.YtfcopeecgbgljaaW.PrintMore Pk
attribute [local go_sem high] eqStamp
set_option linter.unusedVariables false
set_option linter.unusedSimpArgs false

theorem shown_calls (w : World) : Calls Try.prog 21 #[] w fun e w' => e = .returned (.bool true) ∧ Below w.heap.size w w' := PStampOrder.thimblelaw03_shown.calls 3 true w (PureStampOrder.shown_f 0)

theorem tkS_put (t r : Int) (ht : -9223372036854775808 ≤ t ∧ t ≤ 9223372036854775807) (hr : -9223372036854775808 ≤ r ∧ r ≤ 9223372036854775807) (s : ByteArray) :
    tkS (putS t r ++ s).data.toList = if mayS t r = true then some (t, r, s.data.toList) else none := by
  have e : (putS t r ++ s).data.toList = numB (zig t) ++ (numB (zig r) ++ s.data.toList) := by
    unfold putS; rw [append_list, append_list, numB_str, numB_str]; simp
  rw [e]
  unfold tkS
  rw [tk_back (zig_lt ht.1 ht.2)]
  show (match tk (numB (zig r) ++ s.data.toList) 0 0 with | none => none | some (m, q) => _) = _
  rw [tk_back (zig_lt hr.1 hr.2), unzig_zig]
  show (if mayS t (unzig (zig r)) = true then some (t, unzig (zig r), s.data.toList) else none) = _
  rw [unzig_zig]
theorem tkS_very {s : ByteArray} {t r : Int} {q : List UInt8} (h : tkS s.data.toList = some (t, r, q)) :
    putS t r ++ ⟨q.toArray⟩ = s ∧ mayS t r = true ∧ (-9223372036854775808 ≤ t ∧ t ≤ 9223372036854775807) ∧ (-9223372036854775808 ≤ r ∧ r ≤ 9223372036854775807) ∧ q.length ≤ s.size := by
  unfold tkS at h
  cases hT : tk s.data.toList 0 0 with
  | none => rw [hT] at h; simp at h
  | some p =>
    obtain ⟨n, r1⟩ := p
    rw [hT] at h
    change (match tk r1 0 0 with | none => none | some (m, q) => if mayS (unzig n) (unzig m) = true then some (unzig n, unzig m, q) else none) = _ at h
    cases hT2 : tk r1 0 0 with
    | none => rw [hT2] at h; simp at h
    | some p2 =>
      obtain ⟨m, q2⟩ := p2
      rw [hT2] at h
      change (if mayS (unzig n) (unzig m) = true then some (unzig n, unzig m, q2) else none) = _ at h
      split at h
      · rename_i hm
        simp only [Option.some.injEq, Prod.mk.injEq] at h
        obtain ⟨rfl, rfl, rfl⟩ := h
        have b1 := tk_bytes hT
        have b2 := tk_bytes hT2
        have l1 := tk_len _ _ _ _ _ hT
        have l2 := tk_len _ _ _ _ _ hT2
        have hsl : s.data.toList.length = s.size := rfl
        refine ⟨?_, hm, unzig_bd (tk_bd _ _ _ _ _ (by decide) (by decide) hT), unzig_bd (tk_bd _ _ _ _ _ (by decide) (by decide) hT2), by omega⟩
        unfold putS
        rw [zig_unzig, zig_unzig, numB_str, numB_str, mk_append, mk_append, List.append_assoc, ← b2, ← b1]
      · simp at h

set_option maxHeartbeats 2000000 in
set_option maxRecDepth 100000 in
/-- The walk: whatever the two takes tell. -/
theorem walk (t r : Int) (s p q1 q2 : ByteArray) (x1 x2 y1 y2 c1 c2 : Int) (b : Bool) (hs : s.size ≤ 2000) (hps : p.size ≤ 20) (w : World)
    (H0 : Hd (∀ w, Calls Try.prog 21 #[] w fun e w' => e = .returned (.bool true) ∧ Below w.heap.size w w'))
    (H1 : Hd (∀ w, Calls Try.prog 36 #[.agg #[.int .i64 t, .int .i64 r]] w fun e w' => e = .returned (.string p) ∧ Below w.heap.size w w'))
    (H2 : Hd (∀ w, Calls Try.prog 35 #[.string (p ++ s)] w fun e w' => e = .returned (.tuple #[.agg #[.int .i64 x1, .int .i64 x2], .string q1, .int .i64 c1]) ∧ Below w.heap.size w w'))
    (H3 : Hd (∀ w, Calls Try.prog 35 #[.string s] w fun e w' => e = .returned (.tuple #[.agg #[.int .i64 y1, .int .i64 y2], .string q2, .int .i64 c2]) ∧ Below w.heap.size w w'))
    (H4 : Hd (∀ w, Calls Try.prog 24 #[.agg #[.int .i64 t, .int .i64 r]] w fun e w' => e = .returned (.bool b) ∧ Below w.heap.size w w'))
    (hb : (b = true ∧ t = x1 ∧ r = x2 ∧ s = q1 ∧ c1 = 0) ∨ (b = false ∧ q1 = ⟨#[]⟩ ∧ c1 = 2))
    (p2 : ByteArray) (hp2 : p2.size ≤ 20) (hq2 : q2.size ≤ 2000)
    (H5 : Hd (∀ w, Calls Try.prog 36 #[.agg #[.int .i64 y1, .int .i64 y2]] w fun e w' => e = .returned (.string p2) ∧ Below w.heap.size w w'))
    (H6 : Hd (∀ w, Calls Try.prog 24 #[.agg #[.int .i64 y1, .int .i64 y2]] w fun e w' => e = .returned (.bool true) ∧ Below w.heap.size w w'))
    (hc : (c2 = 0 ∧ p2 ++ q2 = s) ∨ c2 = 2) :
    Calls Try.prog 12 #[.agg #[.int .i64 t, .int .i64 r], .string s] w fun e w' => e = .returned (.bool true) ∧ Below w.heap.size w w' := by
  have hB := Hd.mk hb
  have hC := Hd.mk hc
  clear hb hc
  have a0 : (w.alloc (.cells #[.int .i64 t, .int .i64 r] 35)).cell? ⟨w.heap.size, 0, none⟩ = some (.int .i64 t) := by rw [cell_of_row _ _ 0 _ _ _ (heap_alloc_new w _)]; rfl
  have a1 : (w.alloc (.cells #[.int .i64 t, .int .i64 r] 35)).cell? ⟨w.heap.size, 1, none⟩ = some (.int .i64 r) := by rw [cell_of_row _ _ 1 _ _ _ (heap_alloc_new w _)]; rfl
  have al : w.heap.size < (w.alloc (.cells #[.int .i64 t, .int .i64 r] 35)).heap.size := by simp
  have kb : Below w.heap.size w (w.alloc (.cells #[.int .i64 t, .int .i64 r] 35)) := (Below.refl _ _).alloc (Nat.le_refl _) _
  go_enter Try.func12, Try.ntmps12
  go_wp2_with fail
  generalize w.alloc (.cells #[.int .i64 t, .int .i64 r] 35) = W0 at *
  refine (H0.out _).mono ?_; rintro e ws1 ⟨rfl, hs1⟩
  replace a0 : ws1.cell? ⟨w.heap.size, 0, none⟩ = some _ := (hs1.cell (p := ⟨w.heap.size, 0, none⟩) al).trans a0
  replace a1 : ws1.cell? ⟨w.heap.size, 1, none⟩ = some _ := (hs1.cell (p := ⟨w.heap.size, 1, none⟩) al).trans a1
  replace al : w.heap.size < ws1.heap.size := Nat.lt_of_lt_of_le al hs1.size
  replace kb : Below w.heap.size w ws1 := below_step kb hs1
  clear hs1
  go_wp2_with fail
  refine (H1.out _).mono ?_; rintro e ws2 ⟨rfl, hs2⟩
  replace a0 : ws2.cell? ⟨w.heap.size, 0, none⟩ = some _ := (hs2.cell (p := ⟨w.heap.size, 0, none⟩) al).trans a0
  replace a1 : ws2.cell? ⟨w.heap.size, 1, none⟩ = some _ := (hs2.cell (p := ⟨w.heap.size, 1, none⟩) al).trans a1
  replace al : w.heap.size < ws2.heap.size := Nat.lt_of_lt_of_le al hs2.size
  replace kb : Below w.heap.size w ws2 := below_step kb hs2
  clear hs2
  go_wp2_with fail
  refine (H2.out _).mono ?_; rintro e ws3 ⟨rfl, hs3⟩
  replace a0 : ws3.cell? ⟨w.heap.size, 0, none⟩ = some _ := (hs3.cell (p := ⟨w.heap.size, 0, none⟩) al).trans a0
  replace a1 : ws3.cell? ⟨w.heap.size, 1, none⟩ = some _ := (hs3.cell (p := ⟨w.heap.size, 1, none⟩) al).trans a1
  replace al : w.heap.size < ws3.heap.size := Nat.lt_of_lt_of_le al hs3.size
  replace kb : Below w.heap.size w ws3 := below_step kb hs3
  clear hs3
  go_upto_region 5 with (fail)
  replace a0 : (ws3.alloc (.cells #[.int .i64 x1, .int .i64 x2] 35)).cell? ⟨w.heap.size, 0, none⟩ = some _ := (World.cell?_alloc_past _ _ _ al).trans a0
  replace a1 : (ws3.alloc (.cells #[.int .i64 x1, .int .i64 x2] 35)).cell? ⟨w.heap.size, 1, none⟩ = some _ := (World.cell?_alloc_past _ _ _ al).trans a1
  replace al : w.heap.size < (ws3.alloc (.cells #[.int .i64 x1, .int .i64 x2] 35)).heap.size := by simp; omega
  have cx0 : (ws3.alloc (.cells #[.int .i64 x1, .int .i64 x2] 35)).cell? ⟨ws3.heap.size, 0, none⟩ = some (.int .i64 x1) := by rw [cell_of_row _ _ 0 _ _ _ (heap_alloc_new ws3 _)]; rfl
  have cx1 : (ws3.alloc (.cells #[.int .i64 x1, .int .i64 x2] 35)).cell? ⟨ws3.heap.size, 1, none⟩ = some (.int .i64 x2) := by rw [cell_of_row _ _ 1 _ _ _ (heap_alloc_new ws3 _)]; rfl
  have cxl : ws3.heap.size < (ws3.alloc (.cells #[.int .i64 x1, .int .i64 x2] 35)).heap.size := by simp
  replace kb : Below w.heap.size w (ws3.alloc (.cells #[.int .i64 x1, .int .i64 x2] 35)) := kb.alloc kb.size _
  generalize ws3.alloc (.cells #[.int .i64 x1, .int .i64 x2] 35) = W1 at *
  generalize ws3.heap.size = blk_cx at *
  go_wp2_with fail
  refine (H3.out _).mono ?_; rintro e ws4 ⟨rfl, hs4⟩
  replace a0 : ws4.cell? ⟨w.heap.size, 0, none⟩ = some _ := (hs4.cell (p := ⟨w.heap.size, 0, none⟩) al).trans a0
  replace a1 : ws4.cell? ⟨w.heap.size, 1, none⟩ = some _ := (hs4.cell (p := ⟨w.heap.size, 1, none⟩) al).trans a1
  replace al : w.heap.size < ws4.heap.size := Nat.lt_of_lt_of_le al hs4.size
  replace cx0 : ws4.cell? ⟨blk_cx, 0, none⟩ = some _ := (hs4.cell (p := ⟨blk_cx, 0, none⟩) cxl).trans cx0
  replace cx1 : ws4.cell? ⟨blk_cx, 1, none⟩ = some _ := (hs4.cell (p := ⟨blk_cx, 1, none⟩) cxl).trans cx1
  replace cxl : blk_cx < ws4.heap.size := Nat.lt_of_lt_of_le cxl hs4.size
  replace kb : Below w.heap.size w ws4 := below_step kb hs4
  clear hs4
  go_upto_region 6 with (fail)
  replace a0 : (ws4.alloc (.cells #[.int .i64 y1, .int .i64 y2] 35)).cell? ⟨w.heap.size, 0, none⟩ = some _ := (World.cell?_alloc_past _ _ _ al).trans a0
  replace a1 : (ws4.alloc (.cells #[.int .i64 y1, .int .i64 y2] 35)).cell? ⟨w.heap.size, 1, none⟩ = some _ := (World.cell?_alloc_past _ _ _ al).trans a1
  replace al : w.heap.size < (ws4.alloc (.cells #[.int .i64 y1, .int .i64 y2] 35)).heap.size := by simp; omega
  replace cx0 : (ws4.alloc (.cells #[.int .i64 y1, .int .i64 y2] 35)).cell? ⟨blk_cx, 0, none⟩ = some _ := (World.cell?_alloc_past _ _ _ cxl).trans cx0
  replace cx1 : (ws4.alloc (.cells #[.int .i64 y1, .int .i64 y2] 35)).cell? ⟨blk_cx, 1, none⟩ = some _ := (World.cell?_alloc_past _ _ _ cxl).trans cx1
  replace cxl : blk_cx < (ws4.alloc (.cells #[.int .i64 y1, .int .i64 y2] 35)).heap.size := by simp; omega
  have cy0 : (ws4.alloc (.cells #[.int .i64 y1, .int .i64 y2] 35)).cell? ⟨ws4.heap.size, 0, none⟩ = some (.int .i64 y1) := by rw [cell_of_row _ _ 0 _ _ _ (heap_alloc_new ws4 _)]; rfl
  have cy1 : (ws4.alloc (.cells #[.int .i64 y1, .int .i64 y2] 35)).cell? ⟨ws4.heap.size, 1, none⟩ = some (.int .i64 y2) := by rw [cell_of_row _ _ 1 _ _ _ (heap_alloc_new ws4 _)]; rfl
  have cyl : ws4.heap.size < (ws4.alloc (.cells #[.int .i64 y1, .int .i64 y2] 35)).heap.size := by simp
  replace kb : Below w.heap.size w (ws4.alloc (.cells #[.int .i64 y1, .int .i64 y2] 35)) := kb.alloc kb.size _
  generalize ws4.alloc (.cells #[.int .i64 y1, .int .i64 y2] 35) = W2 at *
  generalize ws4.heap.size = blk_cy at *
  go_wp2_with fail
  refine (H4.out _).mono ?_; rintro e ws5 ⟨rfl, hs5⟩
  replace a0 : ws5.cell? ⟨w.heap.size, 0, none⟩ = some _ := (hs5.cell (p := ⟨w.heap.size, 0, none⟩) al).trans a0
  replace a1 : ws5.cell? ⟨w.heap.size, 1, none⟩ = some _ := (hs5.cell (p := ⟨w.heap.size, 1, none⟩) al).trans a1
  replace al : w.heap.size < ws5.heap.size := Nat.lt_of_lt_of_le al hs5.size
  replace cx0 : ws5.cell? ⟨blk_cx, 0, none⟩ = some _ := (hs5.cell (p := ⟨blk_cx, 0, none⟩) cxl).trans cx0
  replace cx1 : ws5.cell? ⟨blk_cx, 1, none⟩ = some _ := (hs5.cell (p := ⟨blk_cx, 1, none⟩) cxl).trans cx1
  replace cxl : blk_cx < ws5.heap.size := Nat.lt_of_lt_of_le cxl hs5.size
  replace cy0 : ws5.cell? ⟨blk_cy, 0, none⟩ = some _ := (hs5.cell (p := ⟨blk_cy, 0, none⟩) cyl).trans cy0
  replace cy1 : ws5.cell? ⟨blk_cy, 1, none⟩ = some _ := (hs5.cell (p := ⟨blk_cy, 1, none⟩) cyl).trans cy1
  replace cyl : blk_cy < ws5.heap.size := Nat.lt_of_lt_of_le cyl hs5.size
  replace kb : Below w.heap.size w ws5 := below_step kb hs5
  clear hs5
  go_upto_region 7 with (fail)
  have hcat : c2 = 0 → p2 ++ q2 = s := fun h => by rcases hC.out with h2 | h2; exact h2.2; omega
  have hsum : p2.size + q2.size ≤ 2020 := by omega
  rcases hB.out with ⟨rfl, rfl, rfl, rfl, rfl⟩ | ⟨rfl, rfl, rfl⟩
  · rcases hC.out with ⟨rfl, _⟩ | rfl
    · have hcat2 := hcat rfl
      clear hcat hB hC
      go_wp2_with fail
      refine (H5.out _).mono ?_; rintro e ws6 ⟨rfl, hs6⟩
      replace a0 : ws6.cell? ⟨w.heap.size, 0, none⟩ = some _ := (hs6.cell (p := ⟨w.heap.size, 0, none⟩) al).trans a0
      replace a1 : ws6.cell? ⟨w.heap.size, 1, none⟩ = some _ := (hs6.cell (p := ⟨w.heap.size, 1, none⟩) al).trans a1
      replace al : w.heap.size < ws6.heap.size := Nat.lt_of_lt_of_le al hs6.size
      replace cx0 : ws6.cell? ⟨blk_cx, 0, none⟩ = some _ := (hs6.cell (p := ⟨blk_cx, 0, none⟩) cxl).trans cx0
      replace cx1 : ws6.cell? ⟨blk_cx, 1, none⟩ = some _ := (hs6.cell (p := ⟨blk_cx, 1, none⟩) cxl).trans cx1
      replace cxl : blk_cx < ws6.heap.size := Nat.lt_of_lt_of_le cxl hs6.size
      replace cy0 : ws6.cell? ⟨blk_cy, 0, none⟩ = some _ := (hs6.cell (p := ⟨blk_cy, 0, none⟩) cyl).trans cy0
      replace cy1 : ws6.cell? ⟨blk_cy, 1, none⟩ = some _ := (hs6.cell (p := ⟨blk_cy, 1, none⟩) cyl).trans cy1
      replace cyl : blk_cy < ws6.heap.size := Nat.lt_of_lt_of_le cyl hs6.size
      replace kb : Below w.heap.size w ws6 := below_step kb hs6
      clear hs6
      go_wp2_with fail
      refine (H6.out _).mono ?_; rintro e ws7 ⟨rfl, hs7⟩
      replace a0 : ws7.cell? ⟨w.heap.size, 0, none⟩ = some _ := (hs7.cell (p := ⟨w.heap.size, 0, none⟩) al).trans a0
      replace a1 : ws7.cell? ⟨w.heap.size, 1, none⟩ = some _ := (hs7.cell (p := ⟨w.heap.size, 1, none⟩) al).trans a1
      replace al : w.heap.size < ws7.heap.size := Nat.lt_of_lt_of_le al hs7.size
      replace cx0 : ws7.cell? ⟨blk_cx, 0, none⟩ = some _ := (hs7.cell (p := ⟨blk_cx, 0, none⟩) cxl).trans cx0
      replace cx1 : ws7.cell? ⟨blk_cx, 1, none⟩ = some _ := (hs7.cell (p := ⟨blk_cx, 1, none⟩) cxl).trans cx1
      replace cxl : blk_cx < ws7.heap.size := Nat.lt_of_lt_of_le cxl hs7.size
      replace cy0 : ws7.cell? ⟨blk_cy, 0, none⟩ = some _ := (hs7.cell (p := ⟨blk_cy, 0, none⟩) cyl).trans cy0
      replace cy1 : ws7.cell? ⟨blk_cy, 1, none⟩ = some _ := (hs7.cell (p := ⟨blk_cy, 1, none⟩) cyl).trans cy1
      replace cyl : blk_cy < ws7.heap.size := Nat.lt_of_lt_of_le cyl hs7.size
      replace kb : Below w.heap.size w ws7 := below_step kb hs7
      clear hs7
      go_wp2_with fail
      go_ret
      exact ⟨rfl, kb⟩
    · clear hcat hB hC
      go_wp2_with fail
      go_ret
      exact ⟨rfl, kb⟩
  · rcases hC.out with ⟨rfl, _⟩ | rfl
    · have hcat2 := hcat rfl
      clear hcat hB hC
      go_wp2_with fail
      refine (H5.out _).mono ?_; rintro e ws8 ⟨rfl, hs8⟩
      replace a0 : ws8.cell? ⟨w.heap.size, 0, none⟩ = some _ := (hs8.cell (p := ⟨w.heap.size, 0, none⟩) al).trans a0
      replace a1 : ws8.cell? ⟨w.heap.size, 1, none⟩ = some _ := (hs8.cell (p := ⟨w.heap.size, 1, none⟩) al).trans a1
      replace al : w.heap.size < ws8.heap.size := Nat.lt_of_lt_of_le al hs8.size
      replace cx0 : ws8.cell? ⟨blk_cx, 0, none⟩ = some _ := (hs8.cell (p := ⟨blk_cx, 0, none⟩) cxl).trans cx0
      replace cx1 : ws8.cell? ⟨blk_cx, 1, none⟩ = some _ := (hs8.cell (p := ⟨blk_cx, 1, none⟩) cxl).trans cx1
      replace cxl : blk_cx < ws8.heap.size := Nat.lt_of_lt_of_le cxl hs8.size
      replace cy0 : ws8.cell? ⟨blk_cy, 0, none⟩ = some _ := (hs8.cell (p := ⟨blk_cy, 0, none⟩) cyl).trans cy0
      replace cy1 : ws8.cell? ⟨blk_cy, 1, none⟩ = some _ := (hs8.cell (p := ⟨blk_cy, 1, none⟩) cyl).trans cy1
      replace cyl : blk_cy < ws8.heap.size := Nat.lt_of_lt_of_le cyl hs8.size
      replace kb : Below w.heap.size w ws8 := below_step kb hs8
      clear hs8
      go_wp2_with fail
      refine (H6.out _).mono ?_; rintro e ws9 ⟨rfl, hs9⟩
      replace a0 : ws9.cell? ⟨w.heap.size, 0, none⟩ = some _ := (hs9.cell (p := ⟨w.heap.size, 0, none⟩) al).trans a0
      replace a1 : ws9.cell? ⟨w.heap.size, 1, none⟩ = some _ := (hs9.cell (p := ⟨w.heap.size, 1, none⟩) al).trans a1
      replace al : w.heap.size < ws9.heap.size := Nat.lt_of_lt_of_le al hs9.size
      replace cx0 : ws9.cell? ⟨blk_cx, 0, none⟩ = some _ := (hs9.cell (p := ⟨blk_cx, 0, none⟩) cxl).trans cx0
      replace cx1 : ws9.cell? ⟨blk_cx, 1, none⟩ = some _ := (hs9.cell (p := ⟨blk_cx, 1, none⟩) cxl).trans cx1
      replace cxl : blk_cx < ws9.heap.size := Nat.lt_of_lt_of_le cxl hs9.size
      replace cy0 : ws9.cell? ⟨blk_cy, 0, none⟩ = some _ := (hs9.cell (p := ⟨blk_cy, 0, none⟩) cyl).trans cy0
      replace cy1 : ws9.cell? ⟨blk_cy, 1, none⟩ = some _ := (hs9.cell (p := ⟨blk_cy, 1, none⟩) cyl).trans cy1
      replace cyl : blk_cy < ws9.heap.size := Nat.lt_of_lt_of_le cyl hs9.size
      replace kb : Below w.heap.size w ws9 := below_step kb hs9
      clear hs9
      go_wp2_with fail
      go_ret
      exact ⟨rfl, kb⟩
    · clear hcat hB hC
      go_wp2_with fail
      go_ret
      exact ⟨rfl, kb⟩

set_option maxRecDepth 100000 in
theorem law' (t r : Int) (ht : -9223372036854775808 ≤ t ∧ t ≤ 9223372036854775807) (hr : -9223372036854775808 ≤ r ∧ r ≤ 9223372036854775807) (s : ByteArray) (hs : s.size ≤ 140737488351232) (w : World) :
    Calls Try.prog 12 #[.agg #[.int .i64 t, .int .i64 r], .string s] w fun e w' => e = .returned (.bool true) ∧ Below w.heap.size w w' := by
  have H0 := Hd.mk shown_calls
  by_cases hg : 2000 < s.size
  · go_enter Try.func12, Try.ntmps12
    go_wp2_with fail
    refine (H0.out _).mono ?_; rintro e ws10 ⟨rfl, hs10⟩
    have ks10 := hs10
    clear hs10
    obtain ⟨cs10, fs10⟩ := bcell ks10
    have zs10 := ks10.size
    try simp at zs10
    try have ys10_0 : w.heap.size < ws10.heap.size := by omega
    try have ys10_1 : w.heap.size + 1 < ws10.heap.size := by omega
    try have ys10_2 : w.heap.size + 1 + 1 < ws10.heap.size := by omega
    try have ys10_3 : w.heap.size + 1 + 1 + 1 < ws10.heap.size := by omega
    go_wp2_with fail
    go_ret
    exact ⟨rfl, ((Below.refl _ _).alloc (by simp <;> omega) _).trans (ks10.mono (by simp <;> omega))⟩
  · have hz1 := num_size (zig_lt ht.1 ht.2)
    have hz2 := num_size (zig_lt hr.1 hr.2)
    have hps : (putS t r).size ≤ 20 := by unfold putS; rw [size_app]; omega
    have E2 := stamp_Take (putS t r ++ s) (by rw [size_app]; omega)
    rw [tkS_put t r ht hr] at E2
    have E3 := stamp_Take s (by omega)
    -- what the first take tells
    have first : ∃ (x1 x2 c1 : Int) (q1 : ByteArray), (∀ w, Calls Try.prog 35 #[.string (putS t r ++ s)] w fun e w' => e = .returned (.tuple #[.agg #[.int .i64 x1, .int .i64 x2], .string q1, .int .i64 c1]) ∧ Below w.heap.size w w') ∧
        ((mayS t r = true ∧ t = x1 ∧ r = x2 ∧ s = q1 ∧ c1 = 0) ∨ (mayS t r = false ∧ q1 = ⟨#[]⟩ ∧ c1 = 2)) := by
      cases hm : mayS t r with
      | true => rw [hm] at E2; exact ⟨t, r, 0, s, E2, Or.inl ⟨rfl, rfl, rfl, rfl, rfl⟩⟩
      | false => rw [hm] at E2; exact ⟨0, 0, 2, ⟨#[]⟩, E2, Or.inr ⟨rfl, rfl, rfl⟩⟩
    obtain ⟨x1, x2, c1, q1, H2, hb⟩ := first
    cases hT : tkS s.data.toList with
    | none =>
      rw [hT] at E3
      exact walk t r s (putS t r) q1 ⟨#[]⟩ x1 x2 0 0 c1 2 (mayS t r) (by omega) hps w H0 ⟨stamp_Put t r ht hr⟩ ⟨H2⟩ ⟨E3⟩ ⟨stamp_May t r⟩ hb (putS 0 0) (by decide +kernel) (by decide) ⟨stamp_Put 0 0 (by decide) (by decide)⟩ ⟨stamp_May 0 0⟩ (Or.inr rfl)
    | some p =>
      obtain ⟨y1, y2, q⟩ := p
      obtain ⟨g1, g2, g3, g4, g5⟩ := tkS_very hT
      rw [hT] at E3
      have hy1 := num_size (zig_lt g3.1 g3.2)
      have hy2 := num_size (zig_lt g4.1 g4.2)
      have hM := stamp_May y1 y2
      rw [g2] at hM
      exact walk t r s (putS t r) q1 ⟨q.toArray⟩ x1 x2 y1 y2 c1 0 (mayS t r) (by omega) hps w H0 ⟨stamp_Put t r ht hr⟩ ⟨H2⟩ ⟨E3⟩ ⟨stamp_May t r⟩ hb (putS y1 y2) (by unfold putS; rw [size_app]; omega) (by rw [size_of]; omega) ⟨stamp_Put y1 y2 g3 g4⟩ ⟨hM⟩ (Or.inl ⟨rfl, g1⟩)

theorem law_StampBack {v : Value} {t r : Int} (hv : IsStamp v t r) (s : ByteArray) (hs : s.size ≤ 140737488351232) (w : World) :
    Calls Try.prog 12 #[v, .string s] w fun e w' => e = .returned (.bool true) ∧ Below w.heap.size w w' := by
  rw [hv.1]
  exact law' t r hv.2.1 hv.2.2 s hs w
end Go.Proofs.Ytfcopeecgbgljaa.stampBack
