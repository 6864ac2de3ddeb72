/- stamp.May, stamp.Put and stamp.Take, and the document's: their contracts. -/
import Derived.Test.YtcgkkjfbdappoaaGreatStampOpen
import Derived.Test.YtcgkkjfbdappoaaGreatPackAll
namespace Go.Proofs.YtcgkkjfbdappoaaGreat
open Go.RowKit Go.Proofs.YtcgkkjfbdappoaaGreatW.PrintWords Go.Proofs.YtcgkkjfbdappoaaGreatW.PrintLast Go.Proofs.YtcgkkjfbdappoaaGreatW.PrintMore
open Pk
attribute [local go_sem high] eqStamp
set_option linter.unusedVariables false
set_option linter.unusedSimpArgs false

/-- Whether a stamp may be. -/
def mayS (t r : Int) : Bool := decide ((t = 0 ∧ r = 0) ∨ (1 ≤ t ∧ t ≤ 1073741824 ∧ 0 ≤ r ∧ r < 8))

/-- Whether there is a replica. -/
def repB (n : Int) : Bool := decide (0 ≤ n ∧ n < 8)

theorem stamp_rep (n : Int) (w : World) : Calls Tryz.prog 100 #[.int .i64 n] w fun e w' => e = .returned (.bool (repB n)) ∧ Below w.heap.size w w' := by
  by_cases h : 0 ≤ n ∧ n < 8
  · have hm : Hd (repB n = true) := ⟨decide_eq_true h⟩
    go_enter Tryz.func100, Tryz.ntmps100
    go_wp2
    go_ret
    exact ⟨by rw [hm.out]; first | rfl | (simp; done) | (simp; omega), Below.refl _ _⟩
  · have hm : Hd (repB n = false) := ⟨decide_eq_false h⟩
    by_cases h0 : 0 ≤ n
    · have h8 : 8 ≤ n := by omega
      clear h
      go_enter Tryz.func100, Tryz.ntmps100
      go_wp2
      go_ret
      exact ⟨by rw [hm.out]; first | rfl | (simp; done) | (simp; omega), Below.refl _ _⟩
    · have h8 : n < 0 := by omega
      clear h h0
      go_enter Tryz.func100, Tryz.ntmps100
      go_wp2
      go_ret
      exact ⟨by rw [hm.out]; first | rfl | (simp; done) | (simp; omega), Below.refl _ _⟩

theorem stamp_May (t r : Int) (w : World) : Calls Tryz.prog 78 #[.agg #[.int .i64 t, .int .i64 r]] w fun e w' => e = .returned (.bool (mayS t r)) ∧ Below w.heap.size w w' := by
  by_cases h0 : t = 0 ∧ r = 0
  · obtain ⟨rfl, rfl⟩ := h0
    go_enter Tryz.func78, Tryz.ntmps78
    go_wp2
    go_ret
    exact ⟨rfl, (Below.refl _ _).alloc (Nat.le_refl _) _⟩
  · have hz : (t == 0 && r == 0) = false := by rw [Bool.eq_false_iff]; simpa using h0
    by_cases h1 : 1 ≤ t ∧ t ≤ 1073741824
    · have hm : Hd (mayS t r = repB r) := ⟨by unfold mayS repB; rw [decide_eq_decide]; omega⟩
      obtain ⟨h1, h2⟩ := h1
      have H := Hd.mk (stamp_rep r)
      clear h0
      go_enter Tryz.func78, Tryz.ntmps78
      go_wp2_with fail
      refine (H.out _).mono ?_; rintro e ws1 ⟨rfl, hs1⟩
      have ks1 := hs1
      clear hs1
      obtain ⟨cs1, fs1⟩ := bcell ks1
      have zs1 := ks1.size
      try simp at zs1
      try have ys1_0 : w.heap.size < ws1.heap.size := by omega
      try have ys1_1 : w.heap.size + 1 < ws1.heap.size := by omega
      try have ys1_2 : w.heap.size + 1 + 1 < ws1.heap.size := by omega
      try have ys1_3 : w.heap.size + 1 + 1 + 1 < ws1.heap.size := by omega
      go_wp2_with fail
      go_ret
      exact ⟨by rw [hm.out]; rfl, ((Below.refl _ _).alloc (by simp <;> omega) _).trans (ks1.mono (by simp <;> omega))⟩
    · have hm : Hd (mayS t r = false) := ⟨by unfold mayS; rw [decide_eq_false]; omega⟩
      clear h0
      by_cases h2 : 1 ≤ t
      · have h3 : 1073741824 < t := by omega
        clear h1
        go_enter Tryz.func78, Tryz.ntmps78
        go_wp2_with fail
        go_ret
        exact ⟨by rw [hm.out]; rfl, (Below.refl _ _).alloc (Nat.le_refl _) _⟩
      · have h3 : t < 1 := by omega
        clear h1 h2
        go_enter Tryz.func78, Tryz.ntmps78
        go_wp2_with fail
        go_ret
        exact ⟨by rw [hm.out]; rfl, (Below.refl _ _).alloc (Nat.le_refl _) _⟩

/-- A stamp's bytes. -/
def putS (t r : Int) : ByteArray := strOfNums (num (zig t)) ++ strOfNums (num (zig r))

set_option maxHeartbeats 1000000 in
theorem stamp_Put (t r : Int) (ht : -9223372036854775808 ≤ t ∧ t ≤ 9223372036854775807) (hr : -9223372036854775808 ≤ r ∧ r ≤ 9223372036854775807) (w : World) :
    Calls Tryz.prog 82 #[.agg #[.int .i64 t, .int .i64 r]] w fun e w' => e = .returned (.string (putS t r)) ∧ Below w.heap.size w w' := by
  have z1 := num_size (zig_lt ht.1 ht.2)
  have z2 := num_size (zig_lt hr.1 hr.2)
  have step : ∀ (s : ByteArray) (n : Int), (∀ W, Calls Tryz.prog 48 #[.int .i64 n] W fun e w' => e = .returned (.string s) ∧ Below W.heap.size W w') →
      ∀ (B : Nat) (W : World), (W.cell? ⟨B, 0, none⟩ = some (.int .i64 t) ∧ W.cell? ⟨B, 1, none⟩ = some (.int .i64 r) ∧ B < W.heap.size ∧ Below w.heap.size w W) →
      Calls Tryz.prog 48 #[.int .i64 n] W fun e w' => e = .returned (.string s) ∧ (w'.cell? ⟨B, 0, none⟩ = some (.int .i64 t) ∧ w'.cell? ⟨B, 1, none⟩ = some (.int .i64 r) ∧ B < w'.heap.size ∧ Below w.heap.size w w') :=
    fun s n H B W k => (H W).mono fun e w' h => ⟨h.1, (h.2.cell k.2.2.1).trans k.1, (h.2.cell k.2.2.1).trans k.2.1, Nat.lt_of_lt_of_le k.2.2.1 h.2.size, below_step k.2.2.2 h.2⟩
  have H1 := Hd.mk (step _ t (pack_Int t ht.1 ht.2))
  have H2 := Hd.mk (step _ r (pack_Int r hr.1 hr.2))
  have z3 : (strOfNums (num (zig t))).size + (strOfNums (num (zig r))).size ≤ 9223372036854775807 := by omega
  have z4 : (9223372036854775807 < (strOfNums (num (zig t))).size + (strOfNums (num (zig r))).size) = False := eq_false (Nat.not_lt.2 z3)
  have z5 := eq_true z3
  have hp : Hd (putS t r = strOfNums (num (zig t)) ++ strOfNums (num (zig r))) := ⟨rfl⟩
  clear step ht hr
  generalize strOfNums (num (zig t)) = a at *
  generalize strOfNums (num (zig r)) = b at *
  have c1 : (w.alloc (.cells #[.int .i64 t, .int .i64 r] 34)).cell? ⟨w.heap.size, 0, none⟩ = some (.int .i64 t) := by rw [cell_of_row _ _ 0 _ _ _ (heap_alloc_new w _)]; rfl
  have c2 : (w.alloc (.cells #[.int .i64 t, .int .i64 r] 34)).cell? ⟨w.heap.size, 1, none⟩ = some (.int .i64 r) := by rw [cell_of_row _ _ 1 _ _ _ (heap_alloc_new w _)]; rfl
  have c3 : w.heap.size < (w.alloc (.cells #[.int .i64 t, .int .i64 r] 34)).heap.size := by simp
  have c4 : Below w.heap.size w (w.alloc (.cells #[.int .i64 t, .int .i64 r] 34)) := (Below.refl _ _).alloc (Nat.le_refl _) _
  have C := Hd.mk (And.intro c1 (And.intro c2 (And.intro c3 c4)))
  clear c1 c2 c3 c4
  go_enter Tryz.func82, Tryz.ntmps82
  go_wp2_with fail
  generalize w.alloc (.cells #[.int .i64 t, .int .i64 r] 34) = W at *
  obtain ⟨c1, c2, c3, c4⟩ := C.out
  go_region_held3 (fun W' => W'.cell? ⟨w.heap.size, 0, none⟩ = some (.int .i64 t) ∧ W'.cell? ⟨w.heap.size, 1, none⟩ = some (.int .i64 r) ∧ w.heap.size < W'.heap.size ∧ Below w.heap.size w W')
    (first
      | (exact ⟨c1, c2, c3, c4⟩)
      | (exact ⟨c1, c2, c3, c4.drew⟩)
      | assumption
      | go_keep)
    (first
      | (go_at_call_of 48 (Value.int IntKind.i64 t); (with_reducible refine (H1.out w.heap.size _ (by assumption)).mono ?_); rintro e w' ⟨rfl, hS⟩)
      | (go_at_call_of 48 (Value.int IntKind.i64 r); (with_reducible refine (H2.out w.heap.size _ (by assumption)).mono ?_); rintro e w' ⟨rfl, hS⟩))
  go_wp2
  go_ret
  rename_i hS
  exact ⟨by rw [hp.out]; rfl, hS.2.2.2⟩

/-- The stamp with which a string begins. -/
def tkS (l : List UInt8) : Option (Int × Int × List UInt8) :=
  match tk l 0 0 with
  | none => none
  | some (n, r) =>
    match tk r 0 0 with
    | none => none
    | some (m, q) => if mayS (unzig n) (unzig m) = true then some (unzig n, unzig m, q) else none
def tsV : Option (Int × Int × List UInt8) → Value
  | none => .tuple #[.agg #[.int .i64 0, .int .i64 0], .string ⟨#[]⟩, .int .i64 2]
  | some (t, r, q) => .tuple #[.agg #[.int .i64 t, .int .i64 r], .string ⟨q.toArray⟩, .int .i64 0]

set_option maxHeartbeats 1000000 in
set_option maxRecDepth 100000 in
theorem stamp_Take (s : ByteArray) (hs : s.size ≤ 140737488355328) (w : World) :
    Calls Tryz.prog 71 #[.string s] w fun e w' => e = .returned (tsV (tkS s.data.toList)) ∧ Below w.heap.size w w' := by
  have E1 := pack_TakeInt s (by unfold maxLen; omega)
  cases hT : tk s.data.toList 0 0 with
  | none =>
    have hv : Hd (tkS s.data.toList = none) := ⟨by unfold tkS; rw [hT]⟩
    have E2 := pack_TakeInt ⟨#[]⟩ (by decide)
    rw [hT] at E1
    rw [show tk (⟨#[]⟩ : ByteArray).data.toList 0 0 = none from rfl] at E2
    simp only [tiV] at E1 E2
    have H1 := Hd.mk E1
    have H2 := Hd.mk E2
    clear E1 E2 hT
    go_enter Tryz.func71, Tryz.ntmps71
    go_wp2_with fail
    refine (H1.out _).mono ?_; rintro e ws2 ⟨rfl, hs2⟩
    have ks2 := hs2
    clear hs2
    obtain ⟨cs2, fs2⟩ := bcell ks2
    have zs2 := ks2.size
    try simp at zs2
    try have ys2_0 : w.heap.size < ws2.heap.size := by omega
    try have ys2_1 : w.heap.size + 1 < ws2.heap.size := by omega
    try have ys2_2 : w.heap.size + 1 + 1 < ws2.heap.size := by omega
    try have ys2_3 : w.heap.size + 1 + 1 + 1 < ws2.heap.size := by omega
    go_wp2_with fail
    refine (H2.out _).mono ?_; rintro e ws3 ⟨rfl, hs3⟩
    have ks3 := below_step ks2 hs3
    clear hs3 ks2 cs2 fs2 zs2
    obtain ⟨cs3, fs3⟩ := bcell ks3
    have zs3 := ks3.size
    try simp at zs3
    try have ys3_0 : w.heap.size < ws3.heap.size := by omega
    try have ys3_1 : w.heap.size + 1 < ws3.heap.size := by omega
    try have ys3_2 : w.heap.size + 1 + 1 < ws3.heap.size := by omega
    try have ys3_3 : w.heap.size + 1 + 1 + 1 < ws3.heap.size := by omega
    go_wp2_with fail
    have hb0 : Below w.heap.size w (w.alloc (.cells #[.int .i64 0, .int .i64 0] 34)) := (Below.refl _ _).alloc (Nat.le_refl _) _
    have hbw := below_step hb0 ks3
    refine bodyPost_ret (v := tsV none) (by simp [results, Tryz.results71, go_sem, cs3, ys3_0, fs3, tsV]) rfl ⟨by rw [hv.out], ((hbw.setCell (Nat.le_refl _) _).setCell (Nat.le_refl _) _).alloc (by simp; omega) _⟩
  | some p =>
    obtain ⟨n, r⟩ := p
    have hrl := tk_len _ _ _ _ _ hT
    have hsl : s.data.toList.length = s.size := rfl
    have hrs : (⟨r.toArray⟩ : ByteArray).size ≤ 140737488355328 := by rw [size_of]; omega
    have E2 := pack_TakeInt ⟨r.toArray⟩ (by unfold maxLen; omega)
    rw [mk_list] at E2
    rw [hT] at E1
    simp only [tiV] at E1
    have hbn := unzig_bd (tk_bd _ _ _ _ _ (by decide) (by decide) hT)
    cases hT2 : tk r 0 0 with
    | none =>
      have hv : Hd (tkS s.data.toList = none) := ⟨by unfold tkS; rw [hT]; show (match tk r 0 0 with | none => none | some (m, q) => _) = none; rw [hT2]⟩
      rw [hT2] at E2
      simp only [tiV] at E2
      have H1 := Hd.mk E1
      have H2 := Hd.mk E2
      clear E1 E2 hT hT2 hrl hsl
      generalize unzig n = t1 at *
      generalize (⟨r.toArray⟩ : ByteArray) = q1 at *
      go_enter Tryz.func71, Tryz.ntmps71
      go_wp2_with fail
      refine (H1.out _).mono ?_; rintro e ws4 ⟨rfl, hs4⟩
      have ks4 := hs4
      clear hs4
      obtain ⟨cs4, fs4⟩ := bcell ks4
      have zs4 := ks4.size
      try simp at zs4
      try have ys4_0 : w.heap.size < ws4.heap.size := by omega
      try have ys4_1 : w.heap.size + 1 < ws4.heap.size := by omega
      try have ys4_2 : w.heap.size + 1 + 1 < ws4.heap.size := by omega
      try have ys4_3 : w.heap.size + 1 + 1 + 1 < ws4.heap.size := by omega
      go_wp2_with fail
      refine (H2.out _).mono ?_; rintro e ws5 ⟨rfl, hs5⟩
      have ks5 := below_step ks4 hs5
      clear hs5 ks4 cs4 fs4 zs4
      obtain ⟨cs5, fs5⟩ := bcell ks5
      have zs5 := ks5.size
      try simp at zs5
      try have ys5_0 : w.heap.size < ws5.heap.size := by omega
      try have ys5_1 : w.heap.size + 1 < ws5.heap.size := by omega
      try have ys5_2 : w.heap.size + 1 + 1 < ws5.heap.size := by omega
      try have ys5_3 : w.heap.size + 1 + 1 + 1 < ws5.heap.size := by omega
      go_wp2_with fail
      have hb0 : Below w.heap.size w (w.alloc (.cells #[.int .i64 0, .int .i64 0] 34)) := (Below.refl _ _).alloc (Nat.le_refl _) _
      have hbw := below_step hb0 ks5
      refine bodyPost_ret (v := tsV none) (by simp [results, Tryz.results71, go_sem, cs5, ys5_0, fs5, tsV]) rfl ⟨by rw [hv.out], ((hbw.setCell (Nat.le_refl _) _).setCell (Nat.le_refl _) _).alloc (by simp; omega) _⟩
    | some p =>
      obtain ⟨m, q⟩ := p
      have hv := Hd.mk (show tkS s.data.toList = if mayS (unzig n) (unzig m) = true then some (unzig n, unzig m, q) else none by
        unfold tkS; rw [hT]; show (match tk r 0 0 with | none => none | some (m, q) => _) = _; rw [hT2])
      rw [hT2] at E2
      simp only [tiV] at E2
      have hbm := unzig_bd (tk_bd _ _ _ _ _ (by decide) (by decide) hT2)
      have H1 := Hd.mk E1
      have H2 := Hd.mk E2
      have H3 := Hd.mk (stamp_May (unzig n) (unzig m))
      clear E1 E2 hT hT2 hrl hsl
      generalize unzig n = t1 at *
      generalize unzig m = t2 at *
      obtain ⟨q2, hq2⟩ : ∃ q2 : ByteArray, q2 = ⟨q.toArray⟩ := ⟨_, rfl⟩
      rw [← hq2] at H2
      have HQ := Hd.mk hq2
      clear hq2
      generalize (⟨r.toArray⟩ : ByteArray) = q1 at *
      generalize hmm : mayS t1 t2 = b at *
      clear hmm
      cases b with
      | true =>
        go_enter Tryz.func71, Tryz.ntmps71
        go_wp2_with fail
        refine (H1.out _).mono ?_; rintro e ws6 ⟨rfl, hs6⟩
        have ks6 := hs6
        clear hs6
        obtain ⟨cs6, fs6⟩ := bcell ks6
        have zs6 := ks6.size
        try simp at zs6
        try have ys6_0 : w.heap.size < ws6.heap.size := by omega
        try have ys6_1 : w.heap.size + 1 < ws6.heap.size := by omega
        try have ys6_2 : w.heap.size + 1 + 1 < ws6.heap.size := by omega
        try have ys6_3 : w.heap.size + 1 + 1 + 1 < ws6.heap.size := by omega
        go_wp2_with fail
        refine (H2.out _).mono ?_; rintro e ws7 ⟨rfl, hs7⟩
        have ks7 := below_step ks6 hs7
        clear hs7 ks6 cs6 fs6 zs6
        obtain ⟨cs7, fs7⟩ := bcell ks7
        have zs7 := ks7.size
        try simp at zs7
        try have ys7_0 : w.heap.size < ws7.heap.size := by omega
        try have ys7_1 : w.heap.size + 1 < ws7.heap.size := by omega
        try have ys7_2 : w.heap.size + 1 + 1 < ws7.heap.size := by omega
        try have ys7_3 : w.heap.size + 1 + 1 + 1 < ws7.heap.size := by omega
        go_wp2_with fail
        refine (H3.out _).mono ?_; rintro e w5 ⟨rfl, h5⟩
        obtain ⟨c5, f5⟩ := bcell h5
        have z5 := h5.size
        simp at z5
        have y5 : ws7.heap.size < w5.heap.size := by omega
        have y6 : w.heap.size < w5.heap.size := by omega
        have hb0 : Below w.heap.size w (w.alloc (.cells #[.int .i64 0, .int .i64 0] 34)) := (Below.refl _ _).alloc (Nat.le_refl _) _
        have hbw := below_step ((below_step hb0 ks7).alloc (by omega) (.cells #[.int .i64 t1, .int .i64 t2] 34)) h5
        have kR := below_step (ks7.alloc (by simp; omega) (.cells #[.int .i64 t1, .int .i64 t2] 34)) h5
        have hA0 : w5.cell? ⟨w.heap.size, 0, none⟩ = some (.int .i64 0) := (kR.cell (p := ⟨w.heap.size, 0, none⟩) (by simp)).trans (by rw [cell_of_row _ _ 0 _ _ _ (heap_alloc_new w _)]; rfl)
        have hA1 : w5.cell? ⟨w.heap.size, 1, none⟩ = some (.int .i64 0) := (kR.cell (p := ⟨w.heap.size, 1, none⟩) (by simp)).trans (by rw [cell_of_row _ _ 1 _ _ _ (heap_alloc_new w _)]; rfl)
        have hne : w.heap.size ≠ ws7.heap.size := by omega
        go_wp2_with fail
        refine bodyPost_ret (v := tsV (some (t1, t2, q))) (by simp [results, Tryz.results71, go_sem, hA0, hA1, tsV, HQ.out]) rfl ⟨by rw [hv.out]; rfl, (hbw.setCell (Nat.le_refl _) _).setCell (Nat.le_refl _) _⟩
      | false =>
        go_enter Tryz.func71, Tryz.ntmps71
        go_wp2_with fail
        refine (H1.out _).mono ?_; rintro e ws8 ⟨rfl, hs8⟩
        have ks8 := hs8
        clear hs8
        obtain ⟨cs8, fs8⟩ := bcell ks8
        have zs8 := ks8.size
        try simp at zs8
        try have ys8_0 : w.heap.size < ws8.heap.size := by omega
        try have ys8_1 : w.heap.size + 1 < ws8.heap.size := by omega
        try have ys8_2 : w.heap.size + 1 + 1 < ws8.heap.size := by omega
        try have ys8_3 : w.heap.size + 1 + 1 + 1 < ws8.heap.size := by omega
        go_wp2_with fail
        refine (H2.out _).mono ?_; rintro e ws9 ⟨rfl, hs9⟩
        have ks9 := below_step ks8 hs9
        clear hs9 ks8 cs8 fs8 zs8
        obtain ⟨cs9, fs9⟩ := bcell ks9
        have zs9 := ks9.size
        try simp at zs9
        try have ys9_0 : w.heap.size < ws9.heap.size := by omega
        try have ys9_1 : w.heap.size + 1 < ws9.heap.size := by omega
        try have ys9_2 : w.heap.size + 1 + 1 < ws9.heap.size := by omega
        try have ys9_3 : w.heap.size + 1 + 1 + 1 < ws9.heap.size := by omega
        go_wp2_with fail
        refine (H3.out _).mono ?_; rintro e w5 ⟨rfl, h5⟩
        obtain ⟨c5, f5⟩ := bcell h5
        have z5 := h5.size
        simp at z5
        have y5 : ws9.heap.size < w5.heap.size := by omega
        have y6 : w.heap.size < w5.heap.size := by omega
        have hb0 : Below w.heap.size w (w.alloc (.cells #[.int .i64 0, .int .i64 0] 34)) := (Below.refl _ _).alloc (Nat.le_refl _) _
        have hbw := below_step ((below_step hb0 ks9).alloc (by omega) (.cells #[.int .i64 t1, .int .i64 t2] 34)) h5
        have kR := below_step (ks9.alloc (by simp; omega) (.cells #[.int .i64 t1, .int .i64 t2] 34)) h5
        have hA0 : w5.cell? ⟨w.heap.size, 0, none⟩ = some (.int .i64 0) := (kR.cell (p := ⟨w.heap.size, 0, none⟩) (by simp)).trans (by rw [cell_of_row _ _ 0 _ _ _ (heap_alloc_new w _)]; rfl)
        have hA1 : w5.cell? ⟨w.heap.size, 1, none⟩ = some (.int .i64 0) := (kR.cell (p := ⟨w.heap.size, 1, none⟩) (by simp)).trans (by rw [cell_of_row _ _ 1 _ _ _ (heap_alloc_new w _)]; rfl)
        have hne : w.heap.size ≠ ws9.heap.size := by omega
        go_wp2_with fail
        refine bodyPost_ret (v := tsV none) (by simp [results, Tryz.results71, go_sem, hA0, hA1, tsV]) rfl ⟨by rw [hv.out]; rfl, (hbw.setCell (Nat.le_refl _) _).setCell (Nat.le_refl _) _⟩

end Go.Proofs.YtcgkkjfbdappoaaGreat
