/- Texts that belong together, in one. -/
import Derived.Test.YtcgkkjfbdappoaaGreatStrAll
import Derived.Test.YtcgkkjfbdappoaaGreatKeepAll
import Derived.Test.YtcgkkjfbdappoaaGreatStampWalk
import Derived.Deep.MidRow
/- op.fields, op.data, op.Makes: which fields an operation has; whether its offset and data may be; what it makes. -/
namespace Go.Proofs.YtcgkkjfbdappoaaGreat
open Go.RowKit Go.Proofs.YtcgkkjfbdappoaaGreatW.PrintWords Go.Proofs.YtcgkkjfbdappoaaGreatW.PrintLast Go.Proofs.YtcgkkjfbdappoaaGreatW.PrintMore
set_option linter.unusedVariables false
set_option linter.unusedSimpArgs false

/-- Which fields operations of a kind have. -/
def fieldsN (k : Int) : Nat := if k = 1 then 9 else if k = 2 then 9 else if k = 3 then 73 else if k = 4 then 11 else if k = 5 then 11 else if k = 6 then 11 else if k = 7 then 31 else if k = 8 then 98 else if k = 9 then 34 else if k = 10 then 34 else 0
set_option maxHeartbeats 1000000 in
theorem op_fields (k : Int) (w : World) : Calls Tryz.prog 77 #[.int .i64 k] w fun e w' => e = .returned (.int .i64 ((fieldsN k : Nat) : Int)) ∧ Below w.heap.size w w' := by
  by_cases h0 : k < 0
  · have hn : Hd (fieldsN k = 0) := ⟨by unfold fieldsN; repeat rw [if_neg (by omega)]⟩
    go_enter Tryz.func77, Tryz.ntmps77
    go_wp2_with fail
    go_ret
    exact ⟨by rw [hn.out]; rfl, (Below.refl _ _).alloc (Nat.le_refl _) _⟩
  · by_cases h1 : 11 ≤ k
    · have hn : Hd (fieldsN k = 0) := ⟨by unfold fieldsN; repeat rw [if_neg (by omega)]⟩
      go_enter Tryz.func77, Tryz.ntmps77
      go_wp2_with fail
      go_ret
      exact ⟨by rw [hn.out]; rfl, (Below.refl _ _).alloc (Nat.le_refl _) _⟩
    · obtain rfl | rfl | rfl | rfl | rfl | rfl | rfl | rfl | rfl | rfl | rfl : k = 0 ∨ k = 1 ∨ k = 2 ∨ k = 3 ∨ k = 4 ∨ k = 5 ∨ k = 6 ∨ k = 7 ∨ k = 8 ∨ k = 9 ∨ k = 10 := by omega
      all_goals
        clear h0 h1
        go_enter Tryz.func77, Tryz.ntmps77
        go_wp2_with fail
        go_ret
        exact ⟨by rfl, (Below.refl _ _).alloc (Nat.le_refl _) _⟩
/-- What operations of a kind make. -/
def makesN (k : Int) : Int := if k = 1 then 1 else if k = 2 then 2 else if k = 3 then 3 else 0
/-- Whether an operation's offset and data may be. -/
def dataB (k off : Int) (dt : ByteArray) : Bool :=
  if k = 3 then decide (1 ≤ dt.size ∧ dt.size ≤ 32) && !hasB dt 0
  else if k = 8 then decide (0 ≤ off ∧ off ≤ 64 ∧ 1 ≤ dt.size ∧ off + dt.size ≤ 64)
  else if k = 9 then decide (0 ≤ off ∧ off ≤ 64)
  else if k = 10 then decide (0 ≤ off ∧ off ≤ 4095)
  else true
theorem has_zero (s : ByteArray) : decide (0 ≤ Lib.indexByte s.data.toList 0) = hasB s 0 := by
  rw [← Lib.contains_iff_indexByte]
  unfold hasB
  rw [List.contains_eq_any_beq]
  congr 1
  funext b
  exact BEq.comm
theorem nonempty_of {s : ByteArray} (h : s.size ≠ 0) : s.toList.isEmpty = false := by
  rw [Lib.toList_data]
  cases h2 : s.data.toList with
  | nil => have : s.data.toList.length = s.size := rfl; rw [h2] at this; exact absurd this.symm h
  | cons _ _ => rfl
set_option maxHeartbeats 2000000 in
set_option maxRecDepth 100000 in
theorem op_data (t r k a0 a1 i0 i1 t0 t1 off : Int) (nm nw dt : ByteArray) (hd : dt.size ≤ 140737488355328) (w : World) : Calls Tryz.prog 80 #[.agg #[.int .i64 t, .int .i64 r, .int .i64 k, .int .i64 a0, .int .i64 a1, .int .i64 i0, .int .i64 i1, .int .i64 t0, .int .i64 t1, .string nm, .string nw, .int .i64 off, .string dt]] w fun e w' => e = .returned (.bool (dataB k off dt)) ∧ Below w.heap.size w w' := by
  by_cases h3 : k = 3
  · subst h3
    by_cases h0 : dt.size = 0
    · obtain rfl := empty_of h0
      have hn : Hd (dataB 3 off ⟨#[]⟩ = false) := ⟨by unfold dataB; rw [if_pos rfl]; rfl⟩
      clear h0
      go_enter Tryz.func80, Tryz.ntmps80
      go_wp2_with fail
      go_ret
      exact ⟨by rw [hn.out]; rfl, (Below.refl _ _).alloc (Nat.le_refl _) _⟩
    · have e0 := nonempty_of h0
      have e5 : (!dt.toList.isEmpty) = true := by rw [e0]; rfl
      by_cases h32 : dt.size ≤ 32
      · have d1 : (dt.size : Int) ≤ 32 := by omega
        have hn : Hd (dataB 3 off dt = !hasB dt 0) := ⟨by unfold dataB; rw [if_pos rfl, decide_eq_true ⟨by omega, h32⟩]; rfl⟩
        have HC := Hd.mk (Tryz.strings_Contains_one dt 0)
        rw [has_zero] at HC
        clear h0 h32
        go_enter Tryz.func80, Tryz.ntmps80
        go_wp2_with fail
        refine (HC.out _).mono ?_; rintro e w1 ⟨rfl, rfl⟩
        go_wp2_with fail
        go_ret
        exact ⟨by rw [hn.out]; rfl, (Below.refl _ _).alloc (Nat.le_refl _) _⟩
      · have d1 : ¬ (dt.size : Int) ≤ 32 := by omega
        have hn : Hd (dataB 3 off dt = false) := ⟨by unfold dataB; rw [if_pos rfl, decide_eq_false (by omega)]; rfl⟩
        clear h0 h32
        go_enter Tryz.func80, Tryz.ntmps80
        go_wp2_with fail
        go_ret
        exact ⟨by rw [hn.out]; rfl, (Below.refl _ _).alloc (Nat.le_refl _) _⟩
  · have e3 : (k == 3) = false := by rw [beq_eq_false_iff_ne]; exact h3
    by_cases h8 : k = 8
    · subst h8
      by_cases h0 : 0 ≤ off ∧ off ≤ 64
      · obtain ⟨h0, h64⟩ := h0
        by_cases hz : dt.size = 0
        · obtain rfl := empty_of hz
          have hn : Hd (dataB 8 off ⟨#[]⟩ = false) := ⟨by unfold dataB; rw [if_neg (by decide), if_pos rfl, decide_eq_false]; rintro ⟨-, -, h, -⟩; exact absurd h (by decide)⟩
          clear hz h3
          go_enter Tryz.func80, Tryz.ntmps80
          go_wp2_with fail
          go_ret
          exact ⟨by rw [hn.out]; rfl, (Below.refl _ _).alloc (Nat.le_refl _) _⟩
        · have e0 := nonempty_of hz
          have e5 : (!dt.toList.isEmpty) = true := by rw [e0]; rfl
          have hn : Hd (dataB 8 off dt = decide (off + dt.size ≤ 64)) := ⟨by unfold dataB; rw [if_neg (by decide), if_pos rfl, decide_eq_decide]; omega⟩
          clear hz h3
          go_enter Tryz.func80, Tryz.ntmps80
          go_wp2_with fail
          go_ret
          exact ⟨by rw [hn.out]; rfl, (Below.refl _ _).alloc (Nat.le_refl _) _⟩
      · have hn : Hd (dataB 8 off dt = false) := ⟨by unfold dataB; rw [if_neg (by decide), if_pos rfl, decide_eq_false (by omega)]⟩
        by_cases hneg : 0 ≤ off
        · have h64 : ¬ off ≤ 64 := by omega
          clear h0 h3
          go_enter Tryz.func80, Tryz.ntmps80
          go_wp2_with fail
          go_ret
          exact ⟨by rw [hn.out]; rfl, (Below.refl _ _).alloc (Nat.le_refl _) _⟩
        · clear h0 h3
          go_enter Tryz.func80, Tryz.ntmps80
          go_wp2_with fail
          go_ret
          exact ⟨by rw [hn.out]; rfl, (Below.refl _ _).alloc (Nat.le_refl _) _⟩
    · have e8 : (k == 8) = false := by rw [beq_eq_false_iff_ne]; exact h8
      by_cases h9 : k = 9
      · subst h9
        have hn : Hd (dataB 9 off dt = decide (0 ≤ off ∧ off ≤ 64)) := ⟨by unfold dataB; rw [if_neg (by decide), if_neg (by decide), if_pos rfl]⟩
        clear h3 h8
        by_cases hneg : 0 ≤ off
        · go_enter Tryz.func80, Tryz.ntmps80
          go_wp2_with fail
          go_ret
          exact ⟨by rw [hn.out]; first | (simp [hneg]; done) | (simp; omega), (Below.refl _ _).alloc (Nat.le_refl _) _⟩
        · go_enter Tryz.func80, Tryz.ntmps80
          go_wp2_with fail
          go_ret
          exact ⟨by rw [hn.out]; first | (simp [hneg]; done) | (simp; omega), (Below.refl _ _).alloc (Nat.le_refl _) _⟩
      · have e9 : (k == 9) = false := by rw [beq_eq_false_iff_ne]; exact h9
        by_cases h10 : k = 10
        · subst h10
          have hn : Hd (dataB 10 off dt = decide (0 ≤ off ∧ off ≤ 4095)) := ⟨by unfold dataB; rw [if_neg (by decide), if_neg (by decide), if_neg (by decide), if_pos rfl]⟩
          clear h3 h8 h9
          by_cases hneg : 0 ≤ off
          · go_enter Tryz.func80, Tryz.ntmps80
            go_wp2_with fail
            go_ret
            exact ⟨by rw [hn.out]; first | (simp [hneg]; done) | (simp; omega), (Below.refl _ _).alloc (Nat.le_refl _) _⟩
          · go_enter Tryz.func80, Tryz.ntmps80
            go_wp2_with fail
            go_ret
            exact ⟨by rw [hn.out]; first | (simp [hneg]; done) | (simp; omega), (Below.refl _ _).alloc (Nat.le_refl _) _⟩
        · have e10 : (k == 10) = false := by rw [beq_eq_false_iff_ne]; exact h10
          have hn : Hd (dataB k off dt = true) := ⟨by unfold dataB; rw [if_neg h3, if_neg h8, if_neg h9, if_neg h10]⟩
          clear h3 h8 h9 h10
          go_enter Tryz.func80, Tryz.ntmps80
          go_wp2_with fail
          go_ret
          exact ⟨by rw [hn.out]; rfl, (Below.refl _ _).alloc (Nat.le_refl _) _⟩
end Go.Proofs.YtcgkkjfbdappoaaGreat

/- op.May: whether an operation may be: the walk. -/
namespace Go.Proofs.YtcgkkjfbdappoaaGreat
open Go.RowKit Go.Proofs.YtcgkkjfbdappoaaGreatW.PrintWords Go.Proofs.YtcgkkjfbdappoaaGreatW.PrintLast Go.Proofs.YtcgkkjfbdappoaaGreatW.PrintMore
set_option linter.unusedVariables false
set_option linter.unusedSimpArgs false

attribute [local go_sem high] eqStamp
/-- Some cells of a block, as they lie. -/
theorem range_of {w : World} {b : Nat} {row : Array Value} {t : TypeId} {fr : Nat × Nat} (hg : w.heap[b]? = some (.cells row t fr)) (off : Nat) (cs : List Value) (h : ∀ j v, cs[j]? = some v → row[off + j]? = some v) : w.rangeAt b off cs := fun j v hj => by
  show w.cell? ⟨b, off + j, none⟩ = some v
  rw [cell_of_row w b (off + j) _ _ _ hg]
  exact h j v hj
theorem run_load_mid {P : Program} {o : Oper} {ρ : Operand → Value} {w : World} (ty : TypeId) (x : Operand) (ho : o.op = .load ty x) (b off : Nat) (cs : List Value) (hx : ρ x = .pointer (some ⟨b, off, none⟩)) (row : Array Value) (t : TypeId) (fr : Nat × Nat) (hg : w.heap[b]? = some (.cells row t fr))
    (hc : ∀ j v, cs[j]? = some v → row[off + j]? = some v) (d : TypeDesc) (hu : P.underlying ty = some d) (hd : d.isRow = true) (hi : (P.info? ty).map (·.size) = some cs.length) : (execOp ρ o).run P w = .ok (.value (.agg cs.toArray)) w := by
  unfold execOp
  simp only [ho, hx, Instr.loadAt, Instr.sureAddr, Sem.run_bind, Sem.run_pure, Result.andThen_ok, run_loadVar_mid w b off ty _ d (range_of hg off cs hc) hu hd hi]
theorem two_at {row : Array Value} {off : Nat} {x y : Value} (h0 : row[off]? = some x) (h1 : row[off + 1]? = some y) : ∀ j v, [x, y][j]? = some v → row[off + j]? = some v := fun j v hj => by
  match j, hj with
  | 0, hj => simp at hj; subst hj; exact h0
  | 1, hj => simp at hj; subst hj; exact h1
  | j + 2, hj => simp at hj
theorem size_stamp : (Tryz.prog.info? 34).map (·.size) = some 2 := by kernel_rfl
/-- Whether a stamp is zero; whether a text is empty. -/
def isZ (a b : Int) : Bool := a == 0 && b == 0
def isE (s : ByteArray) : Bool := decide (s.size = 0)
theorem isE_list (s : ByteArray) : s.toList.isEmpty = isE s := by
  unfold isE
  rw [Lib.toList_data]
  have : s.data.toList.length = s.size := rfl
  rw [← this]
  cases s.data.toList <;> simp
/-- Whether a field may be, where an operation has it, or not. -/
def rowOk (f bit : Nat) (may none : Bool) : Bool := if f &&& bit = 0 then none else may
def rowsOk (f : Nat) : List (Nat × Bool × Bool) → Bool
  | [] => true
  | x :: l => rowOk f x.1 x.2.1 x.2.2 && rowsOk f l
def rowCells : List (Nat × Bool × Bool) → List Value
  | [] => []
  | x :: l => .int .i64 (x.1 : Int) :: .bool x.2.1 :: .bool x.2.2 :: rowCells l
theorem run_rows {o : Oper} {ρ : Operand → Value} {w : World} (x0 x1 x2 x3 x4 x5 x6 : Operand) (ho : o.op = .buildSlice 144 7 #[(0, x0), (1, x1), (2, x2), (3, x3), (4, x4), (5, x5), (6, x6)]) (b0 b1 b2 b3 b4 b5 b6 : Int) (p0 q0 p1 q1 p2 q2 p3 q3 p4 q4 p5 q5 p6 q6 : Bool)
    (h0 : ρ x0 = .agg #[.int .i64 b0, .bool p0, .bool q0]) (h1 : ρ x1 = .agg #[.int .i64 b1, .bool p1, .bool q1]) (h2 : ρ x2 = .agg #[.int .i64 b2, .bool p2, .bool q2]) (h3 : ρ x3 = .agg #[.int .i64 b3, .bool p3, .bool q3]) (h4 : ρ x4 = .agg #[.int .i64 b4, .bool p4, .bool q4]) (h5 : ρ x5 = .agg #[.int .i64 b5, .bool p5, .bool q5]) (h6 : ρ x6 = .agg #[.int .i64 b6, .bool p6, .bool q6]) :
    (execOp ρ o).run Tryz.prog w = .ok (.value (.slice (some ⟨w.heap.size, 0, none⟩) 7 7)) (w.alloc (.cells #[.int .i64 b0, .bool p0, .bool q0, .int .i64 b1, .bool p1, .bool q1, .int .i64 b2, .bool p2, .bool q2, .int .i64 b3, .bool p3, .bool q3, .int .i64 b4, .bool p4, .bool q4, .int .i64 b5, .bool p5, .bool q5, .int .i64 b6, .bool p6, .bool q6] 142)) := by
  unfold execOp
  simp only [ho, List.map_toArray, List.map_cons, List.map_nil, h0, h1, h2, h3, h4, h5, h6]
  go_simp
theorem rowCells_at {R : List (Nat × Bool × Bool)} {i : Nat} {x : Nat × Bool × Bool} (h : R[i]? = some x) : (rowCells R)[i * 3]? = some (.int .i64 (x.1 : Int)) ∧ (rowCells R)[i * 3 + 1]? = some (.bool x.2.1) ∧ (rowCells R)[i * 3 + 2]? = some (.bool x.2.2) := by
  induction R generalizing i with
  | nil => simp at h
  | cons y l ih =>
    cases i with
    | zero => simp at h; subst h; exact ⟨rfl, rfl, rfl⟩
    | succ i =>
      have := ih (i := i) (by simpa using h)
      rw [show (i + 1) * 3 = i * 3 + 1 + 1 + 1 from by omega, show i * 3 + 1 + 1 + 1 + 1 = (i * 3 + 1) + 1 + 1 + 1 from by omega, show i * 3 + 1 + 1 + 1 + 2 = (i * 3 + 2) + 1 + 1 + 1 from by omega]
      simpa [rowCells] using this
theorem rowsOk_take {f : Nat} {R : List (Nat × Bool × Bool)} {i : Nat} {x : Nat × Bool × Bool} (h : R[i]? = some x) (ht : rowsOk f (R.take i) = true) : rowsOk f (R.take (i + 1)) = rowOk f x.1 x.2.1 x.2.2 ∧ (rowOk f x.1 x.2.1 x.2.2 = false → rowsOk f R = false) := by
  induction R generalizing i with
  | nil => simp at h
  | cons y l ih =>
    cases i with
    | zero => simp at h; subst h; simp [rowsOk]; intro hh; simp [hh]
    | succ i =>
      have h2 : rowOk f y.1 y.2.1 y.2.2 = true ∧ rowsOk f (l.take i) = true := by simpa [rowsOk] using ht
      obtain ⟨h3, h4⟩ := ih (i := i) (by simpa using h) h2.2
      constructor
      · show (rowOk f y.1 y.2.1 y.2.2 && rowsOk f (l.take (i + 1))) = _
        rw [h2.1, Bool.true_and]; exact h3
      · intro hh
        show (rowOk f y.1 y.2.1 y.2.2 && rowsOk f l) = _
        rw [h4 hh, Bool.and_false]
theorem wraps7 (n : Int) (h0 : 0 ≤ n) (h1 : n < 2 ^ 7) : IntKind.i64.wrap n = n := by
  rw [IntKind.wrap_i64]
  have : (2 : Int) ^ 7 = 128 := by decide
  omega
theorem and_nat64 (a b : Nat) (ha : a < 128) (hb : b < 128) : bits .and .i64 (a : Int) (b : Int) = ((a &&& b : Nat) : Int) :=
  (bits_nat .i64 7 (by decide) wraps7 a b ha hb).1
set_option maxHeartbeats 4000000 in
set_option maxRecDepth 100000 in
theorem May_walk (t r k a0 a1 i0 i1 t0 t1 off : Int) (nm nw dt : ByteArray) (f : Nat) (hf : f < 128) (m1 m2 m3 m4 m5 mS dB : Bool) (w : World) (R : List (Nat × Bool × Bool)) (HR : Hd (R = [(1, m1, isZ a0 a1), (2, m2, isZ i0 i1), (4, m3, isZ t0 t1), (8, m4, isE nm), (16, m5, isE nw), (32, true, off == 0), (64, true, isE dt)]))
    (HF : Hd (∀ w, Calls Tryz.prog 77 #[.int .i64 k] w fun e w' => e = .returned (.int .i64 (f : Int)) ∧ Below w.heap.size w w'))
    (H1 : Hd (∀ w, Calls Tryz.prog 78 #[.agg #[.int .i64 a0, .int .i64 a1]] w fun e w' => e = .returned (.bool m1) ∧ Below w.heap.size w w'))
    (H2 : Hd (∀ w, Calls Tryz.prog 78 #[.agg #[.int .i64 i0, .int .i64 i1]] w fun e w' => e = .returned (.bool m2) ∧ Below w.heap.size w w'))
    (H3 : Hd (∀ w, Calls Tryz.prog 78 #[.agg #[.int .i64 t0, .int .i64 t1]] w fun e w' => e = .returned (.bool m3) ∧ Below w.heap.size w w'))
    (H4 : Hd (∀ w, Calls Tryz.prog 79 #[.string nm] w fun e w' => e = .returned (.bool m4) ∧ Below w.heap.size w w'))
    (H5 : Hd (∀ w, Calls Tryz.prog 79 #[.string nw] w fun e w' => e = .returned (.bool m5) ∧ Below w.heap.size w w'))
    (HS : Hd (∀ w, Calls Tryz.prog 78 #[.agg #[.int .i64 t, .int .i64 r]] w fun e w' => e = .returned (.bool mS) ∧ Below w.heap.size w w'))
    (HD : Hd (∀ w, Calls Tryz.prog 80 #[.agg #[.int .i64 t, .int .i64 r, .int .i64 k, .int .i64 a0, .int .i64 a1, .int .i64 i0, .int .i64 i1, .int .i64 t0, .int .i64 t1, .string nm, .string nw, .int .i64 off, .string dt]] w fun e w' => e = .returned (.bool dB) ∧ Below w.heap.size w w')) :
    Calls Tryz.prog 47 #[.agg #[.int .i64 t, .int .i64 r, .int .i64 k, .int .i64 a0, .int .i64 a1, .int .i64 i0, .int .i64 i1, .int .i64 t0, .int .i64 t1, .string nm, .string nw, .int .i64 off, .string dt]] w fun e w' => e = .returned (.bool (rowsOk f R && decide (f ≠ 0) && mS && !isZ t r && dB)) ∧ Below w.heap.size w w' := by
  have K0 := Hd.mk (Holds.start1 w (.cells #[.int .i64 t, .int .i64 r, .int .i64 k, .int .i64 a0, .int .i64 a1, .int .i64 i0, .int .i64 i1, .int .i64 t0, .int .i64 t1, .string nm, .string nw, .int .i64 off, .string dt] 36 (0, 0)))
  go_enter Tryz.func47, Tryz.ntmps47
  go_wp2_with fail
  generalize w.alloc (.cells #[.int .i64 t, .int .i64 r, .int .i64 k, .int .i64 a0, .int .i64 a1, .int .i64 i0, .int .i64 i1, .int .i64 t0, .int .i64 t1, .string nm, .string nw, .int .i64 off, .string dt] 36) = W0 at *
  refine (HF.out _).mono ?_; rintro e w1 ⟨rfl, hb1⟩
  have K1 := Hd.mk (K0.out.call hb1)
  clear hb1 K0 HF
  go_upto_region 2 with (fail)
  refine st_ 49 (S := fun W_ => Holds w [(w.heap.size, .cells #[.int .i64 t, .int .i64 r, .int .i64 k, .int .i64 a0, .int .i64 a1, .int .i64 i0, .int .i64 i1, .int .i64 t0, .int .i64 t1, .string nm, .string nw, .int .i64 off, .string dt] 36 (0, 0))] W_) (ds := [46]) (K1.out.drew) (fun hHeld => ?_)
  refine pu_ 0 (some 9) ?_
  refine tk_ 1 (some 10) (.agg #[.int .i64 a0, .int .i64 a1]) rfl (fun w' h => run_load_mid 34 _ rfl w.heap.size 3 [.int .i64 a0, .int .i64 a1] rfl _ _ _ (h.get 0 rfl) (two_at rfl rfl) _ Tryz.underlying34 rfl size_stamp) hHeld ?_
  refine pu_ 3 (some 12) ?_
  refine tk_ 4 (some 13) (.agg #[.int .i64 a0, .int .i64 a1]) rfl (fun w' h => run_load_mid 34 _ rfl w.heap.size 3 [.int .i64 a0, .int .i64 a1] rfl _ _ _ (h.get 0 rfl) (two_at rfl rfl) _ Tryz.underlying34 rfl size_stamp) hHeld ?_
  refine pu_ 5 (some 14) ?_
  refine tk_ 6 (some 15) (.bool (isZ a0 a1)) rfl (fun w' h => by have heq := eqStamp 9998 w' a0 0 a1 0; go_simp; first | done | rfl | (unfold isZ; split <;> (try split) <;> simp_all)) hHeld ?_
  refine pu_ 8 (some 17) ?_
  refine tk_ 9 (some 18) (.agg #[.int .i64 i0, .int .i64 i1]) rfl (fun w' h => run_load_mid 34 _ rfl w.heap.size 5 [.int .i64 i0, .int .i64 i1] rfl _ _ _ (h.get 0 rfl) (two_at rfl rfl) _ Tryz.underlying34 rfl size_stamp) hHeld ?_
  refine pu_ 11 (some 20) ?_
  refine tk_ 12 (some 21) (.agg #[.int .i64 i0, .int .i64 i1]) rfl (fun w' h => run_load_mid 34 _ rfl w.heap.size 5 [.int .i64 i0, .int .i64 i1] rfl _ _ _ (h.get 0 rfl) (two_at rfl rfl) _ Tryz.underlying34 rfl size_stamp) hHeld ?_
  refine pu_ 13 (some 22) ?_
  refine tk_ 14 (some 23) (.bool (isZ i0 i1)) rfl (fun w' h => by have heq := eqStamp 9998 w' i0 0 i1 0; go_simp; first | done | rfl | (unfold isZ; split <;> (try split) <;> simp_all)) hHeld ?_
  refine pu_ 16 (some 25) ?_
  refine tk_ 17 (some 26) (.agg #[.int .i64 t0, .int .i64 t1]) rfl (fun w' h => run_load_mid 34 _ rfl w.heap.size 7 [.int .i64 t0, .int .i64 t1] rfl _ _ _ (h.get 0 rfl) (two_at rfl rfl) _ Tryz.underlying34 rfl size_stamp) hHeld ?_
  refine pu_ 19 (some 28) ?_
  refine tk_ 20 (some 29) (.agg #[.int .i64 t0, .int .i64 t1]) rfl (fun w' h => run_load_mid 34 _ rfl w.heap.size 7 [.int .i64 t0, .int .i64 t1] rfl _ _ _ (h.get 0 rfl) (two_at rfl rfl) _ Tryz.underlying34 rfl size_stamp) hHeld ?_
  refine pu_ 21 (some 30) ?_
  refine tk_ 22 (some 31) (.bool (isZ t0 t1)) rfl (fun w' h => by have heq := eqStamp 9998 w' t0 0 t1 0; go_simp; first | done | rfl | (unfold isZ; split <;> (try split) <;> simp_all)) hHeld ?_
  refine pu_ 24 (some 33) ?_
  refine tk_ 25 (some 34) (.string nm) rfl (fun w' h => by have c := cell_of_row w' _ 9 _ _ _ (h.get 0 rfl); go_simp) hHeld ?_
  refine pu_ 27 (some 36) ?_
  refine tk_ 28 (some 37) (.string nm) rfl (fun w' h => by have c := cell_of_row w' _ 9 _ _ _ (h.get 0 rfl); go_simp) hHeld ?_
  refine tk_ 29 (some 38) (.bool (isE nm)) rfl (fun w' h => by rw [← isE_list nm]; go_simp) hHeld ?_
  refine pu_ 31 (some 40) ?_
  refine tk_ 32 (some 41) (.string nw) rfl (fun w' h => by have c := cell_of_row w' _ 10 _ _ _ (h.get 0 rfl); go_simp) hHeld ?_
  refine pu_ 34 (some 43) ?_
  refine tk_ 35 (some 44) (.string nw) rfl (fun w' h => by have c := cell_of_row w' _ 10 _ _ _ (h.get 0 rfl); go_simp) hHeld ?_
  refine tk_ 36 (some 45) (.bool (isE nw)) rfl (fun w' h => by rw [← isE_list nw]; go_simp) hHeld ?_
  refine pu_ 38 (some 47) ?_
  refine tk_ 39 (some 48) (.int .i64 off) rfl (fun w' h => by have c := cell_of_row w' _ 11 _ _ _ (h.get 0 rfl); go_simp) hHeld ?_
  refine pu_ 40 (some 49) ?_
  refine pu_ 41 (some 50) ?_
  refine pu_ 42 (some 51) ?_
  refine tk_ 43 (some 52) (.string dt) rfl (fun w' h => by have c := cell_of_row w' _ 12 _ _ _ (h.get 0 rfl); go_simp) hHeld ?_
  refine tk_ 44 (some 53) (.bool (isE dt)) rfl (fun w' h => by rw [← isE_list dt]; go_simp) hHeld ?_
  refine pu_ 45 (some 54) ?_
  refine pu_ 48 (some 57) ?_
  refine cb_ 2 (some 11) Tryz.func78 H1 (fun _ hr => hHeld.call hr) (fun wr1 hHeld => ?_)
  refine pu_ 7 (some 16) ?_
  refine cb_ 10 (some 19) Tryz.func78 H2 (fun _ hr => hHeld.call hr) (fun wr2 hHeld => ?_)
  refine pu_ 15 (some 24) ?_
  refine cb_ 18 (some 27) Tryz.func78 H3 (fun _ hr => hHeld.call hr) (fun wr3 hHeld => ?_)
  refine pu_ 23 (some 32) ?_
  refine cb_ 26 (some 35) Tryz.func79 H4 (fun _ hr => hHeld.call hr) (fun wr4 hHeld => ?_)
  refine pu_ 30 (some 39) ?_
  refine cb_ 33 (some 42) Tryz.func79 H5 (fun _ hr => hHeld.call hr) (fun wr5 hHeld => ?_)
  refine pu_ 37 (some 46) ?_
  refine last_ (i := 46) (N := some 55) #[true, true, true, true, true, true, true, true, true, true, true, true, true, true, true, true, true, true, true, true, true, true, true, true, true, true, true, true, true, true, true, true, true, true, true, true, true, true, true, true, true, true, true, true, true, true, true, false, true] rfl rfl (by kernel_rfl) (by decide) (fun K hK => ?_)
  refine value_ (by rfl) rfl (run_rows _ _ _ _ _ _ _ rfl 1 2 4 8 16 32 64 m1 (isZ a0 a1) m2 (isZ i0 i1) m3 (isZ t0 t1) m4 (isE nm) m5 (isE nw) true (off == 0) true (isE dt) rfl rfl rfl rfl rfl rfl rfl) ?_
  refine hK.out _ _ ?_
  clear hK K
  refine norm_ (a' := ?_) ?_ ?_
  rotate_left
  · show Act.put _ (some 55) _ = _
    simp only [Act.put, List.setIfInBounds_toArray, List.set_cons_zero, List.set_cons_succ]
    rfl
  refine pu_ 47 (some 56) ?_
  refine done_ (by kernel_rfl) ?_
  have KS := Hd.mk (hHeld.fresh (.cells (rowCells R).toArray 142 (0, 0))).1
  have hR := HR.out
  have hlen : R.length = 7 := by rw [hR]; rfl
  have hbit : ∀ (i : Nat) (x : Nat × Bool × Bool), R[i]? = some x → x.1 < 128 := fun i x hx => by
    have := List.mem_of_getElem? hx
    rw [hR] at this
    simp at this
    rcases this with rfl | rfl | rfl | rfl | rfl | rfl | rfl <;> simp
  have hcell : rowCells R = [.int .i64 1, .bool m1, .bool (isZ a0 a1), .int .i64 2, .bool m2, .bool (isZ i0 i1), .int .i64 4, .bool m3, .bool (isZ t0 t1), .int .i64 8, .bool m4, .bool (isE nm), .int .i64 16, .bool m5, .bool (isE nw), .int .i64 32, .bool true, .bool (off == 0), .int .i64 64, .bool true, .bool (isE dt)] := by rw [hR]; rfl
  rw [hcell] at KS
  have HC := Hd.mk hcell
  have HL := Hd.mk hlen
  have HB := Hd.mk hbit
  clear hHeld hlen hbit hcell hR H1 H2 H3 H4 H5 K1
  go_wp2_with fail
  refine world_gen (fun W_ => ∃ bs, bs = wr5.heap.size ∧ Holds w [(bs, .cells (rowCells R).toArray 142 (0, 0)), (w.heap.size, .cells #[.int .i64 t, .int .i64 r, .int .i64 k, .int .i64 a0, .int .i64 a1, .int .i64 i0, .int .i64 i1, .int .i64 t0, .int .i64 t1, .string nm, .string nw, .int .i64 off, .string dt] 36 (0, 0))] W_) ?_ (fun W2 hgen => ?_)
  · exact ⟨_, rfl, by rw [HC.out]; exact KS.out⟩
  obtain ⟨bs, hbs, hK⟩ := hgen
  rw [← hbs]
  have K2 := Hd.mk hK
  clear hbs hK KS
  clear HC
  go_loopg [57] 7 (fun g v57 wx => ∃ i : Nat, Hd (i + g = 7) ∧ v57 = .int .i64 (i : Int) ∧ Hd (rowsOk f (R.take i) = true) ∧ Hd (Holds w [(bs, .cells (rowCells R).toArray 142 (0, 0)), (w.heap.size, .cells #[.int .i64 t, .int .i64 r, .int .i64 k, .int .i64 a0, .int .i64 a1, .int .i64 i0, .int .i64 i1, .int .i64 t0, .int .i64 t1, .string nm, .string nw, .int .i64 off, .string dt] 36 (0, 0))] wx))
  case atStart => exact ⟨0, ⟨rfl⟩, rfl, ⟨rfl⟩, K2⟩
  case round =>
    obtain ⟨i, HG, rfl, HO, K3⟩ := hrel
    by_cases hi : i < 7
    · have d1 : (i : Int) < 7 := by omega
      obtain ⟨x, hx⟩ : ∃ x, R[i]? = some x := ⟨_, List.getElem?_eq_getElem (by rw [HL.out]; exact hi)⟩
      have hb := HB.out i x hx
      obtain ⟨c0, c1, c2⟩ := rowCells_at hx
      have HT := Hd.mk (rowsOk_take hx HO.out)
      obtain ⟨bit, may, none⟩ := x
      simp only at hb c0 c1 c2 HT
      have hload := fun (o : Oper) (ρ : Operand → Value) => run_load_mid (P := Tryz.prog) (o := o) (ρ := ρ) (w := wr) 142
      have hand := and_nat64 f bit hf hb
      have cc0 : wr.cell? ⟨bs, i * 3, Option.none⟩ = some (.int .i64 (bit : Int)) := by rw [cell_of_row wr _ _ _ _ _ (K3.out.get 0 rfl)]; simpa using c0
      have cc1 : wr.cell? ⟨bs, i * 3 + 1, Option.none⟩ = some (.bool may) := by rw [cell_of_row wr _ _ _ _ _ (K3.out.get 0 rfl)]; simpa using c1
      have cc2 : wr.cell? ⟨bs, i * 3 + 2, Option.none⟩ = some (.bool none) := by rw [cell_of_row wr _ _ _ _ _ (K3.out.get 0 rfl)]; simpa using c2
      clear hload c0 c1 c2 hb hx
      have hlt := K3.out.lt 0 rfl
      have HI := Hd.mk hi
      clear hi
      by_cases hz : f &&& bit = 0
      · rw [hz] at hand
        cases none with
        | false =>
          have HT2 : Hd (rowOk f bit may false = false) := ⟨if_pos hz⟩
          clear hz
          have HF2 : Hd (rowsOk f R = false) := ⟨HT.out.2 HT2.out⟩
          go_wp2_with fail
          go_ret
          exact ⟨by rw [HF2.out]; rfl, by first | exact K3.out.2.alloc K3.out.2.size _ | exact K3.out.2⟩
        | true =>
          have HT2 : Hd (rowOk f bit may true = true) := ⟨if_pos hz⟩
          clear hz
          go_wp2_with fail
          go_roundg (7 - (i + 1))
          case measure => have := HG.out; have := HI.out; omega
          case rel => exact ⟨i + 1, ⟨by have := HG.out; have := HI.out; omega⟩, by first | rfl | congr 1, ⟨by rw [HT.out.1, HT2.out]⟩, ⟨by first | exact (K3.out.alloc _).rest⟩⟩
      · obtain ⟨n, hn⟩ : ∃ n, n = f &&& bit := ⟨_, rfl⟩
        rw [← hn] at hand
        have e1 : ((n : Int) != 0) = true := by rw [bne_iff_ne]; omega
        have e2 : ((n : Int) == 0) = false := by rw [beq_eq_false_iff_ne]; omega
        clear hn
        cases may with
        | false =>
          have HT2 : Hd (rowOk f bit false none = false) := ⟨if_neg hz⟩
          clear hz
          have HF2 : Hd (rowsOk f R = false) := ⟨HT.out.2 HT2.out⟩
          go_wp2_with fail
          go_ret
          exact ⟨by rw [HF2.out]; rfl, by first | exact K3.out.2.alloc K3.out.2.size _ | exact K3.out.2⟩
        | true =>
          have HT2 : Hd (rowOk f bit true none = true) := ⟨if_neg hz⟩
          clear hz
          go_wp2_with fail
          go_roundg (7 - (i + 1))
          case measure => have := HG.out; have := HI.out; omega
          case rel => exact ⟨i + 1, ⟨by have := HG.out; have := HI.out; omega⟩, by first | rfl | congr 1, ⟨by rw [HT.out.1, HT2.out]⟩, ⟨by first | exact (K3.out.alloc _).rest⟩⟩
    · obtain rfl : i = 7 := by have := HG.out; omega
      have HR7 : Hd (rowsOk f R = true) := ⟨by have h := HO.out; rwa [List.take_of_length_le (by rw [HL.out]; exact Nat.le_refl _)] at h⟩
      have g1 := cell_of_row wr _ 0 _ _ _ (K3.out.get 1 rfl)
      have g2 := cell_of_row wr _ 1 _ _ _ (K3.out.get 1 rfl)
      clear hi HO HG HB HL
      by_cases hf0 : f = 0
      · subst hf0
        go_wp2_with fail
        go_ret
        exact ⟨by simp, K3.out.2⟩
      · have e1 : ((f : Int) != 0) = true := by rw [bne_iff_ne]; omega
        have hdf : Hd (decide (f ≠ 0) = true) := ⟨decide_eq_true hf0⟩
        clear hf0
        go_wp2_with fail
        refine (HS.out _).mono ?_; rintro e w5 ⟨rfl, hb5⟩
        have K5 := Hd.mk (K3.out.call hb5)
        clear hb5 g1 g2
        cases mS with
        | false =>
          go_wp2_with fail
          go_ret
          exact ⟨by simp, K5.out.2⟩
        | true =>
          have g0 := cell_of_row w5 _ 0 _ _ _ (K5.out.get 1 rfl)
          have g1 := cell_of_row w5 _ 1 _ _ _ (K5.out.get 1 rfl)
          have g2 := cell_of_row w5 _ 2 _ _ _ (K5.out.get 1 rfl)
          have g3 := cell_of_row w5 _ 3 _ _ _ (K5.out.get 1 rfl)
          have g4 := cell_of_row w5 _ 4 _ _ _ (K5.out.get 1 rfl)
          have g5 := cell_of_row w5 _ 5 _ _ _ (K5.out.get 1 rfl)
          have g6 := cell_of_row w5 _ 6 _ _ _ (K5.out.get 1 rfl)
          have g7 := cell_of_row w5 _ 7 _ _ _ (K5.out.get 1 rfl)
          have g8 := cell_of_row w5 _ 8 _ _ _ (K5.out.get 1 rfl)
          have g9 := cell_of_row w5 _ 9 _ _ _ (K5.out.get 1 rfl)
          have g10 := cell_of_row w5 _ 10 _ _ _ (K5.out.get 1 rfl)
          have g11 := cell_of_row w5 _ 11 _ _ _ (K5.out.get 1 rfl)
          have g12 := cell_of_row w5 _ 12 _ _ _ (K5.out.get 1 rfl)
          cases hzz : isZ t r with
          | true =>
            have hz2 : (t == 0 && r == 0) = true := hzz
            have HZ := Hd.mk hzz
            clear hzz
            go_wp2_with fail
            go_ret
            exact ⟨by rw [HZ.out]; simp, K5.out.2⟩
          | false =>
            have hz2 : (t == 0 && r == 0) = false := hzz
            have HZ := Hd.mk hzz
            clear hzz
            go_wp2_with fail
            refine (HD.out _).mono ?_; rintro e w6 ⟨rfl, hb6⟩
            have K6 := Hd.mk (K5.out.call hb6)
            clear hb6 g0 g1 g2 g3 g4 g5 g6 g7 g8 g9 g10 g11 g12
            go_wp2_with fail
            go_ret
            exact ⟨by rw [HR7.out, hdf.out, HZ.out]; rfl, K6.out.2⟩
end Go.Proofs.YtcgkkjfbdappoaaGreat

/- Whether an operation may be: the contract, and what follows. -/
namespace Go.Proofs.YtcgkkjfbdappoaaGreat
open Go.RowKit Go.Proofs.YtcgkkjfbdappoaaGreatW.PrintWords Go.Proofs.YtcgkkjfbdappoaaGreatW.PrintLast Go.Proofs.YtcgkkjfbdappoaaGreatW.PrintMore
set_option linter.unusedVariables false
set_option linter.unusedSimpArgs false

/-- Whether an operation may be. -/
def mayO (t r k a0 a1 i0 i1 t0 t1 : Int) (nm nw : ByteArray) (off : Int) (dt : ByteArray) : Bool :=
  rowsOk (fieldsN k) [(1, mayS a0 a1, isZ a0 a1), (2, mayS i0 i1, isZ i0 i1), (4, mayS t0 t1, isZ t0 t1), (8, nameB nm, isE nm), (16, nameB nw, isE nw), (32, true, off == 0), (64, true, isE dt)] && decide (fieldsN k ≠ 0) && mayS t r && !isZ t r && dataB k off dt
theorem fieldsN_lt (k : Int) : fieldsN k < 128 := by
  unfold fieldsN
  repeat' split
  all_goals decide
theorem op_May (t r k a0 a1 i0 i1 t0 t1 : Int) (nm nw : ByteArray) (off : Int) (dt : ByteArray) (hd : dt.size ≤ 140737488355328) (w : World) :
    Calls Tryz.prog 47 #[.agg #[.int .i64 t, .int .i64 r, .int .i64 k, .int .i64 a0, .int .i64 a1, .int .i64 i0, .int .i64 i1, .int .i64 t0, .int .i64 t1, .string nm, .string nw, .int .i64 off, .string dt]] w fun e w' => e = .returned (.bool (mayO t r k a0 a1 i0 i1 t0 t1 nm nw off dt)) ∧ Below w.heap.size w w' :=
  May_walk t r k a0 a1 i0 i1 t0 t1 off nm nw dt (fieldsN k) (fieldsN_lt k) (mayS a0 a1) (mayS i0 i1) (mayS t0 t1) (nameB nm) (nameB nw) (mayS t r) (dataB k off dt) w _ ⟨rfl⟩ ⟨op_fields k⟩ ⟨stamp_May a0 a1⟩ ⟨stamp_May i0 i1⟩ ⟨stamp_May t0 t1⟩ ⟨op_Name nm⟩ ⟨op_Name nw⟩ ⟨stamp_May t r⟩ ⟨op_data t r k a0 a1 i0 i1 t0 t1 off nm nw dt hd⟩
theorem k_cases (k : Int) : k = 1 ∨ k = 2 ∨ k = 3 ∨ k = 4 ∨ k = 5 ∨ k = 6 ∨ k = 7 ∨ k = 8 ∨ k = 9 ∨ k = 10 ∨ fieldsN k = 0 := by
  by_cases h : 1 ≤ k ∧ k ≤ 10
  · omega
  · repeat (refine .inr ?_)
    unfold fieldsN
    repeat rw [if_neg (by omega)]
section
variable {t r k a0 a1 i0 i1 t0 t1 : Int} {nm nw : ByteArray} {off : Int} {dt : ByteArray}
theorem mayO_zero (h : fieldsN k = 0) : mayO t r k a0 a1 i0 i1 t0 t1 nm nw off dt = false := by unfold mayO; rw [h]; simp
theorem mayO_To (hk : k ≠ 7) (h : isZ t0 t1 = false) : mayO t r k a0 a1 i0 i1 t0 t1 nm nw off dt = false := by
  rcases k_cases k with rfl | rfl | rfl | rfl | rfl | rfl | rfl | rfl | rfl | rfl | h0
  all_goals first | exact absurd rfl hk | exact mayO_zero h0 | simp [mayO, fieldsN, rowsOk, rowOk, h]
theorem mayO_Ino (hk : k < 4) (h : isZ i0 i1 = false) : mayO t r k a0 a1 i0 i1 t0 t1 nm nw off dt = false := by
  rcases k_cases k with rfl | rfl | rfl | rfl | rfl | rfl | rfl | rfl | rfl | rfl | h0
  all_goals first | exact absurd hk (by decide) | exact mayO_zero h0 | simp [mayO, fieldsN, rowsOk, rowOk, h]
theorem mayO_Data (hk : k ≠ 3) (hk2 : k ≠ 8) (h : isE dt = false) : mayO t r k a0 a1 i0 i1 t0 t1 nm nw off dt = false := by
  rcases k_cases k with rfl | rfl | rfl | rfl | rfl | rfl | rfl | rfl | rfl | rfl | h0
  all_goals first | exact absurd rfl hk | exact absurd rfl hk2 | exact mayO_zero h0 | simp [mayO, fieldsN, rowsOk, rowOk, h]
theorem mayO_Off (h : mayO t r k a0 a1 i0 i1 t0 t1 nm nw off dt = true) : (0 ≤ off ∧ off ≤ 4095) ∧ dt.size ≤ 64 ∧ ∀ off', 4096 ≤ off' → mayO t r k a0 a1 i0 i1 t0 t1 nm nw off' dt = false := by
  have he : isE dt = true → dt.size ≤ 64 := fun h => by have := of_decide_eq_true h; omega
  rcases k_cases k with rfl | rfl | rfl | rfl | rfl | rfl | rfl | rfl | rfl | rfl | h0
  all_goals first
    | (rw [mayO_zero h0] at h; cases h)
    | (simp [mayO, fieldsN, rowsOk, rowOk, dataB] at h ⊢; refine ⟨by omega, by first | exact he (by simp_all) | omega, fun off' ho => ?_⟩; intros; omega)
theorem mayO_New (h : nameB nw = false) (h2 : isE nw = false) : mayO t r k a0 a1 i0 i1 t0 t1 nm nw off dt = false := by
  rcases k_cases k with rfl | rfl | rfl | rfl | rfl | rfl | rfl | rfl | rfl | rfl | h0
  all_goals first | exact mayO_zero h0 | simp [mayO, fieldsN, rowsOk, rowOk, h, h2]
theorem mayO_Stamp (h : isZ t r = true) : mayO t r k a0 a1 i0 i1 t0 t1 nm nw off dt = false := by unfold mayO; rw [h]; simp
theorem mayO_name (h : mayO t r k a0 a1 i0 i1 t0 t1 nm nw off dt = true) : nm.size ≤ 8 ∧ nw.size ≤ 8 := by
  have e : ∀ s, nameB s = true → s.size ≤ 8 := fun s h => by
    unfold nameB at h; simp at h; exact h.1.2.1
  have z : ∀ s, isE s = true → s.size ≤ 8 := fun s h => by have := of_decide_eq_true h; omega
  rcases k_cases k with rfl | rfl | rfl | rfl | rfl | rfl | rfl | rfl | rfl | rfl | h0
  all_goals first
    | (rw [mayO_zero h0] at h; cases h)
    | (simp [mayO, fieldsN, rowsOk, rowOk] at h; exact ⟨by first | exact e nm (by simp_all) | exact z nm (by simp_all), by first | exact e nw (by simp_all) | exact z nw (by simp_all)⟩)
end
theorem name_slash (s : ByteArray) : nameB (s ++ ⟨#[47]⟩) = false := by
  unfold nameB
  have : cleanB (s ++ (⟨#[47]⟩ : ByteArray)).data.toList = false := by
    have e : (s ++ (⟨#[47]⟩ : ByteArray)).data.toList = s.data.toList ++ [47] := by simp
    rw [e]; unfold cleanB; simp
  rw [this, Bool.and_false]
theorem isE_snoc (s : ByteArray) (x : UInt8) : isE (s ++ ⟨#[x]⟩) = false := by
  unfold isE
  rw [decide_eq_false]
  have : (s ++ (⟨#[x]⟩ : ByteArray)).size = s.size + 1 := by rw [ByteArray.size_append]; rfl
  omega
end Go.Proofs.YtcgkkjfbdappoaaGreat
