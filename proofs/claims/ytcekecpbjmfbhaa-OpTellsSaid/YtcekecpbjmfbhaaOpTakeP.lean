/- op.Take: what it answers, and that it is what was put: plain laws. -/
import Derived.Test.YtcekecpbjmfbhaaOpTake
namespace Go.Proofs.Ytcekecpbjmfbhaa
open Go.RowKit Go.Proofs.YtcekecpbjmfbhaaW.PrintWords Go.Proofs.YtcekecpbjmfbhaaW.PrintLast Go.Proofs.YtcekecpbjmfbhaaW.PrintMore Pk
set_option linter.unusedVariables false
set_option linter.unusedSimpArgs false

/-- An operation. -/
structure OpV where
  t : Int
  r : Int
  k : Int
  a0 : Int
  a1 : Int
  i0 : Int
  i1 : Int
  t0 : Int
  t1 : Int
  nm : ByteArray
  nw : ByteArray
  off : Int
  dt : ByteArray
namespace OpV
def cells (o : OpV) : Array Value := #[.int .i64 o.t, .int .i64 o.r, .int .i64 o.k, .int .i64 o.a0, .int .i64 o.a1, .int .i64 o.i0, .int .i64 o.i1, .int .i64 o.t0, .int .i64 o.t1, .string o.nm, .string o.nw, .int .i64 o.off, .string o.dt]
def may (o : OpV) : Bool := mayO o.t o.r o.k o.a0 o.a1 o.i0 o.i1 o.t0 o.t1 o.nm o.nw o.off o.dt
def put (o : OpV) : ByteArray := putO o.t o.r o.k o.a0 o.a1 o.i0 o.i1 o.t0 o.t1 o.nm o.nw o.off o.dt
structure Fine (o : OpV) : Prop where
  rng : OpRng o.t o.r o.k o.a0 o.a1 o.i0 o.i1 o.t0 o.t1 o.off
  nm : o.nm.size ≤ 140737488355328
  nw : o.nw.size ≤ 140737488355328
  dt : o.dt.size ≤ 140737488355328
def zero : OpV := ⟨0, 0, 0, 0, 0, 0, 0, 0, 0, ⟨#[]⟩, ⟨#[]⟩, 0, ⟨#[]⟩⟩
end OpV
/-- A number, a stamp, a text with which a string begins; its rest; 2 where there is none. -/
def tiT (s : ByteArray) : Int × ByteArray × Int :=
  match tk s.data.toList 0 0 with
  | none => (0, ⟨#[]⟩, 2)
  | some (n, r) => (unzig n, ⟨r.toArray⟩, 0)
def tsT (s : ByteArray) : Int × Int × ByteArray × Int :=
  match tkS s.data.toList with
  | none => (0, 0, ⟨#[]⟩, 2)
  | some (t, r, q) => (t, r, ⟨q.toArray⟩, 0)
def txT (s : ByteArray) : ByteArray × ByteArray × Int :=
  match tx 64 (tk s.data.toList 0 0) with
  | none => (⟨#[]⟩, ⟨#[]⟩, 2)
  | some (a, b) => (⟨a.toArray⟩, ⟨b.toArray⟩, 0)
theorem take_i (s : ByteArray) (hs : s.size ≤ 140737488355328) (w : World) : Calls Try.prog 52 #[.string s] w fun e w' => e = .returned (.tuple #[.int .i64 (tiT s).1, .string (tiT s).2.1, .int .i64 (tiT s).2.2]) ∧ Below w.heap.size w w' := by
  have h := pack_TakeInt s (by unfold maxLen; omega) w
  unfold tiT
  cases hT : tk s.data.toList 0 0 with
  | none => rw [hT] at h; exact h
  | some p => rw [hT] at h; exact h
theorem take_s (s : ByteArray) (hs : s.size ≤ 140737488355328) (w : World) : Calls Try.prog 54 #[.string s] w fun e w' => e = .returned (.tuple #[.agg #[.int .i64 (tsT s).1, .int .i64 (tsT s).2.1], .string (tsT s).2.2.1, .int .i64 (tsT s).2.2.2]) ∧ Below w.heap.size w w' := by
  have h := stamp_Take s hs w
  unfold tsT
  cases hT : tkS s.data.toList with
  | none => rw [hT] at h; exact h
  | some p => rw [hT] at h; exact h
theorem take_x (s : ByteArray) (hs : s.size ≤ 140737488355328) (w : World) : Calls Try.prog 56 #[.string s] w fun e w' => e = .returned (.tuple #[.string (txT s).1, .string (txT s).2.1, .int .i64 (txT s).2.2]) ∧ Below w.heap.size w w' := by
  have h := op_text s hs w
  unfold txT
  cases hT : tx 64 (tk s.data.toList 0 0) with
  | none => rw [hT] at h; exact h
  | some p => rw [hT] at h; exact h
theorem tk_fits {l : List UInt8} {n : Nat} {r : List UInt8} (h : tk l 0 0 = some (n, r)) : n < 18446744073709551616 := tk_bd l 0 0 n r (by decide) (by decide) h
theorem tiT_rest (s : ByteArray) : (tiT s).2.1.size ≤ s.size ∧ Rng (tiT s).1 := by
  unfold tiT
  cases hT : tk s.data.toList 0 0 with
  | none => exact ⟨Nat.zero_le _, by constructor <;> decide⟩
  | some p =>
    obtain ⟨n, r⟩ := p
    have h1 := tk_len _ _ _ _ _ hT
    have hsl : s.data.toList.length = s.size := rfl
    exact ⟨by show (⟨r.toArray⟩ : ByteArray).size ≤ _; rw [size_of]; omega, unzig_bd (tk_fits hT)⟩
theorem tiT_ok {s : ByteArray} (h : (tiT s).2.2 = 0) : strOfNums (num (zig (tiT s).1)) ++ (tiT s).2.1 = s := by
  unfold tiT at h ⊢
  cases hT : tk s.data.toList 0 0 with
  | none => rw [hT] at h; exact absurd h (by decide)
  | some p =>
    obtain ⟨n, r⟩ := p
    show strOfNums (num (zig (unzig n))) ++ ⟨r.toArray⟩ = s
    rw [zig_unzig, numB_str, mk_append, ← tk_bytes hT]
theorem tiT_put {n : Int} (hn : Rng n) (s : ByteArray) : tiT (strOfNums (num (zig n)) ++ s) = (n, s, 0) := by
  unfold tiT
  rw [num_list, tk_back (zig_lt hn.1 hn.2), ]
  show (unzig (zig n), (⟨s.data.toList.toArray⟩ : ByteArray), (0 : Int)) = _
  rw [unzig_zig]
theorem tkS_putO (t r : Int) (ht : Rng t) (hr : Rng r) (s : ByteArray) :
    tkS (putS t r ++ s).data.toList = if mayS t r = true then some (t, r, s.data.toList) else none := by
  have e : (putS t r ++ s).data.toList = numB (zig t) ++ (numB (zig r) ++ s.data.toList) := by
    unfold putS; rw [append_list, append_list, numB_str, numB_str]; simp
  rw [e]
  unfold tkS
  rw [tk_back (zig_lt ht.1 ht.2)]
  show (match tk (numB (zig r) ++ s.data.toList) 0 0 with | none => none | some (m, q) => _) = _
  rw [tk_back (zig_lt hr.1 hr.2), unzig_zig]
  show (if mayS t (unzig (zig r)) = true then some (t, unzig (zig r), s.data.toList) else none) = _
  rw [unzig_zig]
theorem tsT_put {t r : Int} (ht : Rng t) (hr : Rng r) (s : ByteArray) : tsT (putS t r ++ s) = if mayS t r = true then (t, r, s, 0) else (0, 0, ⟨#[]⟩, 2) := by
  unfold tsT
  rw [tkS_putO t r ht hr]
  cases mayS t r <;> rfl
theorem tkS_bytes {s : ByteArray} {t r : Int} {q : List UInt8} (h : tkS s.data.toList = some (t, r, q)) :
    putS t r ++ ⟨q.toArray⟩ = s ∧ mayS t r = true ∧ Rng t ∧ Rng r ∧ q.length ≤ s.size := by
  unfold tkS at h
  cases hT : tk s.data.toList 0 0 with
  | none => rw [hT] at h; simp at h
  | some p =>
    obtain ⟨n, r1⟩ := p
    rw [hT] at h
    change (match tk r1 0 0 with | none => none | some (m, q) => if mayS (unzig n) (unzig m) = true then some (unzig n, unzig m, q) else none) = _ at h
    cases hT2 : tk r1 0 0 with
    | none => rw [hT2] at h; simp at h
    | some p2 =>
      obtain ⟨m, q2⟩ := p2
      rw [hT2] at h
      change (if mayS (unzig n) (unzig m) = true then some (unzig n, unzig m, q2) else none) = _ at h
      split at h
      · rename_i hm
        simp only [Option.some.injEq, Prod.mk.injEq] at h
        obtain ⟨rfl, rfl, rfl⟩ := h
        have b1 := tk_bytes hT
        have b2 := tk_bytes hT2
        have l1 := tk_len _ _ _ _ _ hT
        have l2 := tk_len _ _ _ _ _ hT2
        have hsl : s.data.toList.length = s.size := rfl
        refine ⟨?_, hm, unzig_bd (tk_fits hT), unzig_bd (tk_fits hT2), by omega⟩
        unfold putS
        rw [zig_unzig, zig_unzig, numB_str, numB_str, mk_append, mk_append, List.append_assoc, ← b2, ← b1]
      · simp at h
theorem tsT_rest (s : ByteArray) : (tsT s).2.2.1.size ≤ s.size ∧ Rng (tsT s).1 ∧ Rng (tsT s).2.1 := by
  unfold tsT
  cases hT : tkS s.data.toList with
  | none => exact ⟨Nat.zero_le _, by constructor <;> decide, by constructor <;> decide⟩
  | some p =>
    obtain ⟨t, r, q⟩ := p
    obtain ⟨-, -, h1, h2, h3⟩ := tkS_bytes hT
    exact ⟨by show (⟨q.toArray⟩ : ByteArray).size ≤ _; rw [size_of]; exact h3, h1, h2⟩
theorem tsT_ok {s : ByteArray} (h : (tsT s).2.2.2 = 0) : putS (tsT s).1 (tsT s).2.1 ++ (tsT s).2.2.1 = s := by
  unfold tsT at h ⊢
  cases hT : tkS s.data.toList with
  | none => rw [hT] at h; exact absurd h (by decide)
  | some p =>
    obtain ⟨t, r, q⟩ := p
    exact (tkS_bytes hT).1
theorem txT_rest (s : ByteArray) : (txT s).2.1.size ≤ s.size ∧ (txT s).1.size ≤ 64 := by
  unfold txT
  cases hT : tk s.data.toList 0 0 with
  | none => exact ⟨Nat.zero_le _, by decide⟩
  | some p =>
    obtain ⟨n, r⟩ := p
    have h1 := tk_len _ _ _ _ _ hT
    have hsl : s.data.toList.length = s.size := rfl
    by_cases hc : (64 : Int) < 0 ∨ (64 : Int) < n ∨ r.length < n
    · simp only [tx, if_pos hc]
      exact ⟨Nat.zero_le _, by decide⟩
    · simp only [tx, if_neg hc]
      constructor
      · show (⟨(r.drop n).toArray⟩ : ByteArray).size ≤ _
        rw [size_of, List.length_drop]; omega
      · show (⟨(r.take n).toArray⟩ : ByteArray).size ≤ _
        rw [size_of, List.length_take]; omega
theorem txT_ok {s : ByteArray} (h : (txT s).2.2 = 0) : strOfNums (num (txT s).1.size) ++ (txT s).1 ++ (txT s).2.1 = s := by
  unfold txT at h ⊢
  cases hT : tk s.data.toList 0 0 with
  | none => rw [hT] at h; exact absurd h (by decide)
  | some p =>
    obtain ⟨n, r⟩ := p
    rw [hT] at h
    by_cases hc : (64 : Int) < 0 ∨ (64 : Int) < n ∨ r.length < n
    · simp only [tx, if_pos hc] at h
      exact absurd h (by decide)
    · simp only [tx, if_neg hc]
      have hl : (r.take n).length = n := by rw [List.length_take]; omega
      rw [size_of, hl, numB_str, mk_append, mk_append, List.append_assoc, List.take_append_drop, ← tk_bytes hT]
theorem txT_put {x : ByteArray} (hx : x.size ≤ 140737488355328) (s : ByteArray) : txT (strOfNums (num x.size) ++ x ++ s) = if x.size ≤ 64 then (x, s, 0) else (⟨#[]⟩, ⟨#[]⟩, 2) := by
  unfold txT
  have e : (strOfNums (num x.size) ++ x ++ s).data.toList = numB x.size ++ (x.data.toList ++ s.data.toList) := by
    rw [append_list, append_list, numB_str]; simp
  rw [e, tk_back (by omega)]
  have hl : x.data.toList.length = x.size := rfl
  by_cases h : x.size ≤ 64
  · have hc : ¬ ((64 : Int) < 0 ∨ (64 : Int) < x.size ∨ (x.data.toList ++ s.data.toList).length < x.size) := by
      rw [List.length_append]; omega
    simp only [tx, if_neg hc, if_pos h]
    rw [← hl, List.take_left' rfl, List.drop_left' rfl]
  · have hc : ((64 : Int) < 0 ∨ (64 : Int) < x.size ∨ (x.data.toList ++ s.data.toList).length < x.size) := by omega
    simp only [tx, if_pos hc, if_neg h]
/-- The rests, one behind the other. -/
def y1 (b : ByteArray) : ByteArray := (tiT b).2.1
def y2 (b : ByteArray) : ByteArray := (tsT (y1 b)).2.2.1
def y3 (b : ByteArray) : ByteArray := (tsT (y2 b)).2.2.1
def y4 (b : ByteArray) : ByteArray := (tsT (y3 b)).2.2.1
def y5 (b : ByteArray) : ByteArray := (tsT (y4 b)).2.2.1
def y6 (b : ByteArray) : ByteArray := (txT (y5 b)).2.1
def y7 (b : ByteArray) : ByteArray := (txT (y6 b)).2.1
def y8 (b : ByteArray) : ByteArray := (tiT (y7 b)).2.1
def y9 (b : ByteArray) : ByteArray := (txT (y8 b)).2.1
theorem y_sizes (b : ByteArray) : (y1 b).size ≤ b.size ∧ (y2 b).size ≤ b.size ∧ (y3 b).size ≤ b.size ∧ (y4 b).size ≤ b.size ∧ (y5 b).size ≤ b.size ∧ (y6 b).size ≤ b.size ∧ (y7 b).size ≤ b.size ∧ (y8 b).size ≤ b.size ∧ (y9 b).size ≤ b.size := by
  have h1 : (y1 b).size ≤ b.size := (tiT_rest b).1
  have h2 : (y2 b).size ≤ b.size := Nat.le_trans (tsT_rest (y1 b)).1 h1
  have h3 : (y3 b).size ≤ b.size := Nat.le_trans (tsT_rest (y2 b)).1 h2
  have h4 : (y4 b).size ≤ b.size := Nat.le_trans (tsT_rest (y3 b)).1 h3
  have h5 : (y5 b).size ≤ b.size := Nat.le_trans (tsT_rest (y4 b)).1 h4
  have h6 : (y6 b).size ≤ b.size := Nat.le_trans (txT_rest (y5 b)).1 h5
  have h7 : (y7 b).size ≤ b.size := Nat.le_trans (txT_rest (y6 b)).1 h6
  have h8 : (y8 b).size ≤ b.size := Nat.le_trans (tiT_rest (y7 b)).1 h7
  have h9 : (y9 b).size ≤ b.size := Nat.le_trans (txT_rest (y8 b)).1 h8
  exact ⟨h1, h2, h3, h4, h5, h6, h7, h8, h9⟩
/-- What Take reads, well or not. -/
def rawV (b : ByteArray) : OpV := ⟨(tsT (y1 b)).1, (tsT (y1 b)).2.1, (tiT b).1, (tsT (y2 b)).1, (tsT (y2 b)).2.1, (tsT (y3 b)).1, (tsT (y3 b)).2.1, (tsT (y4 b)).1, (tsT (y4 b)).2.1, (txT (y5 b)).1, (txT (y6 b)).1, (tiT (y7 b)).1, (txT (y8 b)).1⟩
def rawB (b : ByteArray) : Bool := (((((((((false || (tiT b).2.2 != 0) || (tsT (y1 b)).2.2.2 != 0) || (tsT (y2 b)).2.2.2 != 0) || (tsT (y3 b)).2.2.2 != 0) || (tsT (y4 b)).2.2.2 != 0) || (txT (y5 b)).2.2 != 0) || (txT (y6 b)).2.2 != 0) || (tiT (y7 b)).2.2 != 0) || (txT (y8 b)).2.2 != 0)
/-- The operation with which a string begins, and what is behind. -/
def takeO (b : ByteArray) : Option (OpV × ByteArray) :=
  if (rawB b || !(rawV b).may) = true then none else some (rawV b, y9 b)
def toV : Option (OpV × ByteArray) → Value
  | none => .tuple #[.agg OpV.zero.cells, .string ⟨#[]⟩, .int .i64 2]
  | some (o, r) => .tuple #[.agg o.cells, .string r, .int .i64 0]
theorem le64 {n : Nat} (h : n ≤ 64) : n ≤ 140737488355328 := by omega
theorem rawV_fine (b : ByteArray) : (rawV b).Fine ∧ (rawV b).nm.size ≤ 64 ∧ (rawV b).nw.size ≤ 64 ∧ (rawV b).dt.size ≤ 64 := by
  obtain ⟨-, r1, r2⟩ := tsT_rest (y1 b)
  obtain ⟨-, r3, r4⟩ := tsT_rest (y2 b)
  obtain ⟨-, r5, r6⟩ := tsT_rest (y3 b)
  obtain ⟨-, r7, r8⟩ := tsT_rest (y4 b)
  have r9 := (tiT_rest b).2
  have r10 := (tiT_rest (y7 b)).2
  have x1 := (txT_rest (y5 b)).2
  have x2 := (txT_rest (y6 b)).2
  have x3 := (txT_rest (y8 b)).2
  unfold rawV
  generalize tsT (y1 b) = z1 at *
  generalize tsT (y2 b) = z2 at *
  generalize tsT (y3 b) = z3 at *
  generalize tsT (y4 b) = z4 at *
  generalize tiT b = z5 at *
  generalize tiT (y7 b) = z6 at *
  generalize txT (y5 b) = z7 at *
  generalize txT (y6 b) = z8 at *
  generalize txT (y8 b) = z9 at *
  exact ⟨⟨⟨r1, r2, r9, r3, r4, r5, r6, r7, r8, r10⟩, le64 x1, le64 x2, le64 x3⟩, x1, x2, x3⟩
theorem op_Take (b : ByteArray) (hb : b.size ≤ 140737488355328) (w : World) : Calls Try.prog 31 #[.string b] w fun e w' => e = .returned (toV (takeO b)) ∧ Below w.heap.size w w' := by
  obtain ⟨l1, l2, l3, l4, l5, l6, l7, l8, l9⟩ := y_sizes b
  have hd := (rawV_fine b).1.dt
  have q1 : ∀ w, Calls Try.prog 52 #[.string (b)] w fun e w' => e = .returned (.tuple #[.int .i64 (rawV b).k, .string (y1 b), .int .i64 (tiT b).2.2]) ∧ Below w.heap.size w w' := by
    intro w
    have h := take_i b hb w
    simpa only [rawV, y1] using h
  have q2 : ∀ w, Calls Try.prog 54 #[.string (y1 b)] w fun e w' => e = .returned (.tuple #[.agg #[.int .i64 (rawV b).t, .int .i64 (rawV b).r], .string (y2 b), .int .i64 (tsT (y1 b)).2.2.2]) ∧ Below w.heap.size w w' := by
    intro w
    have h := take_s (y1 b) (Nat.le_trans l1 hb) w
    simpa only [rawV, y2] using h
  have q3 : ∀ w, Calls Try.prog 54 #[.string (y2 b)] w fun e w' => e = .returned (.tuple #[.agg #[.int .i64 (rawV b).a0, .int .i64 (rawV b).a1], .string (y3 b), .int .i64 (tsT (y2 b)).2.2.2]) ∧ Below w.heap.size w w' := by
    intro w
    have h := take_s (y2 b) (Nat.le_trans l2 hb) w
    simpa only [rawV, y3] using h
  have q4 : ∀ w, Calls Try.prog 54 #[.string (y3 b)] w fun e w' => e = .returned (.tuple #[.agg #[.int .i64 (rawV b).i0, .int .i64 (rawV b).i1], .string (y4 b), .int .i64 (tsT (y3 b)).2.2.2]) ∧ Below w.heap.size w w' := by
    intro w
    have h := take_s (y3 b) (Nat.le_trans l3 hb) w
    simpa only [rawV, y4] using h
  have q5 : ∀ w, Calls Try.prog 54 #[.string (y4 b)] w fun e w' => e = .returned (.tuple #[.agg #[.int .i64 (rawV b).t0, .int .i64 (rawV b).t1], .string (y5 b), .int .i64 (tsT (y4 b)).2.2.2]) ∧ Below w.heap.size w w' := by
    intro w
    have h := take_s (y4 b) (Nat.le_trans l4 hb) w
    simpa only [rawV, y5] using h
  have q6 : ∀ w, Calls Try.prog 56 #[.string (y5 b)] w fun e w' => e = .returned (.tuple #[.string (rawV b).nm, .string (y6 b), .int .i64 (txT (y5 b)).2.2]) ∧ Below w.heap.size w w' := by
    intro w
    have h := take_x (y5 b) (Nat.le_trans l5 hb) w
    simpa only [rawV, y6] using h
  have q7 : ∀ w, Calls Try.prog 56 #[.string (y6 b)] w fun e w' => e = .returned (.tuple #[.string (rawV b).nw, .string (y7 b), .int .i64 (txT (y6 b)).2.2]) ∧ Below w.heap.size w w' := by
    intro w
    have h := take_x (y6 b) (Nat.le_trans l6 hb) w
    simpa only [rawV, y7] using h
  have q8 : ∀ w, Calls Try.prog 52 #[.string (y7 b)] w fun e w' => e = .returned (.tuple #[.int .i64 (rawV b).off, .string (y8 b), .int .i64 (tiT (y7 b)).2.2]) ∧ Below w.heap.size w w' := by
    intro w
    have h := take_i (y7 b) (Nat.le_trans l7 hb) w
    simpa only [rawV, y8] using h
  have q9 : ∀ w, Calls Try.prog 56 #[.string (y8 b)] w fun e w' => e = .returned (.tuple #[.string (rawV b).dt, .string (y9 b), .int .i64 (txT (y8 b)).2.2]) ∧ Below w.heap.size w w' := by
    intro w
    have h := take_x (y8 b) (Nat.le_trans l8 hb) w
    simpa only [rawV, y9] using h
  have h := Take_walk b (rawV b).k (rawV b).t (rawV b).r (rawV b).a0 (rawV b).a1 (rawV b).i0 (rawV b).i1 (rawV b).t0 (rawV b).t1 (rawV b).off (rawV b).nm (rawV b).nw (rawV b).dt
    (y1 b) (y2 b) (y3 b) (y4 b) (y5 b) (y6 b) (y7 b) (y8 b) (y9 b) (tiT b).2.2 (tsT (y1 b)).2.2.2 (tsT (y2 b)).2.2.2 (tsT (y3 b)).2.2.2 (tsT (y4 b)).2.2.2 (txT (y5 b)).2.2 (txT (y6 b)).2.2 (tiT (y7 b)).2.2 (txT (y8 b)).2.2 (rawV b).may w
    ⟨q1⟩ ⟨q2⟩ ⟨q3⟩ ⟨q4⟩ ⟨q5⟩ ⟨q6⟩ ⟨q7⟩ ⟨q8⟩ ⟨q9⟩
    ⟨op_May _ _ _ _ _ _ _ _ _ _ _ _ _ hd⟩ (rawB b) ⟨rfl⟩
  refine h.mono fun e w' h => ⟨h.1.trans ?_, h.2⟩
  unfold takeO
  by_cases hc : (rawB b || !(rawV b).may) = true
  · rw [if_pos hc, if_pos hc]; rfl
  · rw [if_neg hc, if_neg hc]; rfl
set_option maxHeartbeats 2000000 in
theorem put_app (o : OpV) (s : ByteArray) : o.put ++ s = strOfNums (num (zig o.k)) ++ (putS o.t o.r ++ (putS o.a0 o.a1 ++ (putS o.i0 o.i1 ++ (putS o.t0 o.t1 ++ (strOfNums (num o.nm.size) ++ o.nm ++ (strOfNums (num o.nw.size) ++ o.nw ++ (strOfNums (num (zig o.off)) ++ (strOfNums (num o.dt.size) ++ o.dt ++ s)))))))) := by
  unfold OpV.put putO
  simp only [ByteArray.append_assoc]
set_option maxHeartbeats 2000000 in
theorem takeO_very {s : ByteArray} {o : OpV} {r : ByteArray} (h : takeO s = some (o, r)) : o.put ++ r = s ∧ o.may = true ∧ o.Fine ∧ r.size ≤ s.size := by
  unfold takeO at h
  split at h
  · cases h
  · rename_i hc
    simp only [Option.some.injEq, Prod.mk.injEq] at h
    obtain ⟨rfl, rfl⟩ := h
    have hf := rawV_fine s
    rw [Bool.not_eq_true, Bool.or_eq_false_iff] at hc
    refine ⟨?_, by simpa using hc.2, hf.1, (y_sizes s).2.2.2.2.2.2.2.2⟩
    have hb : rawB s = false := hc.1
    clear hc hf
    unfold rawB at hb
    simp only [Bool.or_eq_false_iff, bne_eq_false_iff_eq] at hb
    obtain ⟨⟨⟨⟨⟨⟨⟨⟨⟨-, c1⟩, c2⟩, c3⟩, c4⟩, c5⟩, c6⟩, c7⟩, c8⟩, c9⟩ := hb
    rw [put_app]
    unfold rawV y9
    dsimp only
    rw [txT_ok c9, show y8 s = (tiT (y7 s)).2.1 from rfl, tiT_ok c8, show y7 s = (txT (y6 s)).2.1 from rfl, txT_ok c7, show y6 s = (txT (y5 s)).2.1 from rfl, txT_ok c6, show y5 s = (tsT (y4 s)).2.2.1 from rfl, tsT_ok c5, show y4 s = (tsT (y3 s)).2.2.1 from rfl, tsT_ok c4, show y3 s = (tsT (y2 s)).2.2.1 from rfl, tsT_ok c3, show y2 s = (tsT (y1 s)).2.2.1 from rfl, tsT_ok c2, show y1 s = (tiT s).2.1 from rfl, tiT_ok c1]
set_option maxHeartbeats 2000000 in
theorem mayO_parts {t r k a0 a1 i0 i1 t0 t1 : Int} {nm nw : ByteArray} {off : Int} {dt : ByteArray} (h : mayO t r k a0 a1 i0 i1 t0 t1 nm nw off dt = true) : mayS t r = true ∧ mayS a0 a1 = true ∧ mayS i0 i1 = true ∧ mayS t0 t1 = true := by
  have z : ∀ a b, isZ a b = true → mayS a b = true := fun a b h => by
    unfold isZ at h
    simp only [Bool.and_eq_true, beq_iff_eq] at h
    exact decide_eq_true (.inl h)
  have hs : mayS t r = true := by
    unfold mayO at h
    simp only [Bool.and_eq_true] at h
    exact h.1.1.2
  refine ⟨hs, ?_⟩
  rcases k_cases k with rfl | rfl | rfl | rfl | rfl | rfl | rfl | rfl | rfl | rfl | h0
  all_goals first
    | (rw [mayO_zero h0] at h; cases h)
    | (simp [mayO, fieldsN, rowsOk, rowOk] at h; refine ⟨?_, ?_, ?_⟩ <;> first | (simp_all; done) | exact z _ _ (by simp_all))
theorem takeO_put {o : OpV} (ho : o.Fine) (s : ByteArray) : takeO (o.put ++ s) = if o.may = true then some (o, s) else none := by
  obtain ⟨⟨b1, b2, b3, b4, b5, b6, b7, b8, b9, b10⟩, n1, n2, n3⟩ := ho
  rw [put_app]
  have e1 := tiT_put b3 (putS o.t o.r ++ (putS o.a0 o.a1 ++ (putS o.i0 o.i1 ++ (putS o.t0 o.t1 ++ (strOfNums (num o.nm.size) ++ o.nm ++ (strOfNums (num o.nw.size) ++ o.nw ++ (strOfNums (num (zig o.off)) ++ (strOfNums (num o.dt.size) ++ o.dt ++ s))))))))
  have e2 := tsT_put b1 b2 (putS o.a0 o.a1 ++ (putS o.i0 o.i1 ++ (putS o.t0 o.t1 ++ (strOfNums (num o.nm.size) ++ o.nm ++ (strOfNums (num o.nw.size) ++ o.nw ++ (strOfNums (num (zig o.off)) ++ (strOfNums (num o.dt.size) ++ o.dt ++ s)))))))
  have e3 := tsT_put b4 b5 (putS o.i0 o.i1 ++ (putS o.t0 o.t1 ++ (strOfNums (num o.nm.size) ++ o.nm ++ (strOfNums (num o.nw.size) ++ o.nw ++ (strOfNums (num (zig o.off)) ++ (strOfNums (num o.dt.size) ++ o.dt ++ s))))))
  have e4 := tsT_put b6 b7 (putS o.t0 o.t1 ++ (strOfNums (num o.nm.size) ++ o.nm ++ (strOfNums (num o.nw.size) ++ o.nw ++ (strOfNums (num (zig o.off)) ++ (strOfNums (num o.dt.size) ++ o.dt ++ s)))))
  have e5 := tsT_put b8 b9 (strOfNums (num o.nm.size) ++ o.nm ++ (strOfNums (num o.nw.size) ++ o.nw ++ (strOfNums (num (zig o.off)) ++ (strOfNums (num o.dt.size) ++ o.dt ++ s))))
  have e6 := txT_put n1 (strOfNums (num o.nw.size) ++ o.nw ++ (strOfNums (num (zig o.off)) ++ (strOfNums (num o.dt.size) ++ o.dt ++ s)))
  have e7 := txT_put n2 (strOfNums (num (zig o.off)) ++ (strOfNums (num o.dt.size) ++ o.dt ++ s))
  have e8 := tiT_put b10 (strOfNums (num o.dt.size) ++ o.dt ++ s)
  have e9 := txT_put n3 s
  generalize strOfNums (num o.dt.size) ++ o.dt ++ s = z9 at *
  generalize strOfNums (num (zig o.off)) ++ z9 = z8 at *
  generalize strOfNums (num o.nw.size) ++ o.nw ++ z8 = z7 at *
  generalize strOfNums (num o.nm.size) ++ o.nm ++ z7 = z6 at *
  generalize putS o.t0 o.t1 ++ z6 = z5 at *
  generalize putS o.i0 o.i1 ++ z5 = z4 at *
  generalize putS o.a0 o.a1 ++ z4 = z3 at *
  generalize putS o.t o.r ++ z3 = z2 at *
  generalize strOfNums (num (zig o.k)) ++ z2 = z1 at *
  have raw_bad : rawB z1 = true → takeO z1 = none := fun h => by unfold takeO; rw [h]; rfl
  have not_may : ∀ h : o.may = true → False, (if o.may = true then some (o, s) else none) = none := fun h => if_neg h
  by_cases m1 : mayS o.t o.r = true
  · rw [if_pos m1] at e2
    by_cases m2 : mayS o.a0 o.a1 = true
    · rw [if_pos m2] at e3
      by_cases m3 : mayS o.i0 o.i1 = true
      · rw [if_pos m3] at e4
        by_cases m4 : mayS o.t0 o.t1 = true
        · rw [if_pos m4] at e5
          by_cases m5 : o.nm.size ≤ 64
          · rw [if_pos m5] at e6
            by_cases m6 : o.nw.size ≤ 64
            · rw [if_pos m6] at e7
              by_cases m7 : o.dt.size ≤ 64
              · rw [if_pos m7] at e9
                have hr1 : rawV z1 = o := by
                  simp only [rawV, y1, y2, y3, y4, y5, y6, y7, y8, e1, e2, e3, e4, e5, e6, e7, e8, e9]
                have hr2 : rawB z1 = false := by
                  unfold rawB
                  simp only [y1, y2, y3, y4, y5, y6, y7, y8, e1, e2, e3, e4, e5, e6, e7, e8, e9]
                  rfl
                have hr3 : y9 z1 = s := by
                  simp only [y1, y2, y3, y4, y5, y6, y7, y8, y9, e1, e2, e3, e4, e5, e6, e7, e8, e9]
                unfold takeO
                rw [hr1, hr2, hr3]
                cases hm : o.may <;> rfl
              · rw [if_neg m7] at e9
                rw [raw_bad (by unfold rawB; simp [y1, y2, y3, y4, y5, y6, y7, y8, y9, e1, e2, e3, e4, e5, e6, e7, e8, e9]), not_may (fun h => m7 (mayO_Off h).2.1)]
            · rw [if_neg m6] at e7
              rw [raw_bad (by unfold rawB; simp [y1, y2, y3, y4, y5, y6, y7, y8, y9, e1, e2, e3, e4, e5, e6, e7]), not_may (fun h => m6 (Nat.le_trans (mayO_name h).2 (by decide)))]
          · rw [if_neg m5] at e6
            rw [raw_bad (by unfold rawB; simp [y1, y2, y3, y4, y5, y6, y7, y8, y9, e1, e2, e3, e4, e5, e6]), not_may (fun h => m5 (Nat.le_trans (mayO_name h).1 (by decide)))]
        · rw [if_neg m4] at e5
          rw [raw_bad (by unfold rawB; simp [y1, y2, y3, y4, y5, y6, y7, y8, y9, e1, e2, e3, e4, e5]), not_may (fun h => m4 (mayO_parts h).2.2.2)]
      · rw [if_neg m3] at e4
        rw [raw_bad (by unfold rawB; simp [y1, y2, y3, y4, y5, y6, y7, y8, y9, e1, e2, e3, e4]), not_may (fun h => m3 (mayO_parts h).2.2.1)]
    · rw [if_neg m2] at e3
      rw [raw_bad (by unfold rawB; simp [y1, y2, y3, y4, y5, y6, y7, y8, y9, e1, e2, e3]), not_may (fun h => m2 (mayO_parts h).2.1)]
  · rw [if_neg m1] at e2
    rw [raw_bad (by unfold rawB; simp [y1, y2, y3, y4, y5, y6, y7, y8, y9, e1, e2]), not_may (fun h => m1 (mayO_parts h).1)]
end Go.Proofs.Ytcekecpbjmfbhaa
