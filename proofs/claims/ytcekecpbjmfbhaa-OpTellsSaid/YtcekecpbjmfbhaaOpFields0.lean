/- op.fields, op.data, op.Makes: which fields an operation has; whether its offset and data may be; what it makes. -/
import Derived.Test.YtcekecpbjmfbhaaOpName
import Derived.Test.YtcekecpbjmfbhaaHeld
import Derived.Test.YtcekecpbjmfbhaaStampWalk
namespace Go.Proofs.Ytcekecpbjmfbhaa
open Go.RowKit Go.Proofs.YtcekecpbjmfbhaaW.PrintWords Go.Proofs.YtcekecpbjmfbhaaW.PrintLast Go.Proofs.YtcekecpbjmfbhaaW.PrintMore
set_option linter.unusedVariables false
set_option linter.unusedSimpArgs false

/-- Which fields operations of a kind have. -/
def fieldsN (k : Int) : Nat := if k = 1 then 9 else if k = 2 then 9 else if k = 3 then 73 else if k = 4 then 11 else if k = 5 then 11 else if k = 6 then 11 else if k = 7 then 31 else if k = 8 then 98 else if k = 9 then 34 else if k = 10 then 34 else 0
set_option maxHeartbeats 1000000 in
theorem op_fields (k : Int) (w : World) : Calls Try.prog 45 #[.int .i64 k] w fun e w' => e = .returned (.int .i64 ((fieldsN k : Nat) : Int)) ∧ Below w.heap.size w w' := by
  by_cases h0 : k < 0
  · have hn : Hd (fieldsN k = 0) := ⟨by unfold fieldsN; repeat rw [if_neg (by omega)]⟩
    go_enter Try.func45, Try.ntmps45
    go_wp2_with fail
    go_ret
    exact ⟨by rw [hn.out]; rfl, (Below.refl _ _).alloc (Nat.le_refl _) _⟩
  · by_cases h1 : 11 ≤ k
    · have hn : Hd (fieldsN k = 0) := ⟨by unfold fieldsN; repeat rw [if_neg (by omega)]⟩
      go_enter Try.func45, Try.ntmps45
      go_wp2_with fail
      go_ret
      exact ⟨by rw [hn.out]; rfl, (Below.refl _ _).alloc (Nat.le_refl _) _⟩
    · obtain rfl | rfl | rfl | rfl | rfl | rfl | rfl | rfl | rfl | rfl | rfl : k = 0 ∨ k = 1 ∨ k = 2 ∨ k = 3 ∨ k = 4 ∨ k = 5 ∨ k = 6 ∨ k = 7 ∨ k = 8 ∨ k = 9 ∨ k = 10 := by omega
      all_goals
        clear h0 h1
        go_enter Try.func45, Try.ntmps45
        go_wp2_with fail
        go_ret
        exact ⟨by rfl, (Below.refl _ _).alloc (Nat.le_refl _) _⟩
/-- What operations of a kind make. -/
def makesN (k : Int) : Int := if k = 1 then 1 else if k = 2 then 2 else if k = 3 then 3 else 0
set_option maxHeartbeats 1000000 in
theorem op_Makes (t r k a0 a1 i0 i1 t0 t1 off : Int) (nm nw dt : ByteArray) (w : World) : Calls Try.prog 28 #[.agg #[.int .i64 t, .int .i64 r, .int .i64 k, .int .i64 a0, .int .i64 a1, .int .i64 i0, .int .i64 i1, .int .i64 t0, .int .i64 t1, .string nm, .string nw, .int .i64 off, .string dt]] w fun e w' => e = .returned (.int .i64 (makesN k)) ∧ Below w.heap.size w w' := by
  by_cases h : k = 1 ∨ k = 2 ∨ k = 3
  · obtain rfl | rfl | rfl := h
    all_goals
      go_enter Try.func28, Try.ntmps28
      go_wp2_with fail
      go_ret
      exact ⟨by rfl, (Below.refl _ _).alloc (Nat.le_refl _) _⟩
  · have hn : Hd (makesN k = 0) := ⟨by unfold makesN; repeat rw [if_neg (by omega)]⟩
    have e1 : (k == 1) = false := by rw [beq_eq_false_iff_ne]; omega
    have e2 : (k == 2) = false := by rw [beq_eq_false_iff_ne]; omega
    have e3 : (k == 3) = false := by rw [beq_eq_false_iff_ne]; omega
    clear h
    go_enter Try.func28, Try.ntmps28
    go_wp2_with fail
    go_ret
    exact ⟨by rw [hn.out]; rfl, (Below.refl _ _).alloc (Nat.le_refl _) _⟩
/-- Whether an operation's offset and data may be. -/
def dataB (k off : Int) (dt : ByteArray) : Bool :=
  if k = 3 then decide (1 ≤ dt.size ∧ dt.size ≤ 32) && !hasB dt 0
  else if k = 8 then decide (0 ≤ off ∧ off ≤ 64 ∧ 1 ≤ dt.size ∧ off + dt.size ≤ 64)
  else if k = 9 then decide (0 ≤ off ∧ off ≤ 64)
  else if k = 10 then decide (0 ≤ off ∧ off ≤ 4095)
  else true
theorem has_zero (s : ByteArray) : decide (0 ≤ Lib.indexByte s.data.toList 0) = hasB s 0 := by
  rw [← Lib.contains_iff_indexByte]
  unfold hasB
  rw [List.contains_eq_any_beq]
  congr 1
  funext b
  exact BEq.comm
theorem nonempty_of {s : ByteArray} (h : s.size ≠ 0) : s.toList.isEmpty = false := by
  rw [Lib.toList_data]
  cases h2 : s.data.toList with
  | nil => have : s.data.toList.length = s.size := rfl; rw [h2] at this; exact absurd this.symm h
  | cons _ _ => rfl
set_option maxHeartbeats 2000000 in
set_option maxRecDepth 100000 in
theorem op_data (t r k a0 a1 i0 i1 t0 t1 off : Int) (nm nw dt : ByteArray) (hd : dt.size ≤ 140737488355328) (w : World) : Calls Try.prog 47 #[.agg #[.int .i64 t, .int .i64 r, .int .i64 k, .int .i64 a0, .int .i64 a1, .int .i64 i0, .int .i64 i1, .int .i64 t0, .int .i64 t1, .string nm, .string nw, .int .i64 off, .string dt]] w fun e w' => e = .returned (.bool (dataB k off dt)) ∧ Below w.heap.size w w' := by
  by_cases h3 : k = 3
  · subst h3
    by_cases h0 : dt.size = 0
    · obtain rfl := empty_of h0
      have hn : Hd (dataB 3 off ⟨#[]⟩ = false) := ⟨by unfold dataB; rw [if_pos rfl]; rfl⟩
      clear h0
      go_enter Try.func47, Try.ntmps47
      go_wp2_with fail
      go_ret
      exact ⟨by rw [hn.out]; rfl, (Below.refl _ _).alloc (Nat.le_refl _) _⟩
    · have e0 := nonempty_of h0
      have e5 : (!dt.toList.isEmpty) = true := by rw [e0]; rfl
      by_cases h32 : dt.size ≤ 32
      · have d1 : (dt.size : Int) ≤ 32 := by omega
        have hn : Hd (dataB 3 off dt = !hasB dt 0) := ⟨by unfold dataB; rw [if_pos rfl, decide_eq_true ⟨by omega, h32⟩]; rfl⟩
        have HC := Hd.mk (Try.strings_Contains_one dt 0)
        rw [has_zero] at HC
        clear h0 h32
        go_enter Try.func47, Try.ntmps47
        go_wp2_with fail
        refine (HC.out _).mono ?_; rintro e w1 ⟨rfl, rfl⟩
        go_wp2_with fail
        go_ret
        exact ⟨by rw [hn.out]; rfl, (Below.refl _ _).alloc (Nat.le_refl _) _⟩
      · have d1 : ¬ (dt.size : Int) ≤ 32 := by omega
        have hn : Hd (dataB 3 off dt = false) := ⟨by unfold dataB; rw [if_pos rfl, decide_eq_false (by omega)]; rfl⟩
        clear h0 h32
        go_enter Try.func47, Try.ntmps47
        go_wp2_with fail
        go_ret
        exact ⟨by rw [hn.out]; rfl, (Below.refl _ _).alloc (Nat.le_refl _) _⟩
  · have e3 : (k == 3) = false := by rw [beq_eq_false_iff_ne]; exact h3
    by_cases h8 : k = 8
    · subst h8
      by_cases h0 : 0 ≤ off ∧ off ≤ 64
      · obtain ⟨h0, h64⟩ := h0
        by_cases hz : dt.size = 0
        · obtain rfl := empty_of hz
          have hn : Hd (dataB 8 off ⟨#[]⟩ = false) := ⟨by unfold dataB; rw [if_neg (by decide), if_pos rfl, decide_eq_false]; rintro ⟨-, -, h, -⟩; exact absurd h (by decide)⟩
          clear hz h3
          go_enter Try.func47, Try.ntmps47
          go_wp2_with fail
          go_ret
          exact ⟨by rw [hn.out]; rfl, (Below.refl _ _).alloc (Nat.le_refl _) _⟩
        · have e0 := nonempty_of hz
          have e5 : (!dt.toList.isEmpty) = true := by rw [e0]; rfl
          have hn : Hd (dataB 8 off dt = decide (off + dt.size ≤ 64)) := ⟨by unfold dataB; rw [if_neg (by decide), if_pos rfl, decide_eq_decide]; omega⟩
          clear hz h3
          go_enter Try.func47, Try.ntmps47
          go_wp2_with fail
          go_ret
          exact ⟨by rw [hn.out]; rfl, (Below.refl _ _).alloc (Nat.le_refl _) _⟩
      · have hn : Hd (dataB 8 off dt = false) := ⟨by unfold dataB; rw [if_neg (by decide), if_pos rfl, decide_eq_false (by omega)]⟩
        by_cases hneg : 0 ≤ off
        · have h64 : ¬ off ≤ 64 := by omega
          clear h0 h3
          go_enter Try.func47, Try.ntmps47
          go_wp2_with fail
          go_ret
          exact ⟨by rw [hn.out]; rfl, (Below.refl _ _).alloc (Nat.le_refl _) _⟩
        · clear h0 h3
          go_enter Try.func47, Try.ntmps47
          go_wp2_with fail
          go_ret
          exact ⟨by rw [hn.out]; rfl, (Below.refl _ _).alloc (Nat.le_refl _) _⟩
    · have e8 : (k == 8) = false := by rw [beq_eq_false_iff_ne]; exact h8
      by_cases h9 : k = 9
      · subst h9
        have hn : Hd (dataB 9 off dt = decide (0 ≤ off ∧ off ≤ 64)) := ⟨by unfold dataB; rw [if_neg (by decide), if_neg (by decide), if_pos rfl]⟩
        clear h3 h8
        by_cases hneg : 0 ≤ off
        · go_enter Try.func47, Try.ntmps47
          go_wp2_with fail
          go_ret
          exact ⟨by rw [hn.out]; first | (simp [hneg]; done) | (simp; omega), (Below.refl _ _).alloc (Nat.le_refl _) _⟩
        · go_enter Try.func47, Try.ntmps47
          go_wp2_with fail
          go_ret
          exact ⟨by rw [hn.out]; first | (simp [hneg]; done) | (simp; omega), (Below.refl _ _).alloc (Nat.le_refl _) _⟩
      · have e9 : (k == 9) = false := by rw [beq_eq_false_iff_ne]; exact h9
        by_cases h10 : k = 10
        · subst h10
          have hn : Hd (dataB 10 off dt = decide (0 ≤ off ∧ off ≤ 4095)) := ⟨by unfold dataB; rw [if_neg (by decide), if_neg (by decide), if_neg (by decide), if_pos rfl]⟩
          clear h3 h8 h9
          by_cases hneg : 0 ≤ off
          · go_enter Try.func47, Try.ntmps47
            go_wp2_with fail
            go_ret
            exact ⟨by rw [hn.out]; first | (simp [hneg]; done) | (simp; omega), (Below.refl _ _).alloc (Nat.le_refl _) _⟩
          · go_enter Try.func47, Try.ntmps47
            go_wp2_with fail
            go_ret
            exact ⟨by rw [hn.out]; first | (simp [hneg]; done) | (simp; omega), (Below.refl _ _).alloc (Nat.le_refl _) _⟩
        · have e10 : (k == 10) = false := by rw [beq_eq_false_iff_ne]; exact h10
          have hn : Hd (dataB k off dt = true) := ⟨by unfold dataB; rw [if_neg h3, if_neg h8, if_neg h9, if_neg h10]⟩
          clear h3 h8 h9 h10
          go_enter Try.func47, Try.ntmps47
          go_wp2_with fail
          go_ret
          exact ⟨by rw [hn.out]; rfl, (Below.refl _ _).alloc (Nat.le_refl _) _⟩
end Go.Proofs.Ytcekecpbjmfbhaa
