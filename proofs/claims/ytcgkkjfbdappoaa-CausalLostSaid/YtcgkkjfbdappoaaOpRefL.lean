/- The document's stamps at this seat: May; an operation as a structure (where nothing is put or taken). -/
import Derived.Test.YtcgkkjfbdappoaaOpMayAll
import Derived.Test.YtcgkkjfbdappoaaOpOpen
namespace Go.Proofs.Ytcgkkjfbdappoaa
open Go.RowKit Go.Proofs.YtcgkkjfbdappoaaW.PrintWords Go.Proofs.YtcgkkjfbdappoaaW.PrintLast Go.Proofs.YtcgkkjfbdappoaaW.PrintMore
set_option linter.unusedVariables false
set_option linter.unusedSimpArgs false

theorem Pk.none : True := trivial
theorem size_op13 : (Try.prog.info? 32).map (·.size) = some 13 := by kernel_rfl
/-- An operation. -/
structure OpV where
  t : Int
  r : Int
  k : Int
  a0 : Int
  a1 : Int
  i0 : Int
  i1 : Int
  t0 : Int
  t1 : Int
  nm : ByteArray
  nw : ByteArray
  off : Int
  dt : ByteArray
namespace OpV
def cells (o : OpV) : Array Value := #[.int .i64 o.t, .int .i64 o.r, .int .i64 o.k, .int .i64 o.a0, .int .i64 o.a1, .int .i64 o.i0, .int .i64 o.i1, .int .i64 o.t0, .int .i64 o.t1, .string o.nm, .string o.nw, .int .i64 o.off, .string o.dt]
def may (o : OpV) : Bool := mayO o.t o.r o.k o.a0 o.a1 o.i0 o.i1 o.t0 o.t1 o.nm o.nw o.off o.dt
structure Fine (o : OpV) : Prop where
  rng : OpRng o.t o.r o.k o.a0 o.a1 o.i0 o.i1 o.t0 o.t1 o.off
  nm : o.nm.size ≤ 140737488355328
  nw : o.nw.size ≤ 140737488355328
  dt : o.dt.size ≤ 140737488355328
def zero : OpV := ⟨0, 0, 0, 0, 0, 0, 0, 0, 0, ⟨#[]⟩, ⟨#[]⟩, 0, ⟨#[]⟩⟩
end OpV
set_option maxHeartbeats 1000000 in
theorem ref_stampMay (t r : Int) (w : World) : Calls Try.prog 52 #[.agg #[.int .i64 t, .int .i64 r]] w fun e w' => e = .returned (.bool (mayS t r)) ∧ Below w.heap.size w w' := by
  by_cases h0 : t = 0
  · have hv : Hd (mayS t r = (r == 0)) := ⟨by unfold mayS; rw [Bool.eq_iff_iff]; simp; omega⟩
    have e0 : (t == 0) = true := by simp [h0]
    go_enter Try.func52, Try.ntmps52
    go_wp2_with fail
    go_ret
    exact ⟨by rw [hv.out]; rfl, (Below.refl _ _).alloc (Nat.le_refl _) _⟩
  · have e0 : (t == 0) = false := by simp [h0]
    by_cases he1 : 1 ≤ t
    rotate_left
    · have hv : Hd (mayS t r = false) := ⟨decide_eq_false (by omega)⟩
      have e1 : decide (1 ≤ t) = false := decide_eq_false he1
      go_enter Try.func52, Try.ntmps52
      go_wp2_with fail
      go_ret
      exact ⟨by rw [hv.out]; rfl, (Below.refl _ _).alloc (Nat.le_refl _) _⟩
    have e1 : decide (1 ≤ t) = true := decide_eq_true he1
    by_cases he2 : t ≤ 1073741824
    rotate_left
    · have hv : Hd (mayS t r = false) := ⟨decide_eq_false (by omega)⟩
      have e2 : decide (t ≤ 1073741824) = false := decide_eq_false he2
      go_enter Try.func52, Try.ntmps52
      go_wp2_with fail
      go_ret
      exact ⟨by rw [hv.out]; rfl, (Below.refl _ _).alloc (Nat.le_refl _) _⟩
    have e2 : decide (t ≤ 1073741824) = true := decide_eq_true he2
    by_cases he3 : 0 ≤ r
    rotate_left
    · have hv : Hd (mayS t r = false) := ⟨decide_eq_false (by omega)⟩
      have e3 : decide (0 ≤ r) = false := decide_eq_false he3
      go_enter Try.func52, Try.ntmps52
      go_wp2_with fail
      go_ret
      exact ⟨by rw [hv.out]; rfl, (Below.refl _ _).alloc (Nat.le_refl _) _⟩
    have e3 : decide (0 ≤ r) = true := decide_eq_true he3
    by_cases he4 : r ≤ 7
    rotate_left
    · have hv : Hd (mayS t r = false) := ⟨decide_eq_false (by omega)⟩
      have e4 : decide (r ≤ 7) = false := decide_eq_false he4
      go_enter Try.func52, Try.ntmps52
      go_wp2_with fail
      go_ret
      exact ⟨by rw [hv.out]; rfl, (Below.refl _ _).alloc (Nat.le_refl _) _⟩
    have e4 : decide (r ≤ 7) = true := decide_eq_true he4
    have hv : Hd (mayS t r = true) := ⟨decide_eq_true (by omega)⟩
    go_enter Try.func52, Try.ntmps52
    go_wp2_with fail
    go_ret
    exact ⟨by rw [hv.out]; rfl, (Below.refl _ _).alloc (Nat.le_refl _) _⟩
end Go.Proofs.Ytcgkkjfbdappoaa
