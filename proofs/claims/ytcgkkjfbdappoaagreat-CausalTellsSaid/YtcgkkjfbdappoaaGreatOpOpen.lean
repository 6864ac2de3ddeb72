/- An operation by value, opened. -/
import Derived.Test.YtcgkkjfbdappoaaGreatOpenAll
import Derived.Test.YtcgkkjfbdappoaaGreatStampOpen
namespace Go.Proofs.YtcgkkjfbdappoaaGreat
open Go.RowKit Go.ChangeShapes Go.WideShapes Opn Go.Proofs.YtcgkkjfbdappoaaGreatW.PrintWords
set_option linter.unusedVariables false

set_option maxRecDepth 100000 in
theorem leaves_op : leaves Tryz.prog 20 36 = some [.int .i64, .int .i64, .int .i64, .int .i64, .int .i64, .int .i64, .int .i64, .int .i64, .int .i64, .str, .str, .int .i64, .str] := by kernel_rfl
def Rng (x : Int) : Prop := -9223372036854775808 ≤ x ∧ x ≤ 9223372036854775807
def OpRng (t r k a0 a1 i0 i1 t0 t1 off : Int) : Prop := Rng t ∧ Rng r ∧ Rng k ∧ Rng a0 ∧ Rng a1 ∧ Rng i0 ∧ Rng i1 ∧ Rng t0 ∧ Rng t1 ∧ Rng off
def IsOp (v : Value) (t r k a0 a1 i0 i1 t0 t1 : Int) (nm nw : ByteArray) (off : Int) (dt : ByteArray) : Prop :=
  v = .agg #[.int .i64 t, .int .i64 r, .int .i64 k, .int .i64 a0, .int .i64 a1, .int .i64 i0, .int .i64 i1, .int .i64 t0, .int .i64 t1, .string nm, .string nw, .int .i64 off, .string dt] ∧
  (OpRng t r k a0 a1 i0 i1 t0 t1 off ∧ nm.size ≤ 140737488355328 ∧ nw.size ≤ 140737488355328) ∧ True ∧ dt.size ≤ 140737488355328
theorem fit_cons {l : Lf} {ls : List Lf} {cs : List Value} (h : FitAll (l :: ls) cs) : ∃ v vs, cs = v :: vs ∧ Fits l v ∧ FitAll ls vs := by
  cases cs with
  | nil => exact h.elim
  | cons v vs => exact ⟨v, vs, rfl, h.1, h.2⟩
theorem fit_nil {cs : List Value} (h : FitAll [] cs) : cs = [] := by
  cases cs with
  | nil => rfl
  | cons v vs => exact h.elim
set_option maxRecDepth 100000 in
theorem open_op {H : Type} {enc : TypeId × Value → H} {w : World} {base : Nat} {spare : Nat → Bool} {held : Bool} {r : Reach} {b0 : Nat} {v : Value} {d : DataW H} {p : List MemPlace} (hS : ∀ n ∈ d.weights Tryz.prog 36, n ≤ reachBytes)
    (hv : Value.okWide Tryz.prog w r b0 36 v) (h : DataW.Trod enc Tryz.prog w base spare held 36 v d p) : ∃ t r k a0 a1 i0 i1 t0 t1 nm nw off dt, IsOp v t r k a0 a1 i0 i1 t0 t1 nm nw off dt := by
  obtain ⟨cs, rfl, hc⟩ := open_struct 20 _ Tryz.underlying36 leaves_op hv h
  have hst := sized_struct 20 _ leaves_op h hS
  obtain ⟨_, _, rfl, ⟨t, rfl, b1⟩, hc1⟩ := fit_cons hc
  obtain ⟨_, _, rfl, ⟨r, rfl, b2⟩, hc2⟩ := fit_cons hc1
  obtain ⟨_, _, rfl, ⟨k, rfl, b3⟩, hc3⟩ := fit_cons hc2
  obtain ⟨_, _, rfl, ⟨a0, rfl, b4⟩, hc4⟩ := fit_cons hc3
  obtain ⟨_, _, rfl, ⟨a1, rfl, b5⟩, hc5⟩ := fit_cons hc4
  obtain ⟨_, _, rfl, ⟨i0, rfl, b6⟩, hc6⟩ := fit_cons hc5
  obtain ⟨_, _, rfl, ⟨i1, rfl, b7⟩, hc7⟩ := fit_cons hc6
  obtain ⟨_, _, rfl, ⟨t0, rfl, b8⟩, hc8⟩ := fit_cons hc7
  obtain ⟨_, _, rfl, ⟨t1, rfl, b9⟩, hc9⟩ := fit_cons hc8
  obtain ⟨_, _, rfl, ⟨nm, rfl, _⟩, hc10⟩ := fit_cons hc9
  obtain ⟨_, _, rfl, ⟨nw, rfl, _⟩, hc11⟩ := fit_cons hc10
  obtain ⟨_, _, rfl, ⟨off, rfl, b10⟩, hc12⟩ := fit_cons hc11
  obtain ⟨_, _, rfl, ⟨dt, rfl, _⟩, hc13⟩ := fit_cons hc12
  obtain rfl := fit_nil hc13
  have hrb : reachBytes ≤ 140737488351232 := by decide
  have e1 : nm.size ≤ 140737488355328 := by have := hst nm (by simp); omega
  have e2 : nw.size ≤ 140737488355328 := by have := hst nw (by simp); omega
  have e3 : dt.size ≤ 140737488355328 := by have := hst dt (by simp); omega
  exact ⟨t, r, k, a0, a1, i0, i1, t0, t1, nm, nw, off, dt, rfl, ⟨⟨i64_of b1, i64_of b2, i64_of b3, i64_of b4, i64_of b5, i64_of b6, i64_of b7, i64_of b8, i64_of b9, i64_of b10⟩, e1, e2⟩, trivial, e3⟩
end Go.Proofs.YtcgkkjfbdappoaaGreat
