/- A stamp by value, opened. -/
import Derived.Test.YtcgkkjfbdappoaaGreatOpenAll
import Derived.Test.YtcgkkjfbdappoaaGreatKeepAll
namespace Go.Proofs.YtcgkkjfbdappoaaGreat
open Go.RowKit Go.ChangeShapes Go.WideShapes Opn Go.Proofs.YtcgkkjfbdappoaaGreatW.PrintWords
set_option linter.unusedVariables false

set_option maxRecDepth 100000 in
theorem leaves_stamp : leaves Tryz.prog 5 34 = some [.int .i64, .int .i64] := by kernel_rfl

def IsStamp (v : Value) (t r : Int) : Prop := v = .agg #[.int .i64 t, .int .i64 r] ∧ (-9223372036854775808 ≤ t ∧ t ≤ 9223372036854775807) ∧ (-9223372036854775808 ≤ r ∧ r ≤ 9223372036854775807)
set_option maxRecDepth 100000 in
theorem fit_stamp {cs : List Value} (h : FitAll [.int .i64, .int .i64] cs) : ∃ t r : Int, cs = [.int .i64 t, .int .i64 r] ∧ (-9223372036854775808 ≤ t ∧ t ≤ 9223372036854775807) ∧ (-9223372036854775808 ≤ r ∧ r ≤ 9223372036854775807) := by
  match cs, h with
  | [_, _], ⟨⟨t, rfl, ht⟩, ⟨r, rfl, hr⟩, _⟩ => exact ⟨t, r, rfl, i64_of ht, i64_of hr⟩
  | [_], ⟨_, h⟩ => exact h.elim
  | [], h => exact h.elim
  | _ :: _ :: _ :: _, ⟨_, _, h⟩ => exact h.elim
set_option maxRecDepth 100000 in
theorem open_stamp {H : Type} {enc : TypeId × Value → H} {w : World} {base : Nat} {spare : Nat → Bool} {held : Bool} {r : Reach} {b0 : Nat} {v : Value} {d : DataW H} {p : List MemPlace} {S : Prop} (_ : S)
    (hv : Value.okWide Tryz.prog w r b0 34 v) (h : DataW.Trod enc Tryz.prog w base spare held 34 v d p) : ∃ t r : Int, IsStamp v t r := by
  obtain ⟨cs, rfl, hc⟩ := open_struct 5 _ Tryz.underlying34 leaves_stamp hv h
  obtain ⟨t, r, rfl, ht, hr⟩ := fit_stamp hc
  exact ⟨t, r, rfl, ht, hr⟩

set_option maxRecDepth 100000 in
theorem leaves_stamp_len : Tryz.prog.cellsOf 34 = 2 := by kernel_rfl
set_option maxRecDepth 100000 in
/-- Two stamps are held against each other, field by field. -/
theorem eqStamp (d : Nat) (w : World) (x0 y0 : Int) (x1 y1 : Int) :
    (Op.equalIn (d + 2) 34 (.agg #[.int .i64 x0, .int .i64 x1]) (.agg #[.int .i64 y0, .int .i64 y1])).run Tryz.prog w = .ok (x0 == y0 && (x1 == y1)) w := by
  refine eqA_of Tryz.underlying34 (by kernel_rfl) ?_
  refine eqf_cons (by rfl) (by go_simp; rfl) (by go_simp; rfl) (by go_simp) ?_
  exact eqf_last (by rfl) (by go_simp; rfl) (by go_simp; rfl) (by go_simp)

/-- A slice of stamps. -/
def AreStamps (W : World) (v : Value) (A : Option Addr) (len cap : Nat) (l : List (Int × Int)) : Prop :=
  v = .slice A len cap ∧ len ≤ cap ∧ cap ≤ maxLen ∧ l.length = len ∧
  (∀ x ∈ l, (-9223372036854775808 ≤ x.1 ∧ x.1 ≤ 9223372036854775807) ∧ (-9223372036854775808 ≤ x.2 ∧ x.2 ≤ 9223372036854775807)) ∧
  ∀ j x, l[j]? = some x → ∃ a, A = some a ∧ W.cell? (a.add (j * 2)) = some (.int .i64 x.1) ∧ W.cell? (a.add (j * 2 + 1)) = some (.int .i64 x.2)
set_option maxRecDepth 100000 in
theorem stamps_of (rows : List (List Value)) (h : ∀ row ∈ rows, FitAll [.int .i64, .int .i64] row) : ∃ l : List (Int × Int), l.length = rows.length ∧ (∀ x ∈ l, (-9223372036854775808 ≤ x.1 ∧ x.1 ≤ 9223372036854775807) ∧ (-9223372036854775808 ≤ x.2 ∧ x.2 ≤ 9223372036854775807)) ∧ rows = l.map fun x => [.int .i64 x.1, .int .i64 x.2] := by
  induction rows with
  | nil => exact ⟨[], rfl, by simp, rfl⟩
  | cons row t ih =>
    obtain ⟨l, h1, h2, h3⟩ := ih (fun r hr => h r (List.mem_cons_of_mem _ hr))
    obtain ⟨a, b, rfl, ha, hb⟩ := fit_stamp (h row List.mem_cons_self)
    exact ⟨(a, b) :: l, by simp [h1], by simpa using ⟨⟨ha, hb⟩, fun x y hx => h2 (x, y) hx⟩, by simp [h3]⟩
set_option maxRecDepth 100000 in
theorem open_stamps {H : Type} {enc : TypeId × Value → H} {w : World} {base : Nat} {spare : Nat → Bool} {held : Bool} {r : Reach} {b0 : Nat} {v : Value} {d : DataW H} {p : List MemPlace} {S : Prop} (_ : S)
    (hv : Value.okWide Tryz.prog w r b0 135 v) (h : DataW.Trod enc Tryz.prog w base spare held 135 v d p) : ∃ A len cap l, AreStamps w v A len cap l := by
  obtain ⟨A, len, cap, rows, rfl, h1, h2, h3, h4⟩ := open_rows 5 _ Tryz.underlying135 leaves_stamp leaves_stamp_len hv h
  obtain ⟨l, hl, hb, rfl⟩ := stamps_of rows (fun row hr => by
    obtain ⟨j, hj, e⟩ := List.getElem_of_mem hr
    exact (h4 j row (by rw [List.getElem?_eq_getElem hj, e])).1)
  refine ⟨A, len, cap, l, rfl, h1, h2, by simpa using h3, hb, fun j x hx => ?_⟩
  obtain ⟨_, a, ha, hc⟩ := h4 j [.int .i64 x.1, .int .i64 x.2] (by simp [hx])
  exact ⟨a, ha, hc 0 _ rfl, hc 1 _ rfl⟩
end Go.Proofs.YtcgkkjfbdappoaaGreat
