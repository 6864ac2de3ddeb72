/- The law MatrixRows: the walk. -/
import Derived.Test.YtkjlakjihjfjdaaMatrixRows1
import Derived.Test.YtkjlakjihjfjdaaMatrixRows0
import Derived.Test.YtkjlakjihjfjdaaRowSame
import Derived.Test.YtkjlakjihjfjdaaMatShown
import Derived.Test.YtkjlakjihjfjdaaRowOpen
namespace Go.Proofs.Ytkjlakjihjfjdaa.matrixRows
open Go.RowKit Go.Proofs.YtkjlakjihjfjdaaW.PrintWords Go.Proofs.YtkjlakjihjfjdaaW.PrintLast Go.Proofs.YtkjlakjihjfjdaaW.PrintMore Pk
set_option linter.unusedVariables false
set_option linter.unusedSimpArgs false

set_option maxRecDepth 100000 in
theorem law_MatrixRows {x1 x2 : Value} {a b : List Int} (hx : IsRow x1 a) (hy : IsRow x2 b) (s : ByteArray) (hs0 : s.size ≤ 140737488351232) (w : World) :
    Calls Try.prog 12 #[x1, x2, .string s] w fun e w' => e = .returned (.bool true) ∧ Below w.heap.size w w' := by
  obtain ⟨rfl, ha, hfa⟩ := hx
  obtain ⟨rfl, hb, hfb⟩ := hy
  by_cases hs : s.size ≤ 2000
  · have hpz : (putV a).size ≤ 90 := by have := putV_size a hfa; rw [ha] at this; exact this
    have E1 := row_Take s hs0
    have E2 := ref_rowTake s hs0
    have E3 := row_Take (putV a ++ s) (by rw [size_app]; omega)
    have hback : tkR (putV a ++ s).data.toList = if mayV a = true then some (a, s.data.toList) else none := by
      unfold tkR
      rw [show (putV a ++ s).data.toList = putL a ++ s.data.toList from append_list _ _, ← ha, tkN_put a hfa]
      rfl
    rw [hback] at E3
    have first : ∃ (y : List Int) (q : ByteArray) (c : Int), y.length = 9 ∧ tvR (tkR s.data.toList) = .tuple #[.agg (vec y), .string q, .int .i64 c] := by
      cases hT : tkR s.data.toList with
      | none => exact ⟨zero9, ⟨#[]⟩, 2, rfl, rfl⟩
      | some p =>
        obtain ⟨y, q⟩ := p
        refine ⟨y, ⟨q.toArray⟩, 0, ?_, rfl⟩
        unfold tkR at hT
        cases hN : tkN 9 s.data.toList with
        | none => rw [hN] at hT; simp [fin] at hT
        | some p2 =>
          obtain ⟨v, q2⟩ := p2
          rw [hN] at hT
          have hl := (tkN_very 9 _ _ _ hN).1
          simp only [fin, List.nil_append] at hT
          split at hT
          · cases hT; exact hl
          · cases hT
    obtain ⟨y, q, c, hy9, hyv⟩ := first
    rw [hyv] at E1 E2
    cases hm : mayV a with
    | true =>
      rw [hm] at E3
      have M1 := row_May a ha
      have M2 := ref_rowMay a ha
      rw [hm] at M1 M2
      exact walk1 a b y a s q (putV a) s c 0 true ha hb hy9 ha hs hpz w ⟨E1⟩ ⟨E2⟩ ⟨E3⟩ ⟨row_Put a ha hfa⟩ ⟨ref_rowPut a ha hfa⟩ ⟨M1⟩ ⟨M2⟩ ⟨rfl, rfl, rfl, rfl⟩
    | false =>
      rw [hm] at E3
      have M1 := row_May a ha
      have M2 := ref_rowMay a ha
      rw [hm] at M1 M2
      exact walk0 a b y zero9 s q (putV a) ⟨#[]⟩ c 2 false ha hb hy9 rfl hs hpz w ⟨E1⟩ ⟨E2⟩ ⟨E3⟩ ⟨row_Put a ha hfa⟩ ⟨ref_rowPut a ha hfa⟩ ⟨M1⟩ ⟨M2⟩ ⟨rfl, rfl⟩
  · have HS := Hd.mk mat_shown
    have hs' : (2000 : Int) < (s.size : Int) := by omega
    have H0 := Hd.mk (Holds.start2 w (.cells (vec a) 55) (.cells (vec b) 55))
    clear hs hfa hfb ha hb
    go_enter Try.func12, Try.ntmps12
    go_upto_region 1 with (fail)
    generalize (w.alloc (.cells (vec a) 55)).alloc (.cells (vec b) 55) = W at *
    go_wp2_with fail
    refine (HS.out _).mono ?_; rintro e w1 ⟨rfl, h1⟩
    have J1 := Hd.mk (H0.out.call h1)
    clear H0 h1 HS
    go_wp2_with fail
    go_ret
    exact ⟨rfl, J1.out.2⟩
end Go.Proofs.Ytkjlakjihjfjdaa.matrixRows
