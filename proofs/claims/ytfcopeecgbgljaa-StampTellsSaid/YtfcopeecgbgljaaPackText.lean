/- pack.Text, TakeInt and TakeText: their contracts. -/
import Derived.Test.YtfcopeecgbgljaaPackTake
namespace Go.Proofs.Ytfcopeecgbgljaa
open Go.RowKit Go.Proofs.YtfcopeecgbgljaaW.PrintWords Go.Proofs.YtfcopeecgbgljaaW.PrintLast Go.Proofs.YtfcopeecgbgljaaW.PrintMore Pk
set_option linter.unusedVariables false
set_option linter.unusedSimpArgs false

theorem unzig_walk {n : Nat} (h : n < 18446744073709551616) : bits BinOp.xor IntKind.i64 (wrap64 ((n : Int) / 2)) (wrap64 (-wrap64 (bits BinOp.and IntKind.u64 (n : Int) 1))) = unzig n := by
  rw [and_one64 (x := n) (by omega) (by omega)]
  have e1 : wrap64 ((n : Int) / 2) = (n : Int) / 2 := by unfold wrap64; omega
  have e2 : wrap64 (-wrap64 ((n : Int) % 2)) = -((n : Int) % 2) := by
    have : wrap64 ((n : Int) % 2) = (n : Int) % 2 := by unfold wrap64; omega
    rw [this]; unfold wrap64; omega
  rw [e1, e2, unzig_bits h]

theorem pack_TakeInt (s : ByteArray) (hs : s.size ≤ maxLen) (w : World) :
    Calls Try.prog 51 #[.string s] w fun e w' => e = .returned (tiV (tk s.data.toList 0 0)) ∧ Below w.heap.size w w' := by
  have H := pack_TakeNum s hs
  cases hT : tk s.data.toList 0 0 with
  | none =>
    rw [hT] at H
    simp only [tnV] at H
    have H' := Hd.mk H
    clear H hT
    go_enter Try.func51, Try.ntmps51
    have e0 := xor_i64_zero (x := 0) (by decide) (by decide)
    have e1 := and_one64 (x := 0) (by decide) (by decide)
    go_wp2_with (go_at_call 58; refine (H'.out _).mono ?_; rintro e w1 ⟨rfl, hb⟩)
    go_ret3
    exact ⟨rfl, hb⟩
  | some p =>
    obtain ⟨n, r⟩ := p
    have hbd := Hd.mk (tk_bd _ _ _ _ _ (by decide) (by decide) hT)
    rw [hT] at H
    simp only [tnV] at H
    have H' := Hd.mk H
    clear H hT
    have hu := Hd.mk (unzig_walk hbd.out)
    go_enter Try.func51, Try.ntmps51
    go_wp2_with (go_at_call 58; refine (H'.out _).mono ?_; rintro e w1 ⟨rfl, hb⟩)
    go_ret3
    refine ⟨congrArg Ending.returned ?_, hb⟩
    show Value.tuple #[.int .i64 (bits BinOp.xor IntKind.i64 (wrap64 ((n : Int) / 2)) (wrap64 (-wrap64 (bits BinOp.and IntKind.u64 (n : Int) 1)))), .string ⟨r.toArray⟩, .int .i64 0] = _
    rw [hu.out]; rfl

end Go.Proofs.Ytfcopeecgbgljaa
