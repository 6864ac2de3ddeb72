/- thimbleref05.Stamps: whether two lists of stamps are the same. -/
import Derived.Test.YtcekecpbjmfbhaaOpUsesW
import Derived.Test.YtcekecpbjmfbhaaMore
namespace Go.Proofs.Ytcekecpbjmfbhaa
open Go.RowKit Go.Proofs.YtcekecpbjmfbhaaW.PrintWords Go.Proofs.YtcekecpbjmfbhaaW.PrintLast Go.Proofs.YtcekecpbjmfbhaaW.PrintMore
set_option linter.unusedVariables false
set_option linter.unusedSimpArgs false
attribute [local go_sem high] eqStamp
set_option maxHeartbeats 2000000 in
set_option maxRecDepth 100000 in
/-- A list against itself. -/
theorem ref_Stamps_same {v1 v2 : Value} {l : List (Int × Int)} {c1 c2 : Nat} {w : World} (h1 : stE.Own c1 w v1 l) (h2 : stE.Own c2 w v2 l) (hl : l.length ≤ 1000000) : Calls Try.prog 30 #[v1, v2] w fun e w' => e = .returned (.bool true) ∧ Below w.heap.size w w' := by
  obtain ⟨A, p1, rfl⟩ := h1.slice
  obtain ⟨B, p2, rfl⟩ := h2.slice
  have H1 := Hd.mk h1
  have H2 := Hd.mk h2
  have HL := Hd.mk hl
  clear h1 h2 hl
  go_enter Try.func30, Try.ntmps30
  go_wp2_with fail
  go_loopg [5] l.length (fun q v5 wx => ∃ i : Nat, Hd (i + q = l.length) ∧ v5 = .int .i64 (i : Int) ∧ Hd (Below w.heap.size w wx))
  case atStart => exact ⟨0, ⟨by omega⟩, rfl, ⟨Below.refl _ _⟩⟩
  case round =>
    obtain ⟨i, HG, rfl, HB⟩ := hrel
    by_cases hi : i < l.length
    · obtain ⟨x, hx⟩ : ∃ x, l[i]? = some x := ⟨_, List.getElem?_eq_getElem hi⟩
      have hne : l ≠ [] := fun h => by rw [h] at hi; simp at hi
      obtain ⟨g1, q1, e1, -, ha⟩ := (H1.out.below HB.out).lit hne
      obtain ⟨g2, q2, e2, -, hb⟩ := (H2.out.below HB.out).lit hne
      simp only [Value.slice.injEq] at e1 e2
      obtain ⟨rfl, -, rfl⟩ := e1
      obtain ⟨rfl, -, rfl⟩ := e2
      have d1 : (i : Int) < (l.length : Int) := by omega
      have hw1 : wrap64 ((i : Int) + 1) = ((i + 1 : Nat) : Int) := by have := HL.out; unfold wrap64; omega
      have a0 : wr.cell? ⟨g1, i * 2, none⟩ = some (.int .i64 x.1) := ha i x hx 0 _ rfl
      have a1 : wr.cell? ⟨g1, i * 2 + 1, none⟩ = some (.int .i64 x.2) := ha i x hx 1 _ rfl
      have b0 : wr.cell? ⟨g2, i * 2, none⟩ = some (.int .i64 x.1) := hb i x hx 0 _ rfl
      have b1 : wr.cell? ⟨g2, i * 2 + 1, none⟩ = some (.int .i64 x.2) := hb i x hx 1 _ rfl
      have HI := Hd.mk hi
      clear ha hb hx hi hne
      go_upto_region 6 with (fail)
      go_quiet (fail)
      go_wp2_with fail
      go_roundg (l.length - (i + 1))
      case measure => have := HG.out; have := HI.out; omega
      case rel => exact ⟨i + 1, ⟨by have := HG.out; have := HI.out; omega⟩, by first | rfl | congr 1, ⟨pw_below_drewN HB.out _⟩⟩
    · obtain rfl : i = l.length := by have := HG.out; omega
      have d1 : ¬ (l.length : Int) < (l.length : Int) := by omega
      clear hi
      go_wp2_with fail
      go_ret
      exact ⟨rfl, HB.out⟩
end Go.Proofs.Ytcekecpbjmfbhaa
