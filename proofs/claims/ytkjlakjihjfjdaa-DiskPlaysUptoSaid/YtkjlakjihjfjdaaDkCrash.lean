/- disk.Crash: its contract. -/
import Derived.Test.YtkjlakjihjfjdaaDkLog
namespace Go.Proofs.Ytkjlakjihjfjdaa
open Go.RowKit Go.Proofs.YtkjlakjihjfjdaaW.PrintWords Go.Proofs.YtkjlakjihjfjdaaW.PrintLast Go.Proofs.YtkjlakjihjfjdaaW.PrintMore
attribute [local go_sem] max2_int min2_int max_two min_two
set_option linter.unusedVariables false
set_option linter.unusedSimpArgs false

set_option maxHeartbeats 1000000 in
set_option maxRecDepth 100000 in
theorem disk_Crash {S : Nat → Prop} {w0 : World} {b : Nat} {snap : ByteArray} {l : List UInt8} {k : Nat} {room : Int} {w : World} (h : DiskOn S w0 b snap l (k : Int) room w) (hk : k ≤ l.length) (hl : l.length ≤ 140737488355328) (keep : Int) (m : Nat) (hm : (m : Int) = k + min (max keep 0) (l.length - k)) :
    Calls Try.prog 17 #[.pointer (some ⟨b, 0, none⟩), .int .i64 keep] w fun e w' => e = .returned (.tuple #[]) ∧ DiskOn S w0 b snap (l.take m) (m : Int) room w' := by
  have H := Hd.mk h
  obtain ⟨A, cap, c0, c1, c2, c3, f1, f2⟩ := h.cells
  have x1 : wrap64 ((l.length : Int) - k) = (l.length : Int) - k := by unfold wrap64; omega
  have HM := Hd.mk hm
  clear h hm
  go_enter Try.func17, Try.ntmps17
  go_upto_region 1 with (fail)
  go_quiet (fail)
  go_upto_region 2 with (fail)
  have em : ((k : Int) + if (l.length : Int) - k < (if keep < 0 then 0 else keep) then (l.length : Int) - k else if keep < 0 then 0 else keep) = (m : Int) := by
    rw [HM.out]
    by_cases q1 : keep < 0
    · simp only [if_pos q1]
      split <;> omega
    · simp only [if_neg q1]
      split <;> omega
  simp only [em]
  have hm0 : (0 : Int) ≤ (m : Int) := by omega
  have H2 := Hd.mk (H.out.drewN nq)
  clear H em c0 c1 c2 c3 f1 f2
  generalize w.drewN nq = W at *
  have hml : m ≤ l.length := by have := HM.out; omega
  obtain ⟨v, k1, k2, k3, k4, k5, k6⟩ := H2.out
  obtain ⟨A2, cap2, rfl⟩ := k2.slice
  have hcap : l.length ≤ cap2 := by
    rcases k2 with ⟨e, rfl⟩ | ⟨g, cap3, cur, e, _, _, h3, _⟩
    · simp
    · cases e; exact h3
  have hmc : (m : Int) ≤ (cap2 : Int) := by omega
  have c1 : W.cell? ⟨b, 1, none⟩ = some (.slice A2 l.length cap2) := by rw [cell_of_row _ _ 1 _ _ _ k1]; rfl
  have f1 : W.frozen? ⟨b, 1, none⟩ = false := frozen_of_row _ _ 1 _ _ k1
  have k3' : (Value.slice A2 m m).ownBlock ≠ some b := by
    cases A2 with
    | none => simp [Value.ownBlock]
    | some a => simpa [Value.ownBlock] using k3
  have HC : Hd (DiskOn S w0 b snap (l.take m) (k : Int) room (W.setCell ⟨b, 1, none⟩ (.slice A2 m m))) := ⟨by
    refine ⟨_, (heap_setCell_same _ _ _ _ _ _ k1).trans rfl, (k2.cut hml).keep (fun g hg => heap_setCell_other _ _ _ _ ?_), ?_, k4, k5, k6.setCell k4 _⟩
    · intro e
      subst e
      exact k3' hg
    · exact k3'⟩
  clear k1 k2 k3 k3' k4 k5 k6 H2
  go_upto_region 3 with (fail)
  generalize W.setCell ⟨b, 1, none⟩ (.slice A2 m m) = W2 at *
  have HY := Hd.mk (disk_Sync HC.out)
  have hlm : (l.take m).length = m := by rw [List.length_take]; omega
  rw [hlm] at HY
  go_wp2_with fail
  all_goals
    refine HY.out.mono ?_; rintro e w1 ⟨rfl, h1⟩
    go_wp2_with fail
    exact ⟨rfl, .tuple #[], by first | rfl | (simp [results, Try.results17]; done), rfl, h1⟩
end Go.Proofs.Ytkjlakjihjfjdaa
