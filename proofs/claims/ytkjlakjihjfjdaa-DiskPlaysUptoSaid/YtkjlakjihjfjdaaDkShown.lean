/- thimblelaw07.shown: true. -/
import Derived.Test.YtkjlakjihjfjdaaDkBegins
namespace Go.Proofs.Ytkjlakjihjfjdaa
open Go.RowKit Go.Proofs.YtkjlakjihjfjdaaW.PrintWords Go.Proofs.YtkjlakjihjfjdaaW.PrintLast Go.Proofs.YtkjlakjihjfjdaaW.PrintMore
set_option linter.unusedVariables false
set_option linter.unusedSimpArgs false

set_option maxRecDepth 100000 in
theorem disk_shown (w : World) : Calls Try.prog 13 #[] w fun e w' => e = .returned (.bool true) ∧ Below w.heap.size w w' := by
  have H0 := Hd.mk (disk_New w 9 w (Below.refl _ _))
  go_enter Try.func13, Try.ntmps13
  go_wp2_with fail
  refine H0.out.mono ?_; rintro e w1 ⟨b, rfl, h1⟩
  have H1 := Hd.mk (disk_Append h1 ⟨by decide, by decide, by decide, by decide⟩ ⟨#[97, 98]⟩ (by decide) (by decide))
  clear h1 H0
  go_wp2_with fail
  refine H1.out.mono ?_; rintro e w2 ⟨rfl, h2⟩
  have H2 := Hd.mk (disk_Sync h2)
  clear h2 H1
  go_wp2_with fail
  refine H2.out.mono ?_; rintro e w3 ⟨rfl, h3⟩
  have H3 := Hd.mk (disk_Append h3 ⟨by decide, by decide, by decide, by decide⟩ ⟨#[99, 100]⟩ (by decide) (by decide))
  clear h3 H2
  go_wp2_with fail
  refine H3.out.mono ?_; rintro e w4 ⟨rfl, h4⟩
  have H4 := Hd.mk (disk_Crash (k := 2) h4 (by decide) (by decide) 1 3 (by decide))
  clear h4 H3
  go_wp2_with fail
  refine H4.out.mono ?_; rintro e w5 ⟨rfl, h5⟩
  have H5 := Hd.mk (disk_Log h5)
  clear h5 H4
  go_wp2_with fail
  refine H5.out.mono ?_; rintro e w6 ⟨rfl, h6⟩
  have H6 := Hd.mk (disk_Synced h6)
  clear h6 H5
  go_wp2_with fail
  refine H6.out.mono ?_; rintro e w7 ⟨rfl, h7⟩
  go_wp2_with fail
  go_ret
  exact ⟨rfl, h7.below⟩
end Go.Proofs.Ytkjlakjihjfjdaa
