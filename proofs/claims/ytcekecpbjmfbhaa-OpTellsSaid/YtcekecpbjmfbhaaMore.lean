/- What is known of the world, in a region whose order is open, may grow. -/
import Derived.Test.YtcekecpbjmfbhaaElts
namespace Go.Proofs.Ytcekecpbjmfbhaa
open Go.RowKit Go.Proofs.YtcekecpbjmfbhaaW.PrintWords Go.Proofs.YtcekecpbjmfbhaaW.PrintLast Go.Proofs.YtcekecpbjmfbhaaW.PrintMore
set_option linter.unusedVariables false
theorem more_ {P : Program} {md : Region.Mode} {ops : Array Oper} {Q : Exit → Act → World → Prop} {S : World → Prop} (S' : World → Prop) (hS : ∀ w, S' w → S w) :
    ∀ {fuel : Nat} {l : Array Bool} {a : Act} {w : World}, S' w → (S' w → wpAnyLast P md ops Q S' [] fuel l a w) → wpAnyLast P md ops Q S [] fuel l a w
  | 0, _, _, _, h, H => H h
  | fuel + 1, l, a, w, h, H => by
    have H1 := H h
    refine ⟨H1.1, fun i hi => wpOp_mono (fun a' w' h' => ?_) (H1.2 i hi)⟩
    have h2 := h'.1 (by simp) h
    exact ⟨fun _ _ => hS _ h2, more_ S' hS h2 (fun _ => h'.2)⟩
end Go.Proofs.Ytcekecpbjmfbhaa
