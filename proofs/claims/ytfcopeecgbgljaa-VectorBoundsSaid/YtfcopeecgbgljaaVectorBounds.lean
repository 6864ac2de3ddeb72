/- The law VectorBounds: both arms. -/
import Derived.Test.YtfcopeecgbgljaaVecBoundsArmtrue
import Derived.Test.YtfcopeecgbgljaaVecBoundsArmfalse
namespace Go.Proofs.Ytfcopeecgbgljaa.vectorBounds
open Go.RowKit Go.Proofs.YtfcopeecgbgljaaW.PrintWords
theorem law_VectorBounds {x y z : Value} {a b c : List Int} (ha : IsEight x a) (hb : IsEight y b) (hc : IsEight z c) (w : World) :
    Calls Try.prog 3 #[x, y, z] w fun e w' => e = .returned (.bool true) ∧ Below w.heap.size w w' := by
  obtain ⟨rfl, ha, _⟩ := ha
  obtain ⟨rfl, hb, _⟩ := hb
  obtain ⟨rfl, hc, _⟩ := hc
  rcases hq : covL c a with _ | _
  · exact bounds_false a b c hq ha hb hc w
  · exact bounds_true a b c hq ha hb hc w
end Go.Proofs.Ytfcopeecgbgljaa.vectorBounds
