/- The world as it stands, under one name. -/
import Derived.Test.YtcpgfllnaiabkaaEnds
namespace Go.Proofs.Ytcpgfllnaiabkaa
open Go.RowKit
theorem world_gen {P : Program} {c : Code} {Q : Exit → Act → World → Prop} {a : Act} {w : World} (F : World → Prop) (hF : F w) (h : ∀ W, F W → c.wp P Q a W) : c.wp P Q a w := h w hF
theorem world_gen_calls {P : Program} {f : FuncId} {args : Array Value} {Q : Ending → World → Prop} {w : World} (F : World → Prop) (hF : F w) (h : ∀ W, F W → Calls P f args W Q) : Calls P f args w Q := h w hF
end Go.Proofs.Ytcpgfllnaiabkaa
