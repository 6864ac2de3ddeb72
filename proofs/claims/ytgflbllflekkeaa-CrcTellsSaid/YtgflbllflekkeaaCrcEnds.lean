/- The laws of checksums, as the rows call them: every well formed input. -/
import Derived.Test.YtgflbllflekkeaaCrcTells2
import Derived.Test.YtgflbllflekkeaaEnds
namespace Go.Proofs.Ytgflbllflekkeaa.crcParts
open Go.RowKit Go.Proofs.YtgflbllflekkeaaW.PrintWords Go.Proofs.YtgflbllflekkeaaW.PrintLast Go.Proofs.YtgflbllflekkeaaW.PrintMore
theorem law_CrcParts (s : ByteArray) (hs : s.size ≤ 140737488351232) (t : ByteArray) (ht : t.size ≤ 140737488351232) (c : Int) (hc : (Lit.int .u32 c).wf = true) (w : World) :
    Calls Try.prog 5 #[.string s, .string t, .int .u32 c] w fun e w' => e = .returned (.bool true) ∧ Below w.heap.size w w' := by
  obtain ⟨m, rfl, hm⟩ := u32_of hc
  exact law_CrcParts' s t hs ht m hm w
end Go.Proofs.Ytgflbllflekkeaa.crcParts
namespace Go.Proofs.Ytgflbllflekkeaa.crcTells
open Go.RowKit Go.Proofs.YtgflbllflekkeaaW.PrintWords Go.Proofs.YtgflbllflekkeaaW.PrintLast Go.Proofs.YtgflbllflekkeaaW.PrintMore
theorem law_CrcTells (c : Int) (hc : (Lit.int .u32 c).wf = true) (s : ByteArray) (hs : s.size ≤ 140737488351232) (n : Int) (hn : (Lit.int .u8 n).wf = true) (w : World) :
    Calls Try.prog 4 #[.int .u32 c, .string s, .int .u8 n] w fun e w' => e = .returned (.bool true) ∧ Below w.heap.size w w' := by
  obtain ⟨m, rfl, hm⟩ := u32_of hc
  obtain ⟨k, rfl, hk⟩ := u8_of hn
  exact law_CrcTells' m hm s hs k hk w
end Go.Proofs.Ytgflbllflekkeaa.crcTells
namespace Go.Proofs.Ytgflbllflekkeaa.crcLinear
open Go.RowKit Go.Proofs.YtgflbllflekkeaaW.PrintWords Go.Proofs.YtgflbllflekkeaaW.PrintLast Go.Proofs.YtgflbllflekkeaaW.PrintMore
theorem law_CrcLinear (a : Int) (ha : (Lit.int .u8 a).wf = true) (b : Int) (hb : (Lit.int .u8 b).wf = true) (w : World) :
    Calls Try.prog 7 #[.int .u8 a, .int .u8 b] w fun e w' => e = .returned (.bool true) ∧ Below w.heap.size w w' := by
  obtain ⟨m, rfl, hm⟩ := u8_of ha
  obtain ⟨k, rfl, hk⟩ := u8_of hb
  exact law_CrcLinear' m k hm hk w
end Go.Proofs.Ytgflbllflekkeaa.crcLinear
namespace Go.Proofs.Ytgflbllflekkeaa.crcSteps
open Go.RowKit Go.Proofs.YtgflbllflekkeaaW.PrintWords Go.Proofs.YtgflbllflekkeaaW.PrintLast Go.Proofs.YtgflbllflekkeaaW.PrintMore
theorem law_CrcSteps (s : ByteArray) (hs : s.size ≤ 140737488351232) (b : Int) (hb : (Lit.int .u8 b).wf = true) (w : World) :
    Calls Try.prog 8 #[.string s, .int .u8 b] w fun e w' => e = .returned (.bool true) ∧ Below w.heap.size w w' := by
  obtain ⟨k, rfl, hk⟩ := u8_of hb
  exact law_CrcSteps' s hs k hk w
end Go.Proofs.Ytgflbllflekkeaa.crcSteps
