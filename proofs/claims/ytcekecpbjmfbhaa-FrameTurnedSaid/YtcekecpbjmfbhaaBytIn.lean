/- Bytes of one's own, read and written; as a string. -/
import Derived.Test.YtcekecpbjmfbhaaCrcAll
import Derived.Test.YtcekecpbjmfbhaaEnds
namespace Go.Proofs.Ytcekecpbjmfbhaa
open Go.RowKit Go.Proofs.YtcekecpbjmfbhaaW.PrintWords Go.Proofs.YtcekecpbjmfbhaaW.PrintLast Go.Proofs.YtcekecpbjmfbhaaW.PrintMore Cr
set_option linter.unusedVariables false
set_option linter.unusedSimpArgs false

/-- A block's first cells are these bytes, and may be written. -/
def Byt (W : World) (B : Nat) (l : List UInt8) : Prop := B < W.heap.size ∧ ∀ i (h : i < l.length), W.cell? ⟨B, i, none⟩ = some (.int .u8 ((l[i]).toNat : Int)) ∧ W.frozen? ⟨B, i, none⟩ = false

theorem byt_new (W : World) (s : ByteArray) : Byt (Lib.bytesWorld W 5 s) W.heap.size s.data.toList := by
  refine ⟨by rw [Lib.bytesWorld_size]; omega, fun i h => ⟨?_, ?_⟩⟩
  · rw [Lib.bytesWorld_cell W _ s i h]
    have : s.data.toList.getD i 0 = s.data.toList[i] := by rw [List.getD_eq_getElem?_getD, List.getElem?_eq_getElem h]; rfl
    rw [this]
  · have h1 := Lib.bytesWorld_at_new W 5 s
    have h2 : i < (Lib.bytesCells W 5 s).size := by
      have e : (Lib.bytesCells W 5 s).size = s.data.size + (grownCap W s.size 0 5 - s.size) := by
        unfold Lib.bytesCells; rw [Array.size_append, Array.size_map, Array.size_replicate]
      have : s.data.size = s.data.toList.length := rfl
      rw [e]; omega
    simp [World.frozen?, h1]; omega
theorem byt_below {W W' : World} {B : Nat} {l : List UInt8} (h : Byt W B l) (hb : Below W.heap.size W W') : Byt W' B l :=
  ⟨Nat.lt_of_lt_of_le h.1 hb.size, fun i hi => ⟨(hb.cell h.1).trans (h.2 i hi).1, (hb.frozen h.1).trans (h.2 i hi).2⟩⟩
theorem byt_set {W : World} {B : Nat} {l : List UInt8} (h : Byt W B l) (k : Nat) (hk : k < l.length) (x : UInt8) : Byt (W.setCell ⟨B, k, none⟩ (.int .u8 (x.toNat : Int))) B (l.set k x) := by
  refine ⟨by simpa using h.1, fun i hi => ?_⟩
  have hi' : i < l.length := by simpa using hi
  constructor
  · by_cases e : i = k
    · subst e
      rw [List.getElem_set_self]
      exact World.cell?_setCell_same _ _ _ (h.2 i hi').1
    · rw [List.getElem_set_ne (Ne.symm e), World.cell?_setCell_other _ _ _ _ (fun h => e (congrArg Addr.off h).symm)]
      exact (h.2 i hi').1
  · rw [World.frozen?_setCell]; exact (h.2 i hi').2
theorem byt_string {W : World} {B cap : Nat} {l : List UInt8} (h : Byt W B l) : (convert 43 9 (.slice (some ⟨B, 0, none⟩) l.length cap)).run Try.prog W = .ok (.string ⟨l.toArray⟩) W := by
  have e : strOfNums (l.map fun b => (b.toNat : Int)) = ⟨l.toArray⟩ := by
    apply ByteArray.ext
    simp [strOfNums, Function.comp_def]
  rw [← e]
  refine run_convert_bytes_arg W 43 5 Try.underlying43 Try.underlying5 B 0 l.length cap _ (by simp) (fun i hi => ?_) 9 Try.underlying9
  rw [Nat.zero_add, (h.2 i hi).1]
  simp [List.getD_eq_getElem?_getD, hi]

end Go.Proofs.Ytcekecpbjmfbhaa
