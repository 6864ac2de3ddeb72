/- A disk as the machine has it; disk.New, Free, Snap, Synced: their contracts. -/
import Derived.Test.YtkjlakjihjfjdaaDiskOwn
namespace Go.Proofs.Ytkjlakjihjfjdaa
open Go.RowKit Go.Proofs.YtkjlakjihjfjdaaW.PrintWords Go.Proofs.YtkjlakjihjfjdaaW.PrintLast Go.Proofs.YtkjlakjihjfjdaaW.PrintMore
set_option linter.unusedVariables false
set_option linter.unusedSimpArgs false

/-- The four cells of a disk. -/
def dcells (snap : ByteArray) (v : Value) (synced room : Int) : Array Value := #[.string snap, v, .int .i64 synced, .int .i64 room]
/-- A disk in a block that was made since a world. -/
def DiskAt (w0 : World) (b : Nat) (snap : ByteArray) (l : List UInt8) (synced room : Int) (W : World) : Prop :=
  ∃ v, W.heap[b]? = some (.cells (dcells snap v synced room) 95 (0, 0)) ∧ OwnB W w0.heap.size v l ∧ v.ownBlock ≠ some b ∧ w0.heap.size ≤ b ∧ Below w0.heap.size w0 W

theorem disk_New (w0 : World) (room : Int) (w : World) (hb : Below w0.heap.size w0 w) :
    Calls Try.prog 14 #[.int .i64 room] w fun e w' => ∃ b, e = .returned (.pointer (some ⟨b, 0, none⟩)) ∧ DiskAt w0 b ⟨#[]⟩ [] 0 (max room 0) w' := by
  have hz : ∀ w : World, (zeroValue 95).run Try.prog w = .ok (.agg (dcells ⟨#[]⟩ (.slice none 0 0) 0 0)) w := fun w => by kernel_rfl
  have HB := Hd.mk hb
  clear hb
  go_enter Try.func14, Try.ntmps14
  go_wp2_with fail
  go_ret
  refine ⟨w.heap.size, rfl, .slice none 0 0, ?_, ?_, by simp [Value.ownBlock], HB.out.size, HB.out.alloc HB.out.size _⟩
  · rw [heap_alloc_new]
    first | rfl | (simp [dcells]; done)
  · exact Or.inl ⟨rfl, rfl⟩
end Go.Proofs.Ytkjlakjihjfjdaa
