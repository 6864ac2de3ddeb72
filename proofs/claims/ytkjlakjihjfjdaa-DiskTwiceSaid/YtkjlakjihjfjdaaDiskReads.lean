/- disk.Free, Snap, Synced: their contracts. -/
import Derived.Test.YtkjlakjihjfjdaaDiskRep
namespace Go.Proofs.Ytkjlakjihjfjdaa
open Go.RowKit Go.Proofs.YtkjlakjihjfjdaaW.PrintWords Go.Proofs.YtkjlakjihjfjdaaW.PrintLast Go.Proofs.YtkjlakjihjfjdaaW.PrintMore
set_option linter.unusedVariables false
set_option linter.unusedSimpArgs false

theorem DiskAt.cells {w0 : World} {b : Nat} {snap : ByteArray} {l : List UInt8} {synced room : Int} {W : World} (h : DiskAt w0 b snap l synced room W) :
    ∃ A cap, W.cell? ⟨b, 0, none⟩ = some (.string snap) ∧ W.cell? ⟨b, 1, none⟩ = some (.slice A l.length cap) ∧ W.cell? ⟨b, 2, none⟩ = some (.int .i64 synced) ∧ W.cell? ⟨b, 3, none⟩ = some (.int .i64 room) ∧ W.frozen? ⟨b, 1, none⟩ = false ∧ W.frozen? ⟨b, 2, none⟩ = false := by
  obtain ⟨v, h1, h2, h3, h4, h5⟩ := h
  obtain ⟨A, cap, rfl⟩ := h2.slice
  refine ⟨A, cap, ?_, ?_, ?_, ?_, frozen_of_row _ _ 1 _ _ h1, frozen_of_row _ _ 2 _ _ h1⟩
  · rw [cell_of_row _ _ 0 _ _ _ h1]; rfl
  · rw [cell_of_row _ _ 1 _ _ _ h1]; rfl
  · rw [cell_of_row _ _ 2 _ _ _ h1]; rfl
  · rw [cell_of_row _ _ 3 _ _ _ h1]; rfl
theorem DiskAt.drew {w0 : World} {b : Nat} {snap : ByteArray} {l : List UInt8} {synced room : Int} {W : World} (h : DiskAt w0 b snap l synced room W) : DiskAt w0 b snap l synced room W.drew := by
  obtain ⟨v, h1, h2, h3, h4, h5⟩ := h
  exact ⟨v, h1, h2, h3, h4, h5.drew⟩

theorem DiskAt.drewN {w0 : World} {b : Nat} {snap : ByteArray} {l : List UInt8} {synced room : Int} {W : World} (h : DiskAt w0 b snap l synced room W) (n : Nat) : DiskAt w0 b snap l synced room (W.drewN n) := by
  obtain ⟨v, h1, h2, h3, h4, h5⟩ := h
  exact ⟨v, h1, h2, h3, h4, h5.trans ⟨rfl, rfl, rfl, Nat.le_refl _, fun _ _ => rfl⟩⟩
theorem DiskAt.sync {w0 : World} {b : Nat} {snap : ByteArray} {l : List UInt8} {synced room : Int} {W : World} (h : DiskAt w0 b snap l synced room W) (n : Int) : DiskAt w0 b snap l n room (W.setCell ⟨b, 2, none⟩ (.int .i64 n)) := by
  obtain ⟨v, h1, h2, h3, h4, h5⟩ := h
  refine ⟨v, (heap_setCell_same _ _ _ _ _ _ h1).trans rfl, h2.keep (fun g hg => heap_setCell_other _ _ _ _ ?_), h3, h4, h5.setCell h4 _⟩
  intro e
  subst e
  exact h3 hg
theorem disk_Snap {w0 : World} {b : Nat} {snap : ByteArray} {l : List UInt8} {synced room : Int} {w : World} (h : DiskAt w0 b snap l synced room w) :
    Calls Try.prog 26 #[.pointer (some ⟨b, 0, none⟩)] w fun e w' => e = .returned (.string snap) ∧ DiskAt w0 b snap l synced room w' := by
  obtain ⟨A, cap, c0, c1, c2, c3, f1, f2⟩ := h.cells
  have H := Hd.mk h
  clear h
  go_enter Try.func26, Try.ntmps26
  go_wp2_with fail
  go_ret
  exact ⟨rfl, by first | exact H.out | exact H.out.drew⟩
theorem disk_Synced {w0 : World} {b : Nat} {snap : ByteArray} {l : List UInt8} {synced room : Int} {w : World} (h : DiskAt w0 b snap l synced room w) :
    Calls Try.prog 27 #[.pointer (some ⟨b, 0, none⟩)] w fun e w' => e = .returned (.int .i64 synced) ∧ DiskAt w0 b snap l synced room w' := by
  obtain ⟨A, cap, c0, c1, c2, c3, f1, f2⟩ := h.cells
  have H := Hd.mk h
  clear h
  go_enter Try.func27, Try.ntmps27
  go_wp2_with fail
  go_ret
  exact ⟨rfl, by first | exact H.out | exact H.out.drew⟩
/-- What a disk has room for, and holds, is no more than the machine's numbers bear. -/
def DiskOk (snap : ByteArray) (l : List UInt8) (room : Int) : Prop := 0 ≤ room ∧ room ≤ 9223372036854775807 ∧ (snap.size : Int) + l.length ≤ room ∧ l.length ≤ 140737488355328
theorem disk_Free {w0 : World} {b : Nat} {snap : ByteArray} {l : List UInt8} {synced room : Int} {w : World} (h : DiskAt w0 b snap l synced room w) (hok : DiskOk snap l room) :
    Calls Try.prog 28 #[.pointer (some ⟨b, 0, none⟩)] w fun e w' => e = .returned (.int .i64 (room - snap.size - l.length)) ∧ DiskAt w0 b snap l synced room w' := by
  obtain ⟨A, cap, c0, c1, c2, c3, f1, f2⟩ := h.cells
  have H := Hd.mk h
  obtain ⟨o1, o2, o3, o4⟩ := hok
  have x1 : wrap64 (room - snap.size) = room - snap.size := by unfold wrap64; omega
  have x2 : wrap64 (room - snap.size - l.length) = room - snap.size - l.length := by unfold wrap64; omega
  clear h o1 o2 o3 o4
  go_enter Try.func28, Try.ntmps28
  go_upto_region 3 with (fail)
  go_quiet (fail)
  go_wp2_with fail
  go_ret
  exact ⟨by first | rfl | simp [x1, x2], by first | exact H.out | exact H.out.drew | exact H.out.drewN _⟩
/-- Sync: all of the log stays. -/
theorem disk_Sync {w0 : World} {b : Nat} {snap : ByteArray} {l : List UInt8} {synced room : Int} {w : World} (h : DiskAt w0 b snap l synced room w) :
    Calls Try.prog 16 #[.pointer (some ⟨b, 0, none⟩)] w fun e w' => e = .returned (.tuple #[]) ∧ DiskAt w0 b snap l l.length room w' := by
  obtain ⟨A, cap, c0, c1, c2, c3, f1, f2⟩ := h.cells
  have H := Hd.mk h
  clear h
  go_enter Try.func16, Try.ntmps16
  go_wp2_with fail
  exact ⟨rfl, .tuple #[], by first | rfl | (simp [results, Try.results16]; done), rfl, H.out.sync _⟩
end Go.Proofs.Ytkjlakjihjfjdaa
