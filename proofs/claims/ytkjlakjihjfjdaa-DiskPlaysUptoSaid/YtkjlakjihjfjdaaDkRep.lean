/- A disk as the machine has it; disk.New, Free, Snap, Synced, Sync: their contracts. -/
import Derived.Test.YtkjlakjihjfjdaaDkOwn
namespace Go.Proofs.Ytkjlakjihjfjdaa
open Go.RowKit Go.Proofs.YtkjlakjihjfjdaaW.PrintWords Go.Proofs.YtkjlakjihjfjdaaW.PrintLast Go.Proofs.YtkjlakjihjfjdaaW.PrintMore
set_option linter.unusedVariables false
set_option linter.unusedSimpArgs false

/-- The four cells of a disk. -/
def dcells (snap : ByteArray) (v : Value) (synced room : Int) : Array Value := #[.string snap, v, .int .i64 synced, .int .i64 room]
/-- A disk, none of whose blocks is in a set of which nothing has turned since a world. -/
def DiskOn (S : Nat → Prop) (w0 : World) (b : Nat) (snap : ByteArray) (l : List UInt8) (synced room : Int) (W : World) : Prop :=
  ∃ v, W.heap[b]? = some (.cells (dcells snap v synced room) 95 (0, 0)) ∧ OwnB W S v l ∧ v.ownBlock ≠ some b ∧ ¬ S b ∧ (∀ k, S k → k < w0.heap.size) ∧ KeepOn S w0 W
/-- A disk in a block that was made since a world. -/
abbrev DiskAt (w0 : World) (b : Nat) (snap : ByteArray) (l : List UInt8) (synced room : Int) (W : World) : Prop := DiskOn (fun k => k < w0.heap.size) w0 b snap l synced room W
theorem DiskOn.below {w0 : World} {b : Nat} {snap : ByteArray} {l : List UInt8} {synced room : Int} {W : World} (h : DiskAt w0 b snap l synced room W) : Below w0.heap.size w0 W := by
  obtain ⟨v, h1, h2, h3, h4, h5, h6⟩ := h
  exact h6.below
theorem OwnB.lt {W : World} {S : Nat → Prop} {v : Value} {l : List UInt8} (h : OwnB W S v l) {g : Nat} (hg : v.ownBlock = some g) : g < W.heap.size := by
  rcases h with ⟨rfl, _⟩ | ⟨g2, cap, cur, rfl, h1, h2, _⟩
  · simp [Value.ownBlock] at hg
  · simp [Value.ownBlock] at hg
    subst hg
    exact (Array.getElem?_eq_some_iff.1 h2).1
theorem OwnB.out {W : World} {S : Nat → Prop} {v : Value} {l : List UInt8} (h : OwnB W S v l) {g : Nat} (hg : v.ownBlock = some g) : ¬ S g := by
  rcases h with ⟨rfl, _⟩ | ⟨g2, cap, cur, rfl, h1, h2, _⟩
  · simp [Value.ownBlock] at hg
  · simp [Value.ownBlock] at hg
    subst hg
    exact h1
/-- Whatever reads, and whatever writes elsewhere, lets a disk be. -/
theorem DiskOn.step {S : Nat → Prop} {w0 : World} {b : Nat} {snap : ByteArray} {l : List UInt8} {synced room : Int} {W W' : World} (h : DiskOn S w0 b snap l synced room W) (hb : Below W.heap.size W W') : DiskOn S w0 b snap l synced room W' := by
  obtain ⟨v, h1, h2, h3, h4, h5, h6⟩ := h
  exact ⟨v, (hb.block _ (Array.getElem?_eq_some_iff.1 h1).1).trans h1, h2.keep (fun g hg => hb.block _ (h2.lt hg)), h3, h4, h5, h6.trans (keep_of_below hb (fun k hk => Nat.lt_of_lt_of_le (h5 k hk) h6.size))⟩

theorem disk_New_ (room : Int) (w : World) :
    Calls Try.prog 14 #[.int .i64 room] w fun e w' => ∃ b, e = .returned (.pointer (some ⟨b, 0, none⟩)) ∧ DiskAt w b ⟨#[]⟩ [] 0 (max room 0) w' := by
  have hz : ∀ w : World, (zeroValue 95).run Try.prog w = .ok (.agg (dcells ⟨#[]⟩ (.slice none 0 0) 0 0)) w := fun w => by kernel_rfl
  go_enter Try.func14, Try.ntmps14
  go_wp2_with fail
  go_ret
  refine ⟨w.heap.size, rfl, .slice none 0 0, ?_, ?_, by simp [Value.ownBlock], Nat.lt_irrefl _, fun _ h => h, keep_of_below ((Below.refl _ _).alloc (Nat.le_refl _) _) (fun _ h => h)⟩
  · rw [heap_alloc_new]
    first | rfl | (simp [dcells]; done)
  · exact Or.inl ⟨rfl, rfl⟩
/-- Made since a world, it was made since each that went ahead of it. -/
theorem DiskOn.back {S : Nat → Prop} {w0 w : World} {b : Nat} {snap : ByteArray} {l : List UInt8} {synced room : Int} {W : World} (h : DiskAt w b snap l synced room W) (hk : KeepOn S w0 w) (hS : ∀ k, S k → k < w0.heap.size) : DiskOn S w0 b snap l synced room W := by
  have hT : ∀ k, S k → k < w.heap.size := fun k hs => Nat.lt_of_lt_of_le (hS k hs) hk.size
  obtain ⟨v, h1, h2, h3, h4, h5, h6⟩ := h
  refine ⟨v, h1, ?_, h3, fun hs => h4 (hT _ hs), hS, hk.trans (h6.mono hT)⟩
  rcases h2 with h2 | ⟨g, cap, cur, e, g1, g2⟩
  · exact Or.inl h2
  · exact Or.inr ⟨g, cap, cur, e, fun hs => g1 (hT _ hs), g2⟩
theorem disk_New (w0 : World) (room : Int) (w : World) (hb : Below w0.heap.size w0 w) :
    Calls Try.prog 14 #[.int .i64 room] w fun e w' => ∃ b, e = .returned (.pointer (some ⟨b, 0, none⟩)) ∧ DiskAt w0 b ⟨#[]⟩ [] 0 (max room 0) w' := by
  refine (disk_New_ room w).mono ?_
  rintro e w' ⟨b, rfl, h⟩
  exact ⟨b, rfl, h.back (keep_of_below hb (fun _ h => h)) (fun _ h => h)⟩

theorem DiskOn.cells {S : Nat → Prop} {w0 : World} {b : Nat} {snap : ByteArray} {l : List UInt8} {synced room : Int} {W : World} (h : DiskOn S w0 b snap l synced room W) :
    ∃ A cap, W.cell? ⟨b, 0, none⟩ = some (.string snap) ∧ W.cell? ⟨b, 1, none⟩ = some (.slice A l.length cap) ∧ W.cell? ⟨b, 2, none⟩ = some (.int .i64 synced) ∧ W.cell? ⟨b, 3, none⟩ = some (.int .i64 room) ∧ W.frozen? ⟨b, 1, none⟩ = false ∧ W.frozen? ⟨b, 2, none⟩ = false := by
  obtain ⟨v, h1, h2, h3, h4, h5, h6⟩ := h
  obtain ⟨A, cap, rfl⟩ := h2.slice
  refine ⟨A, cap, ?_, ?_, ?_, ?_, frozen_of_row _ _ 1 _ _ h1, frozen_of_row _ _ 2 _ _ h1⟩
  · rw [cell_of_row _ _ 0 _ _ _ h1]; rfl
  · rw [cell_of_row _ _ 1 _ _ _ h1]; rfl
  · rw [cell_of_row _ _ 2 _ _ _ h1]; rfl
  · rw [cell_of_row _ _ 3 _ _ _ h1]; rfl
theorem DiskOn.drew {S : Nat → Prop} {w0 : World} {b : Nat} {snap : ByteArray} {l : List UInt8} {synced room : Int} {W : World} (h : DiskOn S w0 b snap l synced room W) : DiskOn S w0 b snap l synced room W.drew := h.step ((Below.refl _ _).drew)
theorem below_drewN (w : World) (n : Nat) : Below w.heap.size w (w.drewN n) := ⟨rfl, rfl, rfl, Nat.le_refl _, fun _ _ => rfl⟩
theorem DiskOn.drewN {S : Nat → Prop} {w0 : World} {b : Nat} {snap : ByteArray} {l : List UInt8} {synced room : Int} {W : World} (h : DiskOn S w0 b snap l synced room W) (n : Nat) : DiskOn S w0 b snap l synced room (W.drewN n) := h.step (below_drewN _ _)
theorem DiskOn.sync {S : Nat → Prop} {w0 : World} {b : Nat} {snap : ByteArray} {l : List UInt8} {synced room : Int} {W : World} (h : DiskOn S w0 b snap l synced room W) (n : Int) : DiskOn S w0 b snap l n room (W.setCell ⟨b, 2, none⟩ (.int .i64 n)) := by
  obtain ⟨v, h1, h2, h3, h4, h5, h6⟩ := h
  refine ⟨v, (heap_setCell_same _ _ _ _ _ _ h1).trans rfl, h2.keep (fun g hg => heap_setCell_other _ _ _ _ ?_), h3, h4, h5, h6.setCell h4 _⟩
  intro e
  subst e
  exact h3 hg
theorem disk_Snap_ {S : Nat → Prop} {w0 : World} {b : Nat} {snap : ByteArray} {l : List UInt8} {synced room : Int} {w : World} (h : DiskOn S w0 b snap l synced room w) :
    Calls Try.prog 26 #[.pointer (some ⟨b, 0, none⟩)] w fun e w' => e = .returned (.string snap) ∧ Below w.heap.size w w' := by
  obtain ⟨A, cap, c0, c1, c2, c3, f1, f2⟩ := h.cells
  clear h
  go_enter Try.func26, Try.ntmps26
  go_wp2_with fail
  go_ret
  exact ⟨rfl, by first | exact Below.refl _ _ | exact (Below.refl _ _).drew | exact below_drewN _ _⟩
theorem disk_Snap {S : Nat → Prop} {w0 : World} {b : Nat} {snap : ByteArray} {l : List UInt8} {synced room : Int} {w : World} (h : DiskOn S w0 b snap l synced room w) :
    Calls Try.prog 26 #[.pointer (some ⟨b, 0, none⟩)] w fun e w' => e = .returned (.string snap) ∧ DiskOn S w0 b snap l synced room w' := (disk_Snap_ h).mono (fun e w' he => ⟨he.1, h.step he.2⟩)
theorem disk_Synced_ {S : Nat → Prop} {w0 : World} {b : Nat} {snap : ByteArray} {l : List UInt8} {synced room : Int} {w : World} (h : DiskOn S w0 b snap l synced room w) :
    Calls Try.prog 27 #[.pointer (some ⟨b, 0, none⟩)] w fun e w' => e = .returned (.int .i64 synced) ∧ Below w.heap.size w w' := by
  obtain ⟨A, cap, c0, c1, c2, c3, f1, f2⟩ := h.cells
  clear h
  go_enter Try.func27, Try.ntmps27
  go_wp2_with fail
  go_ret
  exact ⟨rfl, by first | exact Below.refl _ _ | exact (Below.refl _ _).drew | exact below_drewN _ _⟩
theorem disk_Synced {S : Nat → Prop} {w0 : World} {b : Nat} {snap : ByteArray} {l : List UInt8} {synced room : Int} {w : World} (h : DiskOn S w0 b snap l synced room w) :
    Calls Try.prog 27 #[.pointer (some ⟨b, 0, none⟩)] w fun e w' => e = .returned (.int .i64 synced) ∧ DiskOn S w0 b snap l synced room w' := (disk_Synced_ h).mono (fun e w' he => ⟨he.1, h.step he.2⟩)
/-- What a disk has room for, and holds, is no more than the machine's numbers bear. -/
def DiskOk (snap : ByteArray) (l : List UInt8) (room : Int) : Prop := 0 ≤ room ∧ room ≤ 9223372036854775807 ∧ (snap.size : Int) + l.length ≤ room ∧ l.length ≤ 140737488355328
theorem disk_Free_ {S : Nat → Prop} {w0 : World} {b : Nat} {snap : ByteArray} {l : List UInt8} {synced room : Int} {w : World} (h : DiskOn S w0 b snap l synced room w) (hok : DiskOk snap l room) :
    Calls Try.prog 28 #[.pointer (some ⟨b, 0, none⟩)] w fun e w' => e = .returned (.int .i64 (room - snap.size - l.length)) ∧ Below w.heap.size w w' := by
  obtain ⟨A, cap, c0, c1, c2, c3, f1, f2⟩ := h.cells
  obtain ⟨o1, o2, o3, o4⟩ := hok
  have x1 : wrap64 (room - snap.size) = room - snap.size := by unfold wrap64; omega
  have x2 : wrap64 (room - snap.size - l.length) = room - snap.size - l.length := by unfold wrap64; omega
  clear h o1 o2 o3 o4
  go_enter Try.func28, Try.ntmps28
  go_upto_region 3 with (fail)
  go_quiet (fail)
  go_wp2_with fail
  go_ret
  exact ⟨by first | rfl | simp [x1, x2], by first | exact Below.refl _ _ | exact (Below.refl _ _).drew | exact below_drewN _ _⟩
theorem disk_Free {S : Nat → Prop} {w0 : World} {b : Nat} {snap : ByteArray} {l : List UInt8} {synced room : Int} {w : World} (h : DiskOn S w0 b snap l synced room w) (hok : DiskOk snap l room) :
    Calls Try.prog 28 #[.pointer (some ⟨b, 0, none⟩)] w fun e w' => e = .returned (.int .i64 (room - snap.size - l.length)) ∧ DiskOn S w0 b snap l synced room w' := (disk_Free_ h hok).mono (fun e w' he => ⟨he.1, h.step he.2⟩)
/-- Sync: all of the log stays. -/
theorem disk_Sync {S : Nat → Prop} {w0 : World} {b : Nat} {snap : ByteArray} {l : List UInt8} {synced room : Int} {w : World} (h : DiskOn S w0 b snap l synced room w) :
    Calls Try.prog 16 #[.pointer (some ⟨b, 0, none⟩)] w fun e w' => e = .returned (.tuple #[]) ∧ DiskOn S w0 b snap l l.length room w' := by
  obtain ⟨A, cap, c0, c1, c2, c3, f1, f2⟩ := h.cells
  have H := Hd.mk h
  clear h
  go_enter Try.func16, Try.ntmps16
  go_wp2_with fail
  exact ⟨rfl, .tuple #[], by first | rfl | (simp [results, Try.results16]; done), rfl, H.out.sync _⟩
end Go.Proofs.Ytkjlakjihjfjdaa
