/- The contracts of disk's methods, the log told as a string; nobody's disk; what is apart. -/
import Derived.Test.YtkjlakjihjfjdaaDkMore
namespace Go.Proofs.Ytkjlakjihjfjdaa
open Go.RowKit Go.Proofs.YtkjlakjihjfjdaaW.PrintWords Go.Proofs.YtkjlakjihjfjdaaW.PrintLast Go.Proofs.YtkjlakjihjfjdaaW.PrintMore
set_option linter.unusedVariables false
set_option linter.unusedSimpArgs false

/-- A disk, its log told as a string. -/
abbrev DiskS (S : Nat → Prop) (w0 : World) (b : Nat) (snap x : ByteArray) (synced room : Int) (W : World) : Prop := DiskOn S w0 b snap x.data.toList synced room W
theorem bytes_len (x : ByteArray) : x.data.toList.length = x.size := rfl
theorem bytes_back (x : ByteArray) : (⟨x.data.toList.toArray⟩ : ByteArray) = x := by apply ByteArray.ext; simp
theorem bytes_cat (x s : ByteArray) : x.data.toList ++ s.data.toList = (x ++ s).data.toList := by simp
theorem bytes_take (x : ByteArray) (m : Nat) : x.data.toList.take m = (x.extract 0 m).data.toList := by simp

theorem dS_New (w0 : World) (room : Int) (w : World) (hb : Below w0.heap.size w0 w) :
    Calls Try.prog 14 #[.int .i64 room] w fun e w' => ∃ b, e = .returned (.pointer (some ⟨b, 0, none⟩)) ∧ DiskS (fun k => k < w0.heap.size) w0 b ⟨#[]⟩ ⟨#[]⟩ 0 (max room 0) w' := disk_New w0 room w hb
theorem dS_Append {S : Nat → Prop} {w0 : World} {b : Nat} {snap x : ByteArray} {synced room : Int} {w : World} (h : DiskS S w0 b snap x synced room w) (s : ByteArray) (hr : room ≤ 9223372036854775807) (hx : (snap.size : Int) + x.size + s.size ≤ room) (hl : x.size + s.size ≤ 140737488355328) :
    Calls Try.prog 15 #[.pointer (some ⟨b, 0, none⟩), .string s] w fun e w' => e = .returned (.int .i64 0) ∧ DiskS S w0 b snap (x ++ s) synced room w' := by
  have hz := bytes_len x
  have := disk_Append h ⟨by omega, hr, by omega, by omega⟩ s (by omega) (by omega)
  rw [bytes_cat] at this
  exact this
theorem dS_Append_off {S : Nat → Prop} {w0 : World} {b : Nat} {snap x : ByteArray} {synced room : Int} {w : World} (h : DiskS S w0 b snap x synced room w) (s : ByteArray) (hr : room ≤ 9223372036854775807) (hx : (snap.size : Int) + x.size ≤ room) (hs : room < (snap.size : Int) + x.size + s.size) (hl : x.size ≤ 140737488355328) :
    Calls Try.prog 15 #[.pointer (some ⟨b, 0, none⟩), .string s] w fun e w' => e = .returned (.int .i64 13) ∧ DiskS S w0 b snap x synced room w' := by
  have hz := bytes_len x
  exact disk_Append_off h ⟨by omega, hr, by omega, by omega⟩ s (by omega)
theorem dS_Sync {S : Nat → Prop} {w0 : World} {b : Nat} {snap x : ByteArray} {synced room : Int} {w : World} (h : DiskS S w0 b snap x synced room w) :
    Calls Try.prog 16 #[.pointer (some ⟨b, 0, none⟩)] w fun e w' => e = .returned (.tuple #[]) ∧ DiskS S w0 b snap x (x.size : Nat) room w' := disk_Sync h
theorem dS_Crash {S : Nat → Prop} {w0 : World} {b : Nat} {snap x : ByteArray} {k : Nat} {room : Int} {w : World} (h : DiskS S w0 b snap x (k : Int) room w) (hk : k ≤ x.size) (hl : x.size ≤ 140737488355328) (keep : Int) (m : Nat) (hm : (m : Int) = k + min (max keep 0) (x.size - k)) :
    Calls Try.prog 17 #[.pointer (some ⟨b, 0, none⟩), .int .i64 keep] w fun e w' => e = .returned (.tuple #[]) ∧ DiskS S w0 b snap (x.extract 0 m) (m : Int) room w' := by
  have := disk_Crash h hk hl keep m hm
  rw [bytes_take] at this
  exact this
theorem dS_Log_ {S : Nat → Prop} {w0 : World} {b : Nat} {snap x : ByteArray} {synced room : Int} {w : World} (h : DiskS S w0 b snap x synced room w) :
    Calls Try.prog 18 #[.pointer (some ⟨b, 0, none⟩)] w fun e w' => e = .returned (.string x) ∧ Below w.heap.size w w' := by
  have := disk_Log_ h
  rw [bytes_back] at this
  exact this
theorem dS_Log {S : Nat → Prop} {w0 : World} {b : Nat} {snap x : ByteArray} {synced room : Int} {w : World} (h : DiskS S w0 b snap x synced room w) :
    Calls Try.prog 18 #[.pointer (some ⟨b, 0, none⟩)] w fun e w' => e = .returned (.string x) ∧ DiskS S w0 b snap x synced room w' := (dS_Log_ h).mono (fun e w' he => ⟨he.1, h.step he.2⟩)
theorem dS_Free_ {S : Nat → Prop} {w0 : World} {b : Nat} {snap x : ByteArray} {synced room : Int} {w : World} (h : DiskS S w0 b snap x synced room w) (hr : room ≤ 9223372036854775807) (hx : (snap.size : Int) + x.size ≤ room) (hl : x.size ≤ 140737488355328) :
    Calls Try.prog 28 #[.pointer (some ⟨b, 0, none⟩)] w fun e w' => e = .returned (.int .i64 (room - snap.size - x.size)) ∧ Below w.heap.size w w' := by
  have hz := bytes_len x
  exact disk_Free_ h ⟨by omega, hr, by omega, by omega⟩
theorem dS_Free {S : Nat → Prop} {w0 : World} {b : Nat} {snap x : ByteArray} {synced room : Int} {w : World} (h : DiskS S w0 b snap x synced room w) (hr : room ≤ 9223372036854775807) (hx : (snap.size : Int) + x.size ≤ room) (hl : x.size ≤ 140737488355328) :
    Calls Try.prog 28 #[.pointer (some ⟨b, 0, none⟩)] w fun e w' => e = .returned (.int .i64 (room - snap.size - x.size)) ∧ DiskS S w0 b snap x synced room w' := (dS_Free_ h hr hx hl).mono (fun e w' he => ⟨he.1, h.step he.2⟩)
theorem dS_Switch {S : Nat → Prop} {w0 : World} {b : Nat} {snap x : ByteArray} {synced room : Int} {w : World} (h : DiskS S w0 b snap x synced room w) (s : ByteArray) (hs : (s.size : Int) ≤ room) :
    Calls Try.prog 25 #[.pointer (some ⟨b, 0, none⟩), .string s] w fun e w' => e = .returned (.int .i64 0) ∧ DiskS S w0 b s ⟨#[]⟩ 0 room w' := disk_Switch h s hs
theorem dS_Copy {S : Nat → Prop} {w0 : World} {b : Nat} {snap x : ByteArray} {synced room : Int} {w : World} (h : DiskS S w0 b snap x synced room w) (hl : x.size ≤ 140737488355328) :
    Calls Try.prog 40 #[.pointer (some ⟨b, 0, none⟩)] w fun e w' => ∃ b2, e = .returned (.pointer (some ⟨b2, 0, none⟩)) ∧ DiskS (fun k => k < w.heap.size) w b2 snap x synced room w' := disk_Copy h hl

/-- What a copy has, and all else that was made since, is apart: as long as nothing of it turns. -/
theorem DiskOn.apart {S : Nat → Prop} {w0 : World} {b : Nat} {snap : ByteArray} {l : List UInt8} {synced room : Int} {W W' : World} (h : DiskOn S w0 b snap l synced room W) (hb : Below W.heap.size W W') :
    ∃ T : Nat → Prop, (∀ k, S k → T k) ∧ (∀ k, W.heap.size ≤ k → k < W'.heap.size → T k) ∧ DiskOn T W' b snap l synced room W' := by
  have h' := h.step hb
  obtain ⟨v0, q1, q2, q3, q4, q5, q6⟩ := h
  obtain ⟨v, h1, h2, h3, h4, h5, h6⟩ := h'
  have e : v = v0 := by
    have e1 := (hb.block _ (Array.getElem?_eq_some_iff.1 q1).1).trans q1
    rw [h1] at e1
    simpa [dcells] using e1
  subst e
  have hbW := (Array.getElem?_eq_some_iff.1 q1).1
  refine ⟨fun k => k < W'.heap.size ∧ k ≠ b ∧ v.ownBlock ≠ some k, fun k hk => ⟨Nat.lt_of_lt_of_le (h5 k hk) h6.size, fun e => h4 (e ▸ hk), fun e => h2.out e hk⟩, fun k hk1 hk2 => ⟨hk2, by omega, fun e => ?_⟩, v, h1, ?_, h3, fun h => h.2.1 rfl, fun k hk => hk.1, KeepOn.refl _ _⟩
  · have := q2.lt e
    omega
  · rcases h2 with h | ⟨g, cap, cur, e, r1, r2⟩
    · exact Or.inl h
    · subst e
      exact Or.inr ⟨g, cap, cur, rfl, fun h => h.2.2 rfl, r2⟩
theorem DiskOn.kept {S : Nat → Prop} {w0 : World} {b : Nat} {snap : ByteArray} {l : List UInt8} {synced room : Int} {W : World} (h : DiskOn S w0 b snap l synced room W) : KeepOn S w0 W := h.choose_spec.2.2.2.2.2
/-- A copy, while what was made with it is kept. -/
theorem DiskOn.far {b : Nat} {snap : ByteArray} {l : List UInt8} {synced room : Int} {W W' W'' : World} {T : Nat → Prop} (h : DiskAt W b snap l synced room W') (hT : ∀ k, W.heap.size ≤ k → k < W'.heap.size → T k) (hk : KeepOn T W' W'') : DiskOn (fun _ => False) W'' b snap l synced room W'' := by
  obtain ⟨v, h1, h2, h3, h4, h5, h6⟩ := h
  have hlt := (Array.getElem?_eq_some_iff.1 h1).1
  refine ⟨v, (hk.block _ (hT _ (Nat.not_lt.1 h4) hlt)).trans h1, ?_, h3, id, fun _ h => h.elim, KeepOn.refl _ _⟩
  have h7 : OwnB W'' (fun k => k < W.heap.size) v l := h2.keep (fun g hg => hk.block g (hT g (Nat.not_lt.1 (h2.out hg)) (h2.lt hg)))
  rcases h7 with h | ⟨g, cap, cur, e, r1, r2⟩
  · exact Or.inl h
  · exact Or.inr ⟨g, cap, cur, e, id, r2⟩
/-- Back to the set that was kept first. -/
theorem DiskOn.widen {S T : Nat → Prop} {w0 w1 : World} {b : Nat} {snap : ByteArray} {l : List UInt8} {synced room : Int} {W : World} (h : DiskOn T w1 b snap l synced room W) (hST : ∀ k, S k → T k) (hk : KeepOn S w0 w1) (hS : ∀ k, S k → k < w0.heap.size) : DiskOn S w0 b snap l synced room W := by
  obtain ⟨v, h1, h2, h3, h4, h5, h6⟩ := h
  refine ⟨v, h1, ?_, h3, fun h => h4 (hST _ h), hS, hk.trans (h6.mono hST)⟩
  rcases h2 with h | ⟨g, cap, cur, e, r1, r2⟩
  · exact Or.inl h
  · exact Or.inr ⟨g, cap, cur, e, fun h => r1 (hST _ h), r2⟩
end Go.Proofs.Ytkjlakjihjfjdaa
