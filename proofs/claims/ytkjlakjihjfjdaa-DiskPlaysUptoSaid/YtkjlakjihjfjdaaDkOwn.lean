/- What is kept of a set of blocks; a row of bytes of one's own outside of it, whose capacity may be less than its cells; a string's bytes appended. -/
import Derived.Test.YtkjlakjihjfjdaaHeld
import Derived.Lib.AppendStr
namespace Go.Proofs.Ytkjlakjihjfjdaa
open Go.RowKit Go.Proofs.YtkjlakjihjfjdaaW.PrintWords Go.Proofs.YtkjlakjihjfjdaaW.PrintLast Go.Proofs.YtkjlakjihjfjdaaW.PrintMore
set_option linter.unusedVariables false
set_option linter.unusedSimpArgs false

/-- Of these blocks nothing has turned; the streams are as they were; no block has gone. -/
structure KeepOn (S : Nat → Prop) (w0 W : World) : Prop where
  os : W.os = w0.os
  tape : W.tape = w0.tape
  output : W.output = w0.output
  size : w0.heap.size ≤ W.heap.size
  block : ∀ k, S k → W.heap[k]? = w0.heap[k]?
theorem KeepOn.refl (S : Nat → Prop) (w : World) : KeepOn S w w := ⟨rfl, rfl, rfl, Nat.le_refl _, fun _ _ => rfl⟩
theorem KeepOn.trans {S : Nat → Prop} {a b c : World} (h : KeepOn S a b) (k : KeepOn S b c) : KeepOn S a c :=
  ⟨k.os.trans h.os, k.tape.trans h.tape, k.output.trans h.output, Nat.le_trans h.size k.size, fun i hi => (k.block i hi).trans (h.block i hi)⟩
theorem KeepOn.mono {S T : Nat → Prop} {a b : World} (h : KeepOn S a b) (hST : ∀ k, T k → S k) : KeepOn T a b := ⟨h.os, h.tape, h.output, h.size, fun k hk => h.block k (hST k hk)⟩
theorem keep_of_below {S : Nat → Prop} {n : Nat} {a b : World} (h : Below n a b) (hS : ∀ k, S k → k < n) : KeepOn S a b := ⟨h.os, h.tape, h.output, h.size, fun k hk => h.block k (hS k hk)⟩
theorem KeepOn.below {n : Nat} {a b : World} (h : KeepOn (fun k => k < n) a b) : Below n a b := ⟨h.os, h.tape, h.output, h.size, h.block⟩
theorem KeepOn.setCell {S : Nat → Prop} {a b : World} (h : KeepOn S a b) {p : Addr} (hp : ¬ S p.block) (u : Value) : KeepOn S a (b.setCell p u) :=
  h.trans ⟨rfl, rfl, rfl, by simp [World.setCell], fun k hk => Below.heap_setCell _ _ _ _ (fun e => hp (e ▸ hk))⟩
theorem KeepOn.setRow {S : Nat → Prop} {a b : World} (h : KeepOn S a b) {g : Nat} (hg : ¬ S g) (cs : Array Value) : KeepOn S a (b.setRow g cs) :=
  h.trans ⟨rfl, rfl, rfl, by simp, fun k hk => setRow_other _ _ _ _ (fun e => hg (e ▸ hk))⟩
theorem KeepOn.drewN {S : Nat → Prop} {a b : World} (h : KeepOn S a b) (n : Nat) : KeepOn S a (b.drewN n) := h.trans ⟨rfl, rfl, rfl, Nat.le_refl _, fun _ _ => rfl⟩

/-- A value that has a row of bytes of its own. -/
def OwnB (W : World) (S : Nat → Prop) (v : Value) (l : List UInt8) : Prop :=
  (v = .slice none 0 0 ∧ l = []) ∨ ∃ g cap cur, v = .slice (some ⟨g, 0, none⟩) l.length cap ∧ ¬ S g ∧ W.heap[g]? = some (.cells cur 5 (0, 0)) ∧ l.length ≤ cap ∧ cap ≤ maxLen ∧ cap ≤ cur.size ∧ cur.toList.take l.length = Lib.strCells ⟨l.toArray⟩
theorem OwnB.slice {W : World} {S : Nat → Prop} {v : Value} {l : List UInt8} (h : OwnB W S v l) : ∃ A cap, v = .slice A l.length cap := by
  rcases h with ⟨rfl, rfl⟩ | ⟨g, cap, cur, rfl, _⟩
  · exact ⟨none, 0, rfl⟩
  · exact ⟨_, _, rfl⟩
theorem OwnB.keep {W W' : World} {S : Nat → Prop} {v : Value} {l : List UInt8} (h : OwnB W S v l) (hk : ∀ g, v.ownBlock = some g → W'.heap[g]? = W.heap[g]?) : OwnB W' S v l := by
  rcases h with h | ⟨g, cap, cur, rfl, h1, h2, h3⟩
  · exact Or.inl h
  · exact Or.inr ⟨g, cap, cur, rfl, h1, (hk g rfl).trans h2, h3⟩
/-- Cut off, its capacity too. -/
theorem OwnB.cut {W : World} {S : Nat → Prop} {A : Option Addr} {cap : Nat} {l : List UInt8} (h : OwnB W S (.slice A l.length cap) l) {m : Nat} (hm : m ≤ l.length) : OwnB W S (.slice A m m) (l.take m) := by
  rcases h with ⟨e, rfl⟩ | ⟨g, cap2, cur, e, h1, h2, h3, h4, h5, h6⟩
  · cases e
    have : m = 0 := by simpa using hm
    subst this
    exact Or.inl ⟨rfl, rfl⟩
  · cases e
    have hl : (l.take m).length = m := by rw [List.length_take]; omega
    refine Or.inr ⟨g, m, cur, by rw [hl], h1, h2, by omega, by omega, by omega, ?_⟩
    rw [hl]
    have h7 := congrArg (List.take m) h6
    rw [List.take_take, Nat.min_eq_left hm] at h7
    rw [h7]
    unfold Lib.strCells
    simp
theorem own_of_row {W : World} {S : Nat → Prop} {base : Nat} {v : Value} {l : List UInt8} (h : W.ownsRow base 5 1 v l.length (Lib.strCells ⟨l.toArray⟩)) (hS : ∀ k, base ≤ k → ¬ S k) : OwnB W S v l := by
  rcases h.2 with ⟨e, hn⟩ | ⟨g, cap, cur, e, h1, h2, h3, h4, h5, h6⟩
  · exact Or.inl ⟨e, List.eq_nil_of_length_eq_zero hn⟩
  · exact Or.inr ⟨g, cap, cur, e, hS g h1, h2, h3, h4, by omega, by simpa using h6⟩
theorem cells_len (l : List UInt8) : (Lib.strCells ⟨l.toArray⟩).length = l.length := by unfold Lib.strCells; simp
theorem cells_app (l : List UInt8) (s : ByteArray) : Lib.strCells ⟨l.toArray⟩ ++ Lib.strCells s = Lib.strCells ⟨(l ++ s.data.toList).toArray⟩ := by
  unfold Lib.strCells; simp
theorem OwnB.append {W : World} {S : Nat → Prop} {v : Value} {l : List UInt8} (h : OwnB W S v l) (s : ByteArray) (hb : l.length + s.size ≤ 140737488355328) (hbase : ∀ k, W.heap.size ≤ k → ¬ S k) :
    ∃ v' w', (Builtin.append_ #[93, 9] 93 #[v, .string s]).run Try.prog W = .ok v' w' ∧ OwnB w' S v' (l ++ s.data.toList) ∧ W.grownBy w' v.ownBlock := by
  obtain ⟨i, hi⟩ : ∃ i, Try.prog.info? 5 = some i := by
    have : (Try.prog.info? 5).isSome = true := by kernel_rfl
    exact Option.isSome_iff_exists.1 this
  have e1 : (Try.prog.info? 5).map (·.zero) = some (some (.int .u8 0)) := by kernel_rfl
  have e2 : (Try.prog.info? 5).map (·.size) = some 1 := by kernel_rfl
  have e3 : (Try.prog.info? 5).map (·.bytes) = some 1 := by kernel_rfl
  rw [hi] at e1 e2 e3
  simp at e1 e2 e3
  have hsl : s.data.toList.length = s.size := rfl
  have hlen : (l ++ s.data.toList).length = l.length + s.size := by rw [List.length_append, hsl]
  rcases h with ⟨rfl, rfl⟩ | ⟨g, cap, cur, rfl, h1, h2, h3, h4, h5, h6⟩
  · obtain ⟨v', w', r1, r2, r3, _⟩ := Lib.run_append_own_string (P := Try.prog) W W.heap.size 93 9 93 5 i Try.underlying93 Try.underlying9 hi e1 e2 e3 (.slice none 0 0) 0 [] (World.ownsRow_nil W W.heap.size _ 1) s (by unfold maxLen; simp at hb; omega) (by simpa using hb) (Nat.le_refl _)
    refine ⟨v', w', r1, own_of_row ?_ hbase, r3⟩
    have e : Lib.strCells ⟨([] ++ s.data.toList).toArray⟩ = [] ++ Lib.strCells s := by unfold Lib.strCells; simp
    rw [e, hlen]
    exact r2
  · by_cases hroom : l.length + s.size ≤ cap
    · have hr := Lib.run_append_room_string (P := Try.prog) W 93 9 93 5 i Try.underlying93 Try.underlying9 hi e2 g l.length cap cur h2 s hroom (by omega)
      refine ⟨_, _, hr, Or.inr ⟨g, cap, _, by rw [hlen], h1, setRow_heap W g cur _ _ _ h2, by rw [hlen]; exact hroom, h4, ?_, ?_⟩, ⟨rfl, rfl, rfl, by simp, fun k _ hk => setRow_other W g k _ (fun e => hk (by simp [Value.ownBlock, e]))⟩⟩
      · simp only [List.size_toArray, List.length_append, List.length_take, List.length_drop, Array.length_toList, Lib.strCells_length]
        omega
      · rw [h6, cells_app, ← cells_len (l ++ s.data.toList)]
        exact List.take_left
    · have holds : ∀ j u, (Lib.strCells ⟨l.toArray⟩)[j]? = some u → W.cell? ((⟨g, 0, none⟩ : Addr).add j) = some u := by
        intro j u hj
        have hjl : j < l.length := by rw [← cells_len l]; exact (List.getElem?_eq_some_iff.1 hj).1
        rw [← h6, List.getElem?_take, if_pos hjl] at hj
        rw [Addr.add_lit, cell_of_row W _ _ _ _ _ h2]
        simpa using hj
      have hr := Lib.run_append_grow_string (P := Try.prog) W 93 9 93 5 i (.int .u8 0) Try.underlying93 Try.underlying9 hi e1 ⟨g, 0, none⟩ l.length cap (Lib.strCells ⟨l.toArray⟩) (by rw [e2, cells_len]; omega) holds s (by omega) (by omega) (by rw [e3]; exact growslice_fits (by omega) (by omega))
      have hge := grownCap_ge W (l.length + s.size) cap 5
      have hcm : grownCap W (l.length + s.size) cap 5 ≤ maxLen := grownCap_le_maxLen W (l.length + s.size) cap 5 (by unfold maxLen; omega)
      refine ⟨_, _, hr, Or.inr ⟨W.heap.size, _, _, by rw [hlen], hbase _ (Nat.le_refl _), heap_alloc_new W.drew _, by rw [hlen]; exact hge, hcm, ?_, ?_⟩, ⟨rfl, rfl, rfl, by simp, fun k hk _ => heap_alloc_old W.drew _ hk⟩⟩
      · have hz1 : (Value.int IntKind.u8 0).cells.size = 1 := rfl
        have hz2 : (⟨l.toArray⟩ : ByteArray).size = l.length := by simp [ByteArray.size]
        simp only [Array.size_append, List.size_toArray, size_zeroCells, hz1, cells_len, Lib.strCells_length]
        omega
      · simp only [Array.toList_append, List.append_assoc]
        rw [← List.append_assoc, cells_app, ← cells_len (l ++ s.data.toList)]
        exact List.take_left
end Go.Proofs.Ytkjlakjihjfjdaa
