/- A row of bytes of one's own, whose capacity may be less than its cells; a string's bytes appended. -/
import Derived.Test.YtkjlakjihjfjdaaHeld
import Derived.Lib.AppendStr
namespace Go.Proofs.Ytkjlakjihjfjdaa
open Go.RowKit Go.Proofs.YtkjlakjihjfjdaaW.PrintWords Go.Proofs.YtkjlakjihjfjdaaW.PrintLast Go.Proofs.YtkjlakjihjfjdaaW.PrintMore
set_option linter.unusedVariables false
set_option linter.unusedSimpArgs false

/-- A value that has a row of bytes of its own. -/
def OwnB (W : World) (base : Nat) (v : Value) (l : List UInt8) : Prop :=
  (v = .slice none 0 0 ∧ l = []) ∨ ∃ g cap cur, v = .slice (some ⟨g, 0, none⟩) l.length cap ∧ base ≤ g ∧ W.heap[g]? = some (.cells cur 5 (0, 0)) ∧ l.length ≤ cap ∧ cap ≤ maxLen ∧ cap ≤ cur.size ∧ cur.toList.take l.length = Lib.strCells ⟨l.toArray⟩
theorem OwnB.slice {W : World} {base : Nat} {v : Value} {l : List UInt8} (h : OwnB W base v l) : ∃ A cap, v = .slice A l.length cap := by
  rcases h with ⟨rfl, rfl⟩ | ⟨g, cap, cur, rfl, _⟩
  · exact ⟨none, 0, rfl⟩
  · exact ⟨_, _, rfl⟩
theorem OwnB.keep {W W' : World} {base : Nat} {v : Value} {l : List UInt8} (h : OwnB W base v l) (hk : ∀ g, v.ownBlock = some g → W'.heap[g]? = W.heap[g]?) : OwnB W' base v l := by
  rcases h with h | ⟨g, cap, cur, rfl, h1, h2, h3⟩
  · exact Or.inl h
  · exact Or.inr ⟨g, cap, cur, rfl, h1, (hk g rfl).trans h2, h3⟩
/-- Cut off, its capacity too. -/
theorem OwnB.cut {W : World} {base : Nat} {A : Option Addr} {cap : Nat} {l : List UInt8} (h : OwnB W base (.slice A l.length cap) l) {m : Nat} (hm : m ≤ l.length) : OwnB W base (.slice A m m) (l.take m) := by
  rcases h with ⟨e, rfl⟩ | ⟨g, cap2, cur, e, h1, h2, h3, h4, h5, h6⟩
  · cases e
    have : m = 0 := by simpa using hm
    subst this
    exact Or.inl ⟨rfl, rfl⟩
  · cases e
    have hl : (l.take m).length = m := by rw [List.length_take]; omega
    refine Or.inr ⟨g, m, cur, by rw [hl], h1, h2, by omega, by omega, by omega, ?_⟩
    rw [hl]
    have h7 := congrArg (List.take m) h6
    rw [List.take_take, Nat.min_eq_left hm] at h7
    rw [h7]
    unfold Lib.strCells
    simp
theorem own_of_row {W : World} {base : Nat} {v : Value} {l : List UInt8} (h : W.ownsRow base 5 1 v l.length (Lib.strCells ⟨l.toArray⟩)) : OwnB W base v l := by
  rcases h.2 with ⟨e, hn⟩ | ⟨g, cap, cur, e, h1, h2, h3, h4, h5, h6⟩
  · exact Or.inl ⟨e, List.eq_nil_of_length_eq_zero hn⟩
  · exact Or.inr ⟨g, cap, cur, e, h1, h2, h3, h4, by omega, by simpa using h6⟩
theorem cells_len (l : List UInt8) : (Lib.strCells ⟨l.toArray⟩).length = l.length := by unfold Lib.strCells; simp
theorem cells_app (l : List UInt8) (s : ByteArray) : Lib.strCells ⟨l.toArray⟩ ++ Lib.strCells s = Lib.strCells ⟨(l ++ s.data.toList).toArray⟩ := by
  unfold Lib.strCells; simp
theorem OwnB.append {W : World} {base : Nat} {v : Value} {l : List UInt8} (h : OwnB W base v l) (s : ByteArray) (hb : l.length + s.size ≤ 140737488355328) (hbase : base ≤ W.heap.size) :
    ∃ v' w', (Builtin.append_ #[93, 9] 93 #[v, .string s]).run Try.prog W = .ok v' w' ∧ OwnB w' base v' (l ++ s.data.toList) ∧ W.grownBy w' v.ownBlock := by
  obtain ⟨i, hi⟩ : ∃ i, Try.prog.info? 5 = some i := by
    have : (Try.prog.info? 5).isSome = true := by kernel_rfl
    exact Option.isSome_iff_exists.1 this
  have e1 : (Try.prog.info? 5).map (·.zero) = some (some (.int .u8 0)) := by kernel_rfl
  have e2 : (Try.prog.info? 5).map (·.size) = some 1 := by kernel_rfl
  have e3 : (Try.prog.info? 5).map (·.bytes) = some 1 := by kernel_rfl
  rw [hi] at e1 e2 e3
  simp at e1 e2 e3
  have hsl : s.data.toList.length = s.size := rfl
  have hlen : (l ++ s.data.toList).length = l.length + s.size := by rw [List.length_append, hsl]
  rcases h with ⟨rfl, rfl⟩ | ⟨g, cap, cur, rfl, h1, h2, h3, h4, h5, h6⟩
  · obtain ⟨v', w', r1, r2, r3, _⟩ := Lib.run_append_own_string (P := Try.prog) W base 93 9 93 5 i Try.underlying93 Try.underlying9 hi e1 e2 e3 (.slice none 0 0) 0 [] (World.ownsRow_nil W base _ 1) s (by unfold maxLen; simp at hb; omega) (by simpa using hb) hbase
    refine ⟨v', w', r1, own_of_row ?_, r3⟩
    have e : Lib.strCells ⟨([] ++ s.data.toList).toArray⟩ = [] ++ Lib.strCells s := by unfold Lib.strCells; simp
    rw [e, hlen]
    exact r2
  · by_cases hroom : l.length + s.size ≤ cap
    · have hr := Lib.run_append_room_string (P := Try.prog) W 93 9 93 5 i Try.underlying93 Try.underlying9 hi e2 g l.length cap cur h2 s hroom (by omega)
      refine ⟨_, _, hr, Or.inr ⟨g, cap, _, by rw [hlen], h1, setRow_heap W g cur _ _ _ h2, by rw [hlen]; exact hroom, h4, ?_, ?_⟩, ⟨rfl, rfl, rfl, by simp, fun k _ hk => setRow_other W g k _ (fun e => hk (by simp [Value.ownBlock, e]))⟩⟩
      · simp only [List.size_toArray, List.length_append, List.length_take, List.length_drop, Array.length_toList, Lib.strCells_length]
        omega
      · rw [h6, cells_app, ← cells_len (l ++ s.data.toList)]
        exact List.take_left
    · have holds : ∀ j u, (Lib.strCells ⟨l.toArray⟩)[j]? = some u → W.cell? ((⟨g, 0, none⟩ : Addr).add j) = some u := by
        intro j u hj
        have hjl : j < l.length := by rw [← cells_len l]; exact (List.getElem?_eq_some_iff.1 hj).1
        rw [← h6, List.getElem?_take, if_pos hjl] at hj
        rw [Addr.add_lit, cell_of_row W _ _ _ _ _ h2]
        simpa using hj
      have hr := Lib.run_append_grow_string (P := Try.prog) W 93 9 93 5 i (.int .u8 0) Try.underlying93 Try.underlying9 hi e1 ⟨g, 0, none⟩ l.length cap (Lib.strCells ⟨l.toArray⟩) (by rw [e2, cells_len]; omega) holds s (by omega) (by omega) (by rw [e3]; exact growslice_fits (by omega) (by omega))
      have hge := grownCap_ge W (l.length + s.size) cap 5
      have hcm : grownCap W (l.length + s.size) cap 5 ≤ maxLen := grownCap_le_maxLen W (l.length + s.size) cap 5 (by unfold maxLen; omega)
      refine ⟨_, _, hr, Or.inr ⟨W.heap.size, _, _, by rw [hlen], hbase, heap_alloc_new W.drew _, by rw [hlen]; exact hge, hcm, ?_, ?_⟩, ⟨rfl, rfl, rfl, by simp, fun k hk _ => heap_alloc_old W.drew _ hk⟩⟩
      · have hz1 : (Value.int IntKind.u8 0).cells.size = 1 := rfl
        have hz2 : (⟨l.toArray⟩ : ByteArray).size = l.length := by simp [ByteArray.size]
        simp only [Array.size_append, List.size_toArray, size_zeroCells, hz1, cells_len, Lib.strCells_length]
        omega
      · simp only [Array.toList_append, List.append_assoc]
        rw [← List.append_assoc, cells_app, ← cells_len (l ++ s.data.toList)]
        exact List.take_left
end Go.Proofs.Ytkjlakjihjfjdaa
