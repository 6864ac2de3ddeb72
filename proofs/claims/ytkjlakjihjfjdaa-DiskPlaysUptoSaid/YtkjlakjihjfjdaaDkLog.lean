/- disk.Log: its contract. -/
import Derived.Test.YtkjlakjihjfjdaaDkAppend
import Derived.Laws.BytesString
import Derived.Laws.Cells
namespace Go.Proofs.Ytkjlakjihjfjdaa
open Go.RowKit Go.Proofs.YtkjlakjihjfjdaaW.PrintWords Go.Proofs.YtkjlakjihjfjdaaW.PrintLast Go.Proofs.YtkjlakjihjfjdaaW.PrintMore
set_option linter.unusedVariables false
set_option linter.unusedSimpArgs false

theorem push_all : ∀ (l : List UInt8) (s : ByteArray), (l.map fun b => ((b.toNat : Nat) : Int)).foldl (fun r n => r.push (UInt8.ofNat n.toNat)) s = ⟨(s.data.toList ++ l).toArray⟩
  | [], s => by simp
  | b :: l, s => by
    rw [List.map_cons, List.foldl_cons, push_all l]
    simp
theorem conv_log {W : World} {S : Nat → Prop} {A : Option Addr} {cap : Nat} {l : List UInt8} (h : OwnB W S (.slice A l.length cap) l) :
    (convert 93 9 (.slice A l.length cap)).run Try.prog W = .ok (.string ⟨l.toArray⟩) W := by
  rw [run_convert_bytes_string W _ _ 5 A _ _ Try.underlying93 Try.underlying5 Try.underlying9]
  rcases h with ⟨e, rfl⟩ | ⟨g, cap2, cur, e, h1, h2, h3, h4, h5, h6⟩
  · cases e
    first | rfl | (simp [Conv.bytesToString]; done) | kernel_rfl
  · cases e
    have hl := run_loadCells_list (P := Try.prog) (w := W) ⟨g, 0, none⟩ (Lib.strCells ⟨l.toArray⟩) (by
      intro j u hj
      have hjl : j < l.length := by rw [← cells_len l]; exact (List.getElem?_eq_some_iff.1 hj).1
      rw [← h6, List.getElem?_take, if_pos hjl] at hj
      rw [Addr.add_lit, cell_of_row W _ _ _ _ _ h2]
      simpa using hj)
    have e1 : Lib.strCells ⟨l.toArray⟩ = (l.map fun b => ((b.toNat : Nat) : Int)).map (Value.int .u8) := by unfold Lib.strCells; simp
    rw [run_bytesToString W ⟨g, 0, none⟩ l.length cap (l.map fun b => ((b.toNat : Nat) : Int)) (by rw [← e1]; simpa [Lib.strCells] using hl), push_all]
    simp
theorem disk_Log_ {S : Nat → Prop} {w0 : World} {b : Nat} {snap : ByteArray} {l : List UInt8} {synced room : Int} {w : World} (h : DiskOn S w0 b snap l synced room w) :
    Calls Try.prog 18 #[.pointer (some ⟨b, 0, none⟩)] w fun e w' => e = .returned (.string ⟨l.toArray⟩) ∧ Below w.heap.size w w' := by
  obtain ⟨v, k1, k2, k3, k4, k5, k6⟩ := h
  obtain ⟨A, cap, rfl⟩ := k2.slice
  have c1 : w.cell? ⟨b, 1, none⟩ = some (.slice A l.length cap) := by rw [cell_of_row _ _ 1 _ _ _ k1]; rfl
  have hc := conv_log k2
  clear k1 k2 k3 k4 k5 k6
  go_enter Try.func18, Try.ntmps18
  go_wp2_with fail
  go_ret
  exact ⟨rfl, by first | exact Below.refl _ _ | exact (Below.refl _ _).drew | exact below_drewN _ _⟩
theorem disk_Log {S : Nat → Prop} {w0 : World} {b : Nat} {snap : ByteArray} {l : List UInt8} {synced room : Int} {w : World} (h : DiskOn S w0 b snap l synced room w) :
    Calls Try.prog 18 #[.pointer (some ⟨b, 0, none⟩)] w fun e w' => e = .returned (.string ⟨l.toArray⟩) ∧ DiskOn S w0 b snap l synced room w' := (disk_Log_ h).mono (fun e w' he => ⟨he.1, h.step he.2⟩)
end Go.Proofs.Ytkjlakjihjfjdaa
