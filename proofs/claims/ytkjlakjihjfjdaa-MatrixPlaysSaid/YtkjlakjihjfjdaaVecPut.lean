/- vector.Put: its contract. -/
import Derived.Test.YtkjlakjihjfjdaaVecMay
import Derived.Test.YtkjlakjihjfjdaaPackAll
namespace Go.Proofs.Ytkjlakjihjfjdaa
open Go.RowKit Go.Proofs.YtkjlakjihjfjdaaW.PrintWords Go.Proofs.YtkjlakjihjfjdaaW.PrintLast Go.Proofs.YtkjlakjihjfjdaaW.PrintMore Pk
set_option linter.unusedVariables false
set_option linter.unusedSimpArgs false

/-- A vector's bytes. -/
def putL (v : List Int) : List UInt8 := v.flatMap fun x => numB (zig x)
def putV (v : List Int) : ByteArray := ⟨(putL v).toArray⟩
def Fits64 (v : List Int) : Prop := ∀ x ∈ v, -9223372036854775808 ≤ x ∧ x ≤ 9223372036854775807
theorem putV_more {v : List Int} {k : Nat} {x : Int} (hx : v[k]? = some x) : putV (v.take k) ++ strOfNums (num (zig x)) = putV (v.take (k + 1)) := by
  have h1 : v.take (k + 1) = v.take k ++ [x] := by rw [List.take_add_one, hx]; rfl
  unfold putV putL
  rw [h1, numB_str, mk_append, List.flatMap_append]
  simp
theorem putV_size (v : List Int) (hb : Fits64 v) : (putV v).size ≤ 10 * v.length := by
  unfold putV
  rw [size_of]
  induction v with
  | nil => simp [putL]
  | cons x v ih =>
    have h1 := ih (fun y hy => hb y (List.mem_cons_of_mem _ hy))
    have h2 := num_size (zig_lt (hb x List.mem_cons_self).1 (hb x List.mem_cons_self).2)
    rw [numB_str, size_of] at h2
    have h3 : (putL (x :: v)).length = (numB (zig x)).length + (putL v).length := by simp [putL]
    rw [h3, List.length_cons]; omega

set_option maxHeartbeats 1000000 in
set_option maxRecDepth 100000 in
theorem vec_Put (v : List Int) (hv : v.length = 8) (hb : Fits64 v) (w : World) :
    Calls Try.prog 61 #[.agg (vec v)] w fun e w' => e = .returned (.string (putV v)) ∧ Below w.heap.size w w' := by
  have H0 := Hd.mk (Holds.start1 w (.cells (vec v) 35))
  have HV := Hd.mk hv
  have HB := Hd.mk hb
  have S1 := Hd.mk (show (Try.prog.info? 35).map (·.size) = some (vec v).size by rw [vec_size, hv]; exact size_vec)
  clear hv hb
  go_enter Try.func61, Try.ntmps61
  go_upto_region 1 with (fail)
  generalize w.alloc (.cells (vec v) 35) = W at *
  go_wp2_with (first | ((with_reducible refine gate_load (t := 35) rfl ?_); refine wpList_load_row rfl _ _ rfl w.heap.size rfl 35 (vec v) (0, 0) _ (H0.out.get 0 rfl) Try.underlying35 rfl S1.out ?_))
  go_loopg [3, 7] 8 (fun kq v3 v7 w' => ∃ (k : Nat) (s : ByteArray), k ≤ 8 ∧ v7 = .int .i64 (k : Int) ∧ v3 = .string s ∧ Hd (kq + k = 8) ∧ Hd (Below w.heap.size w w') ∧ Hd (s = putV (v.take k)))
  case atStart => exact ⟨0, ⟨#[]⟩, by omega, rfl, rfl, ⟨rfl⟩, ⟨H0.out.2⟩, ⟨rfl⟩⟩
  case round =>
    clear H0
    obtain ⟨k, s, hk, rfl, rfl, HK, HL, HS⟩ := hrel
    by_cases hlt : k < 8
    · obtain ⟨x, hx⟩ : ∃ x, v[k]? = some x := ⟨_, List.getElem?_eq_getElem (by rw [HV.out]; exact hlt)⟩
      have hix := index_vec HV.out hx
      have hxb := HB.out x (List.mem_of_getElem? hx)
      have H1 := Hd.mk (pack_Int x hxb.1 hxb.2)
      have HM := Hd.mk (putV_more hx)
      rw [← HS.out] at HM
      have z1 := num_size (zig_lt hxb.1 hxb.2)
      have z2 : s.size ≤ 80 := by
        rw [HS.out]
        have := putV_size (v.take k) (fun y hy => HB.out y (List.mem_of_mem_take hy))
        rw [List.length_take] at this; omega
      generalize strOfNums (num (zig x)) = t at *
      have z3 : s.size + t.size ≤ 9223372036854775807 := by omega
      clear hx hxb z1 z2
      go_wp2_with fail
      refine (H1.out _).mono ?_; rintro e w5 ⟨rfl, h5⟩
      have HL5 := Hd.mk (below_step HL.out h5)
      clear h5 HL
      go_wp2_with fail
      go_roundg (7 - k)
      case measure => have := HK.out; omega
      case rel => exact ⟨k + 1, _, by omega, by first | rfl | congr 1, rfl, ⟨by have := HK.out; omega⟩, HL5, HM⟩
    · obtain rfl : k = 8 := by omega
      have HE : Hd (s = putV v) := ⟨by rw [HS.out, List.take_of_length_le (by rw [HV.out]; omega)]⟩
      go_wp2_with fail
      go_ret
      exact ⟨by rw [← HE.out]; rfl, HL.out⟩
end Go.Proofs.Ytkjlakjihjfjdaa
