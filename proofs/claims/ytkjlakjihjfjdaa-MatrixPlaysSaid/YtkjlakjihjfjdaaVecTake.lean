/- vector.Take: its contract. -/
import Derived.Test.YtkjlakjihjfjdaaVecPut
import Derived.Test.YtkjlakjihjfjdaaVecTick
namespace Go.Proofs.Ytkjlakjihjfjdaa
open Go.RowKit Go.Proofs.YtkjlakjihjfjdaaW.PrintWords Go.Proofs.YtkjlakjihjfjdaaW.PrintLast Go.Proofs.YtkjlakjihjfjdaaW.PrintMore Pk
set_option linter.unusedVariables false
set_option linter.unusedSimpArgs false

/-- So many numbers with which a string begins. -/
def tkN : Nat → List UInt8 → Option (List Int × List UInt8)
  | 0, l => some ([], l)
  | n + 1, l =>
    match tk l 0 0 with
    | none => none
    | some (m, r) => match tkN n r with
      | none => none
      | some (v, q) => some (unzig m :: v, q)
/-- What is taken, behind what was. -/
def fin (f : List Int) : Option (List Int × List UInt8) → Option (List Int × List UInt8)
  | none => none
  | some (v, q) => if mayV (f ++ v) = true then some (f ++ v, q) else none
/-- The vector with which a string begins. -/
def tkV (l : List UInt8) : Option (List Int × List UInt8) := fin [] (tkN 8 l)
def tvV : Option (List Int × List UInt8) → Value
  | none => .tuple #[.agg (vec zero8), .string ⟨#[]⟩, .int .i64 2]
  | some (v, q) => .tuple #[.agg (vec v), .string ⟨q.toArray⟩, .int .i64 0]
theorem fin_none {f : List Int} {n : Nat} {l : List UInt8} (h : tk l 0 0 = none) : fin f (tkN (n + 1) l) = none := by
  show fin f (match tk l 0 0 with | none => none | some (m, r) => match tkN n r with | none => none | some (v, q) => some (unzig m :: v, q)) = none
  rw [h]; rfl
theorem fin_some {f : List Int} {n m : Nat} {l r : List UInt8} (h : tk l 0 0 = some (m, r)) : fin f (tkN (n + 1) l) = fin (f ++ [unzig m]) (tkN n r) := by
  show fin f (match tk l 0 0 with | none => none | some (m, r) => match tkN n r with | none => none | some (v, q) => some (unzig m :: v, q)) = _
  rw [h]
  show fin f (match tkN n r with | none => none | some (v, q) => some (unzig m :: v, q)) = _
  cases tkN n r with
  | none => rfl
  | some p => obtain ⟨v, q⟩ := p; simp [fin]

theorem results_cell_tmp2 {P : Program} {fn : Func} {p q r : Tmp} {ty : TypeId} (h : fn.results = #[.cell p ty, .tmp q, .tmp r]) (tmps : Array Value) (w : World) (g : Nat) (t : TypeId) (cs : Array Value) (fr : Nat × Nat) (d : TypeDesc)
    (hp : tmps.getD p undef = .pointer (some ⟨g, 0, none⟩)) (hg : w.heap[g]? = some (.cells cs t fr))
    (hu : P.underlying ty = some d) (hd : (match d with | .struct _ | .array _ _ => true | _ => false) = true) (hi : (P.info? ty).map (·.size) = some cs.size) :
    (results fn tmps).run P w = .ok (.tuple #[.agg cs, tmps.getD q undef, tmps.getD r undef]) w := by
  have hp' : tmps[p]?.getD undef = .pointer (some ⟨g, 0, none⟩) := by simpa using hp
  simp [results, h, hp', asAddr, run_loadVar_row w g t ty cs fr d hg hu hd hi]

set_option maxHeartbeats 2000000 in
set_option maxRecDepth 100000 in
theorem vec_Take (s0 : ByteArray) (hs0 : s0.size ≤ 140737488355328) (w : World) :
    Calls Try.prog 57 #[.string s0] w fun e w' => e = .returned (tvV (tkV s0.data.toList)) ∧ Below w.heap.size w w' := by
  have H0 := Hd.mk (Holds.start2 w (.cells (vec zero8) 35) (.cells (vec zero8) 35))
  have S0 : Hd ((Try.prog.info? 35).map (·.size) = some (vec zero8).size) := ⟨by rw [vec_size]; exact size_vec⟩
  have hz := zeroVec
  have HS0 := Hd.mk hs0
  clear hs0
  go_enter Try.func57, Try.ntmps57
  go_upto_region 2 with (fail)
  generalize (w.alloc (.cells (vec zero8) 35)).alloc (.cells (vec zero8) 35) = W at *
  go_wp2_with fail
  go_loopg [0, 10] 8 (fun kq v0 v10 w' => ∃ (k : Nat) (s : ByteArray) (d : List Int), k ≤ 8 ∧ v10 = .int .i64 (k : Int) ∧ v0 = .string s ∧ Hd (kq + k = 8) ∧ Hd (s.size ≤ s0.size) ∧ Hd (d.length = 8) ∧ Hd (Holds w [(w.heap.size + 1, .cells (vec d) 35 (0, 0)), (w.heap.size, .cells (vec zero8) 35 (0, 0))] w') ∧ Hd (tkV s0.data.toList = fin (d.take k) (tkN (8 - k) s.data.toList)))
  case atStart => exact ⟨0, s0, zero8, by omega, rfl, rfl, ⟨rfl⟩, ⟨Nat.le_refl _⟩, ⟨rfl⟩, H0, ⟨rfl⟩⟩
  case round =>
    clear H0
    obtain ⟨k, s, d, hk, rfl, rfl, HK, HL, HD, HH, HT⟩ := hrel
    by_cases hlt : k < 8
    · have E1 := pack_TakeInt s (by have := HL.out; have := HS0.out; unfold maxLen; omega)
      cases hT : tk s.data.toList 0 0 with
      | none =>
        have HV : Hd (tkV s0.data.toList = none) := ⟨by rw [HT.out, show 8 - k = (7 - k) + 1 from by omega]; exact fin_none hT⟩
        rw [hT] at E1
        simp only [tiV] at E1
        have H1 := Hd.mk E1
        clear E1 hT HT HL HD HK
        go_wp2_with fail
        refine (H1.out _).mono ?_; rintro e w5 ⟨rfl, h5⟩
        have H5 := Hd.mk (HH.out.call h5)
        clear h5 HH
        go_wp2_with (first | ((with_reducible refine gate_store (t := 35) rfl ?_); refine wpList_store_row rfl _ _ _ rfl w.heap.size (vec zero8) rfl rfl 35 (vec zero8) (H5.out.get 1 rfl) S0.out rfl (vec_one _) ?_))
        exact bodyPost_ret (results_cell_tmp2 (p := 2) (q := 3) (r := 4) rfl _ _ w.heap.size 35 (vec zero8) (0, 0) _ rfl (setRow_heap _ _ _ _ _ _ (H5.out.get 1 rfl)) Try.underlying35 rfl S0.out) rfl ⟨by rw [HV.out]; rfl, below_setRow H5.out.2 (Nat.le_refl _) _⟩
      | some p =>
        obtain ⟨m, r⟩ := p
        have hrl := tk_len _ _ _ _ _ hT
        have hsl : s.data.toList.length = s.size := rfl
        have HL2 : Hd ((⟨r.toArray⟩ : ByteArray).size ≤ s0.size) := ⟨by rw [size_of]; have := HL.out; omega⟩
        have HT2 : Hd (tkV s0.data.toList = fin ((d.set k (unzig m)).take (k + 1)) (tkN (8 - (k + 1)) (⟨r.toArray⟩ : ByteArray).data.toList)) := ⟨by
          have hkd : k < d.length := by rw [HD.out]; exact hlt
          rw [HT.out, show 8 - k = (7 - k) + 1 from by omega, fin_some hT, mk_list, show 8 - (k + 1) = 7 - k from by omega]
          congr 1
          rw [List.take_add_one, List.getElem?_set_self hkd, List.take_set_of_le (by omega)]; rfl⟩
        rw [hT] at E1
        simp only [tiV] at E1
        have H1 := Hd.mk E1
        obtain ⟨z, hz0⟩ : ∃ z, d[k]? = some z := ⟨_, List.getElem?_eq_getElem (by rw [HD.out]; exact hlt)⟩
        have Z0 := Hd.mk (vec_at hz0)
        have HD2 : Hd ((d.set k (unzig m)).length = 8) := ⟨by rw [List.length_set]; exact HD.out⟩
        have HU : Hd ((vec d).setIfInBounds k (.int .i64 (unzig m)) = vec (d.set k (unzig m))) := ⟨vec_set _ _ _⟩
        have hn1 : 0 ≤ (k : Int) := by omega
        have hn2 : (k : Int) < 8 := by omega
        have hwz : IntKind.i64.wrap (unzig m) = unzig m := by
          have := unzig_bd (tk_bd _ _ _ _ _ (by decide) (by decide) hT)
          rw [i64_w]; unfold wrap64; omega
        clear E1 hT HT HL HD hrl hsl hz0
        generalize d.set k (unzig m) = d2 at *
        generalize unzig m = x at *
        generalize (⟨r.toArray⟩ : ByteArray) = s2 at *
        go_wp2_with fail
        refine (H1.out _).mono ?_; rintro e w5 ⟨rfl, h5⟩
        have H5 := Hd.mk (HH.out.call h5)
        clear h5 HH
        have hcx : w5.cell? ⟨w.heap.size + 1, k, none⟩ = some (.int .i64 z) := by rw [cell_of_row _ _ k _ _ _ (H5.out.get 0 rfl)]; exact Z0.out
        have hfz : w5.frozen? ⟨w.heap.size + 1, k, none⟩ = false := frozen_of_row _ _ k _ _ (H5.out.get 0 rfl)
        go_wp2_with fail
        go_roundg (7 - k)
        case measure => have := HK.out; omega
        case rel => exact ⟨k + 1, s2, d2, by omega, by first | rfl | congr 1, rfl, ⟨by have := HK.out; omega⟩, HL2, HD2, ⟨by rw [← HU.out]; exact Holds_cell H5.out k _ (by omega) (by intro p hp; obtain rfl := List.mem_singleton.1 hp; simp)⟩, HT2⟩
    · obtain rfl : k = 8 := by omega
      have hd8 : d.take 8 = d := List.take_of_length_le (by rw [HD.out]; omega)
      have HT3 : Hd (tkV s0.data.toList = if mayV d = true then some (d, s.data.toList) else none) := ⟨by
        rw [HT.out, hd8]
        show (if mayV (d ++ []) = true then some (d ++ [], s.data.toList) else none) = _
        rw [List.append_nil]⟩
      have HM := Hd.mk (vec_May d HD.out)
      have S1 := Hd.mk (show (Try.prog.info? 35).map (·.size) = some (vec d).size by rw [vec_size, HD.out]; exact size_vec)
      have S2 := Hd.mk (show (vec zero8).size = (vec d).size by rw [vec_size, vec_size, HD.out]; rfl)
      clear hd8 HT HL HD HK
      generalize hmm : mayV d = b at *
      clear hmm
      go_wp2_with (first | ((with_reducible refine gate_dst (N := 28) rfl ?_); refine wpList_load_row rfl 35 _ rfl (w.heap.size + 1) rfl 35 (vec d) (0, 0) _ (HH.out.get 0 rfl) Try.underlying35 rfl S1.out ?_))
      refine (HM.out _).mono ?_; rintro e w5 ⟨rfl, h5⟩
      have H5 := Hd.mk (HH.out.call h5)
      clear h5 HH HM
      cases b with
      | true =>
        go_wp2_with (first | ((with_reducible refine gate_dst (N := 32) rfl ?_); refine wpList_load_row rfl 35 _ rfl (w.heap.size + 1) rfl 35 (vec d) (0, 0) _ (H5.out.get 0 rfl) Try.underlying35 rfl S1.out ?_) | ((with_reducible refine gate_store (t := 35) rfl ?_); refine wpList_store_row rfl _ _ _ rfl w.heap.size (vec d) rfl rfl 35 (vec zero8) (H5.out.get 1 rfl) S1.out S2.out (vec_one _) ?_))
        exact bodyPost_ret (results_cell_tmp2 (p := 2) (q := 3) (r := 4) rfl _ _ w.heap.size 35 (vec d) (0, 0) _ rfl (setRow_heap _ _ _ _ _ _ (H5.out.get 1 rfl)) Try.underlying35 rfl S1.out) rfl ⟨by rw [HT3.out]; rfl, below_setRow H5.out.2 (Nat.le_refl _) _⟩
      | false =>
        go_wp2_with (first | ((with_reducible refine gate_store (t := 35) rfl ?_); refine wpList_store_row rfl _ _ _ rfl w.heap.size (vec zero8) rfl rfl 35 (vec zero8) (H5.out.get 1 rfl) S0.out rfl (vec_one _) ?_))
        exact bodyPost_ret (results_cell_tmp2 (p := 2) (q := 3) (r := 4) rfl _ _ w.heap.size 35 (vec zero8) (0, 0) _ rfl (setRow_heap _ _ _ _ _ _ (H5.out.get 1 rfl)) Try.underlying35 rfl S0.out) rfl ⟨by rw [HT3.out]; rfl, below_setRow H5.out.2 (Nat.le_refl _) _⟩
end Go.Proofs.Ytkjlakjihjfjdaa
