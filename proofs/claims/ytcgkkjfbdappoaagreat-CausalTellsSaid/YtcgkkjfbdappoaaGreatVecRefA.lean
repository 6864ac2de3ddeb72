/- Texts that belong together, in one. -/
import Derived.Test.YtcgkkjfbdappoaaGreatVecBll
import Derived.Test.YtcgkkjfbdappoaaGreatPackAll
import Derived.Test.YtcgkkjfbdappoaaGreatVecAll
import Derived.Test.YtcgkkjfbdappoaaGreatOpenAll
import Derived.Test.YtcgkkjfbdappoaaGreatKeepAll
import Derived.Test.YtcgkkjfbdappoaaGreatRefAll
/- vector.Put: its contract. -/
namespace Go.Proofs.YtcgkkjfbdappoaaGreat
open Go.RowKit Go.Proofs.YtcgkkjfbdappoaaGreatW.PrintWords Go.Proofs.YtcgkkjfbdappoaaGreatW.PrintLast Go.Proofs.YtcgkkjfbdappoaaGreatW.PrintMore Pk
set_option linter.unusedVariables false
set_option linter.unusedSimpArgs false

/-- A vector's bytes. -/
def putL (v : List Int) : List UInt8 := v.flatMap fun x => numB (zig x)
def putV (v : List Int) : ByteArray := ⟨(putL v).toArray⟩
def Fits64 (v : List Int) : Prop := ∀ x ∈ v, -9223372036854775808 ≤ x ∧ x ≤ 9223372036854775807
theorem putV_more {v : List Int} {k : Nat} {x : Int} (hx : v[k]? = some x) : putV (v.take k) ++ strOfNums (num (zig x)) = putV (v.take (k + 1)) := by
  have h1 : v.take (k + 1) = v.take k ++ [x] := by rw [List.take_add_one, hx]; rfl
  unfold putV putL
  rw [h1, numB_str, mk_append, List.flatMap_append]
  simp
theorem putV_size (v : List Int) (hb : Fits64 v) : (putV v).size ≤ 10 * v.length := by
  unfold putV
  rw [size_of]
  induction v with
  | nil => simp [putL]
  | cons x v ih =>
    have h1 := ih (fun y hy => hb y (List.mem_cons_of_mem _ hy))
    have h2 := num_size (zig_lt (hb x List.mem_cons_self).1 (hb x List.mem_cons_self).2)
    rw [numB_str, size_of] at h2
    have h3 : (putL (x :: v)).length = (numB (zig x)).length + (putL v).length := by simp [putL]
    rw [h3, List.length_cons]; omega

set_option maxHeartbeats 1000000 in
set_option maxRecDepth 100000 in
theorem vec_Put (v : List Int) (hv : v.length = 8) (hb : Fits64 v) (w : World) :
    Calls Tryz.prog 49 #[.agg (vec v)] w fun e w' => e = .returned (.string (putV v)) ∧ Below w.heap.size w w' := by
  have H0 := Hd.mk (Holds.start1 w (.cells (vec v) 32))
  have HV := Hd.mk hv
  have HB := Hd.mk hb
  have S1 := Hd.mk (show (Tryz.prog.info? 32).map (·.size) = some (vec v).size by rw [vec_size, hv]; exact size_vec)
  clear hv hb
  go_enter Tryz.func49, Tryz.ntmps49
  go_upto_region 1 with (fail)
  generalize w.alloc (.cells (vec v) 32) = W at *
  go_wp2_with (first | ((with_reducible refine gate_load (t := 32) rfl ?_); refine wpList_load_row rfl _ _ rfl w.heap.size rfl 32 (vec v) (0, 0) _ (H0.out.get 0 rfl) Tryz.underlying32 rfl S1.out ?_))
  go_loopg [3, 7] 8 (fun kq v3 v7 w' => ∃ (k : Nat) (s : ByteArray), k ≤ 8 ∧ v7 = .int .i64 (k : Int) ∧ v3 = .string s ∧ Hd (kq + k = 8) ∧ Hd (Below w.heap.size w w') ∧ Hd (s = putV (v.take k)))
  case atStart => exact ⟨0, ⟨#[]⟩, by omega, rfl, rfl, ⟨rfl⟩, ⟨H0.out.2⟩, ⟨rfl⟩⟩
  case round =>
    clear H0
    obtain ⟨k, s, hk, rfl, rfl, HK, HL, HS⟩ := hrel
    by_cases hlt : k < 8
    · obtain ⟨x, hx⟩ : ∃ x, v[k]? = some x := ⟨_, List.getElem?_eq_getElem (by rw [HV.out]; exact hlt)⟩
      have hix := index_vec HV.out hx
      have hxb := HB.out x (List.mem_of_getElem? hx)
      have H1 := Hd.mk (pack_Int x hxb.1 hxb.2)
      have HM := Hd.mk (putV_more hx)
      rw [← HS.out] at HM
      have z1 := num_size (zig_lt hxb.1 hxb.2)
      have z2 : s.size ≤ 80 := by
        rw [HS.out]
        have := putV_size (v.take k) (fun y hy => HB.out y (List.mem_of_mem_take hy))
        rw [List.length_take] at this; omega
      generalize strOfNums (num (zig x)) = t at *
      have z3 : s.size + t.size ≤ 9223372036854775807 := by omega
      clear hx hxb z1 z2
      go_wp2_with fail
      refine (H1.out _).mono ?_; rintro e w5 ⟨rfl, h5⟩
      have HL5 := Hd.mk (below_step HL.out h5)
      clear h5 HL
      go_wp2_with fail
      go_roundg (7 - k)
      case measure => have := HK.out; omega
      case rel => exact ⟨k + 1, _, by omega, by first | rfl | congr 1, rfl, ⟨by have := HK.out; omega⟩, HL5, HM⟩
    · obtain rfl : k = 8 := by omega
      have HE : Hd (s = putV v) := ⟨by rw [HS.out, List.take_of_length_le (by rw [HV.out]; omega)]⟩
      go_wp2_with fail
      go_ret
      exact ⟨by rw [← HE.out]; rfl, HL.out⟩
end Go.Proofs.YtcgkkjfbdappoaaGreat

/- vector.Take: its contract. -/
namespace Go.Proofs.YtcgkkjfbdappoaaGreat
open Go.RowKit Go.Proofs.YtcgkkjfbdappoaaGreatW.PrintWords Go.Proofs.YtcgkkjfbdappoaaGreatW.PrintLast Go.Proofs.YtcgkkjfbdappoaaGreatW.PrintMore Pk
set_option linter.unusedVariables false
set_option linter.unusedSimpArgs false

/-- So many numbers with which a string begins. -/
def tkN : Nat → List UInt8 → Option (List Int × List UInt8)
  | 0, l => some ([], l)
  | n + 1, l =>
    match tk l 0 0 with
    | none => none
    | some (m, r) => match tkN n r with
      | none => none
      | some (v, q) => some (unzig m :: v, q)
/-- What is taken, behind what was. -/
def fin (f : List Int) : Option (List Int × List UInt8) → Option (List Int × List UInt8)
  | none => none
  | some (v, q) => if mayV (f ++ v) = true then some (f ++ v, q) else none
/-- The vector with which a string begins. -/
def tkV (l : List UInt8) : Option (List Int × List UInt8) := fin [] (tkN 8 l)
def tvV : Option (List Int × List UInt8) → Value
  | none => .tuple #[.agg (vec zero8), .string ⟨#[]⟩, .int .i64 2]
  | some (v, q) => .tuple #[.agg (vec v), .string ⟨q.toArray⟩, .int .i64 0]
theorem fin_none {f : List Int} {n : Nat} {l : List UInt8} (h : tk l 0 0 = none) : fin f (tkN (n + 1) l) = none := by
  show fin f (match tk l 0 0 with | none => none | some (m, r) => match tkN n r with | none => none | some (v, q) => some (unzig m :: v, q)) = none
  rw [h]; rfl
theorem fin_some {f : List Int} {n m : Nat} {l r : List UInt8} (h : tk l 0 0 = some (m, r)) : fin f (tkN (n + 1) l) = fin (f ++ [unzig m]) (tkN n r) := by
  show fin f (match tk l 0 0 with | none => none | some (m, r) => match tkN n r with | none => none | some (v, q) => some (unzig m :: v, q)) = _
  rw [h]
  show fin f (match tkN n r with | none => none | some (v, q) => some (unzig m :: v, q)) = _
  cases tkN n r with
  | none => rfl
  | some p => obtain ⟨v, q⟩ := p; simp [fin]

theorem results_cell_tmp2 {P : Program} {fn : Func} {p q r : Tmp} {ty : TypeId} (h : fn.results = #[.cell p ty, .tmp q, .tmp r]) (tmps : Array Value) (w : World) (g : Nat) (t : TypeId) (cs : Array Value) (fr : Nat × Nat) (d : TypeDesc)
    (hp : tmps.getD p undef = .pointer (some ⟨g, 0, none⟩)) (hg : w.heap[g]? = some (.cells cs t fr))
    (hu : P.underlying ty = some d) (hd : (match d with | .struct _ | .array _ _ => true | _ => false) = true) (hi : (P.info? ty).map (·.size) = some cs.size) :
    (results fn tmps).run P w = .ok (.tuple #[.agg cs, tmps.getD q undef, tmps.getD r undef]) w := by
  have hp' : tmps[p]?.getD undef = .pointer (some ⟨g, 0, none⟩) := by simpa using hp
  simp [results, h, hp', asAddr, run_loadVar_row w g t ty cs fr d hg hu hd hi]

set_option maxHeartbeats 2000000 in
set_option maxRecDepth 100000 in
theorem vec_Take (s0 : ByteArray) (hs0 : s0.size ≤ 140737488355328) (w : World) :
    Calls Tryz.prog 42 #[.string s0] w fun e w' => e = .returned (tvV (tkV s0.data.toList)) ∧ Below w.heap.size w w' := by
  have H0 := Hd.mk (Holds.start2 w (.cells (vec zero8) 32) (.cells (vec zero8) 32))
  have S0 : Hd ((Tryz.prog.info? 32).map (·.size) = some (vec zero8).size) := ⟨by rw [vec_size]; exact size_vec⟩
  have hz := zeroVec
  have HS0 := Hd.mk hs0
  clear hs0
  go_enter Tryz.func42, Tryz.ntmps42
  go_upto_region 2 with (fail)
  generalize (w.alloc (.cells (vec zero8) 32)).alloc (.cells (vec zero8) 32) = W at *
  go_wp2_with fail
  go_loopg [0, 10] 8 (fun kq v0 v10 w' => ∃ (k : Nat) (s : ByteArray) (d : List Int), k ≤ 8 ∧ v10 = .int .i64 (k : Int) ∧ v0 = .string s ∧ Hd (kq + k = 8) ∧ Hd (s.size ≤ s0.size) ∧ Hd (d.length = 8) ∧ Hd (Holds w [(w.heap.size + 1, .cells (vec d) 32 (0, 0)), (w.heap.size, .cells (vec zero8) 32 (0, 0))] w') ∧ Hd (tkV s0.data.toList = fin (d.take k) (tkN (8 - k) s.data.toList)))
  case atStart => exact ⟨0, s0, zero8, by omega, rfl, rfl, ⟨rfl⟩, ⟨Nat.le_refl _⟩, ⟨rfl⟩, H0, ⟨rfl⟩⟩
  case round =>
    clear H0
    obtain ⟨k, s, d, hk, rfl, rfl, HK, HL, HD, HH, HT⟩ := hrel
    by_cases hlt : k < 8
    · have E1 := pack_TakeInt s (by have := HL.out; have := HS0.out; unfold maxLen; omega)
      cases hT : tk s.data.toList 0 0 with
      | none =>
        have HV : Hd (tkV s0.data.toList = none) := ⟨by rw [HT.out, show 8 - k = (7 - k) + 1 from by omega]; exact fin_none hT⟩
        rw [hT] at E1
        simp only [tiV] at E1
        have H1 := Hd.mk E1
        clear E1 hT HT HL HD HK
        go_wp2_with fail
        refine (H1.out _).mono ?_; rintro e w5 ⟨rfl, h5⟩
        have H5 := Hd.mk (HH.out.call h5)
        clear h5 HH
        go_wp2_with (first | ((with_reducible refine gate_store (t := 32) rfl ?_); refine wpList_store_row rfl _ _ _ rfl w.heap.size (vec zero8) rfl rfl 32 (vec zero8) (H5.out.get 1 rfl) S0.out rfl (vec_one _) ?_))
        exact bodyPost_ret (results_cell_tmp2 (p := 2) (q := 3) (r := 4) rfl _ _ w.heap.size 32 (vec zero8) (0, 0) _ rfl (setRow_heap _ _ _ _ _ _ (H5.out.get 1 rfl)) Tryz.underlying32 rfl S0.out) rfl ⟨by rw [HV.out]; rfl, below_setRow H5.out.2 (Nat.le_refl _) _⟩
      | some p =>
        obtain ⟨m, r⟩ := p
        have hrl := tk_len _ _ _ _ _ hT
        have hsl : s.data.toList.length = s.size := rfl
        have HL2 : Hd ((⟨r.toArray⟩ : ByteArray).size ≤ s0.size) := ⟨by rw [size_of]; have := HL.out; omega⟩
        have HT2 : Hd (tkV s0.data.toList = fin ((d.set k (unzig m)).take (k + 1)) (tkN (8 - (k + 1)) (⟨r.toArray⟩ : ByteArray).data.toList)) := ⟨by
          have hkd : k < d.length := by rw [HD.out]; exact hlt
          rw [HT.out, show 8 - k = (7 - k) + 1 from by omega, fin_some hT, mk_list, show 8 - (k + 1) = 7 - k from by omega]
          congr 1
          rw [List.take_add_one, List.getElem?_set_self hkd, List.take_set_of_le (by omega)]; rfl⟩
        rw [hT] at E1
        simp only [tiV] at E1
        have H1 := Hd.mk E1
        obtain ⟨z, hz0⟩ : ∃ z, d[k]? = some z := ⟨_, List.getElem?_eq_getElem (by rw [HD.out]; exact hlt)⟩
        have Z0 := Hd.mk (vec_at hz0)
        have HD2 : Hd ((d.set k (unzig m)).length = 8) := ⟨by rw [List.length_set]; exact HD.out⟩
        have HU : Hd ((vec d).setIfInBounds k (.int .i64 (unzig m)) = vec (d.set k (unzig m))) := ⟨vec_set _ _ _⟩
        have hn1 : 0 ≤ (k : Int) := by omega
        have hn2 : (k : Int) < 8 := by omega
        have hwz : IntKind.i64.wrap (unzig m) = unzig m := by
          have := unzig_bd (tk_bd _ _ _ _ _ (by decide) (by decide) hT)
          rw [i64_w]; unfold wrap64; omega
        clear E1 hT HT HL HD hrl hsl hz0
        generalize d.set k (unzig m) = d2 at *
        generalize unzig m = x at *
        generalize (⟨r.toArray⟩ : ByteArray) = s2 at *
        go_wp2_with fail
        refine (H1.out _).mono ?_; rintro e w5 ⟨rfl, h5⟩
        have H5 := Hd.mk (HH.out.call h5)
        clear h5 HH
        have hcx : w5.cell? ⟨w.heap.size + 1, k, none⟩ = some (.int .i64 z) := by rw [cell_of_row _ _ k _ _ _ (H5.out.get 0 rfl)]; exact Z0.out
        have hfz : w5.frozen? ⟨w.heap.size + 1, k, none⟩ = false := frozen_of_row _ _ k _ _ (H5.out.get 0 rfl)
        go_wp2_with fail
        go_roundg (7 - k)
        case measure => have := HK.out; omega
        case rel => exact ⟨k + 1, s2, d2, by omega, by first | rfl | congr 1, rfl, ⟨by have := HK.out; omega⟩, HL2, HD2, ⟨by rw [← HU.out]; exact Holds_cell H5.out k _ (by omega) (by intro p hp; obtain rfl := List.mem_singleton.1 hp; simp)⟩, HT2⟩
    · obtain rfl : k = 8 := by omega
      have hd8 : d.take 8 = d := List.take_of_length_le (by rw [HD.out]; omega)
      have HT3 : Hd (tkV s0.data.toList = if mayV d = true then some (d, s.data.toList) else none) := ⟨by
        rw [HT.out, hd8]
        show (if mayV (d ++ []) = true then some (d ++ [], s.data.toList) else none) = _
        rw [List.append_nil]⟩
      have HM := Hd.mk (vec_May d HD.out)
      have S1 := Hd.mk (show (Tryz.prog.info? 32).map (·.size) = some (vec d).size by rw [vec_size, HD.out]; exact size_vec)
      have S2 := Hd.mk (show (vec zero8).size = (vec d).size by rw [vec_size, vec_size, HD.out]; rfl)
      clear hd8 HT HL HD HK
      generalize hmm : mayV d = b at *
      clear hmm
      go_wp2_with (first | ((with_reducible refine gate_dst (N := 28) rfl ?_); refine wpList_load_row rfl 32 _ rfl (w.heap.size + 1) rfl 32 (vec d) (0, 0) _ (HH.out.get 0 rfl) Tryz.underlying32 rfl S1.out ?_))
      refine (HM.out _).mono ?_; rintro e w5 ⟨rfl, h5⟩
      have H5 := Hd.mk (HH.out.call h5)
      clear h5 HH HM
      cases b with
      | true =>
        go_wp2_with (first | ((with_reducible refine gate_dst (N := 32) rfl ?_); refine wpList_load_row rfl 32 _ rfl (w.heap.size + 1) rfl 32 (vec d) (0, 0) _ (H5.out.get 0 rfl) Tryz.underlying32 rfl S1.out ?_) | ((with_reducible refine gate_store (t := 32) rfl ?_); refine wpList_store_row rfl _ _ _ rfl w.heap.size (vec d) rfl rfl 32 (vec zero8) (H5.out.get 1 rfl) S1.out S2.out (vec_one _) ?_))
        exact bodyPost_ret (results_cell_tmp2 (p := 2) (q := 3) (r := 4) rfl _ _ w.heap.size 32 (vec d) (0, 0) _ rfl (setRow_heap _ _ _ _ _ _ (H5.out.get 1 rfl)) Tryz.underlying32 rfl S1.out) rfl ⟨by rw [HT3.out]; rfl, below_setRow H5.out.2 (Nat.le_refl _) _⟩
      | false =>
        go_wp2_with (first | ((with_reducible refine gate_store (t := 32) rfl ?_); refine wpList_store_row rfl _ _ _ rfl w.heap.size (vec zero8) rfl rfl 32 (vec zero8) (H5.out.get 1 rfl) S0.out rfl (vec_one _) ?_))
        exact bodyPost_ret (results_cell_tmp2 (p := 2) (q := 3) (r := 4) rfl _ _ w.heap.size 32 (vec zero8) (0, 0) _ rfl (setRow_heap _ _ _ _ _ _ (H5.out.get 1 rfl)) Tryz.underlying32 rfl S0.out) rfl ⟨by rw [HT3.out]; rfl, below_setRow H5.out.2 (Nat.le_refl _) _⟩
end Go.Proofs.YtcgkkjfbdappoaaGreat

/- What a vector was put as is taken; what is taken has the very bytes. -/
namespace Go.Proofs.YtcgkkjfbdappoaaGreat
open Go.RowKit Go.Proofs.YtcgkkjfbdappoaaGreatW.PrintWords Pk
set_option linter.unusedVariables false
set_option linter.unusedSimpArgs false

theorem tkN_put : ∀ (v : List Int) (hb : Fits64 v) (t : List UInt8), tkN v.length (putL v ++ t) = some (v, t)
  | [], _, t => rfl
  | x :: v, hb, t => by
    have hx := hb x List.mem_cons_self
    have ih := tkN_put v (fun y hy => hb y (List.mem_cons_of_mem _ hy)) t
    have e : putL (x :: v) ++ t = numB (zig x) ++ (putL v ++ t) := by simp [putL]
    rw [e]
    show (match tk (numB (zig x) ++ (putL v ++ t)) 0 0 with | none => none | some (m, r) => match tkN v.length r with | none => none | some (v, q) => some (unzig m :: v, q)) = _
    rw [tk_back (zig_lt hx.1 hx.2)]
    show (match tkN v.length (putL v ++ t) with | none => none | some (v, q) => some (unzig (zig x) :: v, q)) = _
    rw [ih, unzig_zig]
theorem tkV_put {v : List Int} (hv : v.length = 8) (hb : Fits64 v) (s : ByteArray) : tkV (putV v ++ s).data.toList = if mayV v = true then some (v, s.data.toList) else none := by
  have e : (putV v ++ s).data.toList = putL v ++ s.data.toList := by unfold putV; rw [append_list]
  have h := tkN_put v hb s.data.toList
  rw [hv] at h
  unfold tkV
  rw [e, h]; rfl
theorem tkN_very : ∀ (n : Nat) (l : List UInt8) (v : List Int) (q : List UInt8), tkN n l = some (v, q) → v.length = n ∧ Fits64 v ∧ putL v ++ q = l ∧ q.length ≤ l.length
  | 0, l, v, q, h => by
    simp only [tkN, Option.some.injEq, Prod.mk.injEq] at h
    obtain ⟨rfl, rfl⟩ := h
    exact ⟨rfl, fun x hx => by simp at hx, rfl, Nat.le_refl _⟩
  | n + 1, l, v, q, h => by
    change (match tk l 0 0 with | none => none | some (m, r) => match tkN n r with | none => none | some (v, q) => some (unzig m :: v, q)) = _ at h
    cases hT : tk l 0 0 with
    | none => rw [hT] at h; simp at h
    | some p =>
      obtain ⟨m, r⟩ := p
      rw [hT] at h
      change (match tkN n r with | none => none | some (v, q) => some (unzig m :: v, q)) = _ at h
      cases hR : tkN n r with
      | none => rw [hR] at h; simp at h
      | some p2 =>
        obtain ⟨v2, q2⟩ := p2
        rw [hR] at h
        simp only [Option.some.injEq, Prod.mk.injEq] at h
        obtain ⟨rfl, rfl⟩ := h
        obtain ⟨h1, h2, h3, h4⟩ := tkN_very n r v2 q2 hR
        have b1 := tk_bytes hT
        have l1 := tk_len _ _ _ _ _ hT
        refine ⟨by simp [h1], ?_, ?_, by omega⟩
        · intro x hx
          rcases List.mem_cons.1 hx with rfl | hx
          · exact unzig_bd (tk_bd _ _ _ _ _ (by decide) (by decide) hT)
          · exact h2 x hx
        · have e : putL (unzig m :: v2) ++ q2 = numB (zig (unzig m)) ++ (putL v2 ++ q2) := by simp [putL]
          rw [e, zig_unzig, h3, ← b1]
theorem tkV_very {s : ByteArray} {v : List Int} {q : List UInt8} (h : tkV s.data.toList = some (v, q)) : v.length = 8 ∧ Fits64 v ∧ mayV v = true ∧ putV v ++ ⟨q.toArray⟩ = s ∧ q.length ≤ s.size := by
  unfold tkV at h
  cases hT : tkN 8 s.data.toList with
  | none => rw [hT] at h; simp [fin] at h
  | some p =>
    obtain ⟨v2, q2⟩ := p
    rw [hT] at h
    change (if mayV ([] ++ v2) = true then some ([] ++ v2, q2) else none) = _ at h
    rw [List.nil_append] at h
    split at h
    · rename_i hm
      simp only [Option.some.injEq, Prod.mk.injEq] at h
      obtain ⟨rfl, rfl⟩ := h
      obtain ⟨h1, h2, h3, h4⟩ := tkN_very 8 _ _ _ hT
      refine ⟨h1, h2, hm, ?_, h4⟩
      unfold putV
      rw [mk_append, h3]
    · simp at h
end Go.Proofs.YtcgkkjfbdappoaaGreat

/- Vectors: what is joined, and met, in plain Lean. -/
namespace Go.Proofs.YtcgkkjfbdappoaaGreat
open Go.RowKit Go.Proofs.YtcgkkjfbdappoaaGreatW.PrintWords
set_option linter.unusedVariables false
set_option linter.unusedSimpArgs false

theorem bothL_at (f : Int → Int → Int) (a b : List Int) (i : Nat) {x y : Int} (hx : a[i]? = some x) (hy : b[i]? = some y) : (bothL f a b)[i]? = some (f x y) := by
  simp [bothL, List.getElem?_zipWith, hx, hy]
/-- Number by number. -/
def leL (a b : List Int) : Prop := ∀ (i : Nat) (x y : Int), a[i]? = some x → b[i]? = some y → x ≤ y
theorem at8 {a : List Int} (ha : a.length = 8) {i : Nat} (hi : i < 8) : ∃ x, a[i]? = some x := ⟨_, List.getElem?_eq_getElem (by omega)⟩
theorem lt8 {a : List Int} (ha : a.length = 8) {i : Nat} {x : Int} (h : a[i]? = some x) : i < 8 := by
  have := (List.getElem?_eq_some_iff.1 h).1; omega
theorem ext8 {a b : List Int} (ha : a.length = 8) (hb : b.length = 8) (h : ∀ (i : Nat) (x y : Int), a[i]? = some x → b[i]? = some y → x = y) : a = b := by
  apply List.ext_getElem?
  intro i
  by_cases hi : i < 8
  · obtain ⟨x, hx⟩ := at8 ha hi
    obtain ⟨y, hy⟩ := at8 hb hi
    rw [hx, hy, h i x y hx hy]
  · rw [List.getElem?_eq_none (by omega), List.getElem?_eq_none (by omega)]
theorem mx_def (x y : Int) : mx x y = max x y := by
  unfold mx; rcases Int.lt_or_le x y with h | h
  · rw [if_pos h]; omega
  · rw [if_neg (by omega)]; omega
theorem mn_def (x y : Int) : mn x y = min x y := by
  unfold mn; rcases Int.lt_or_le y x with h | h
  · rw [if_pos h]; omega
  · rw [if_neg (by omega)]; omega
theorem covL_iff {a b : List Int} (ha : a.length = 8) (hb : b.length = 8) : covL a b = true ↔ leL b a := by
  unfold covL eqV
  rw [decide_eq_true_eq]
  constructor
  · intro h i x y hx hy
    have h1 := bothL_at mx a b i hy hx
    rw [show bothL mx a b = a from h, hy] at h1
    have := Option.some.inj h1
    rw [mx_def] at this; omega
  · intro h
    refine ext8 (bothL_len ha hb) ha fun i x y hx hy => ?_
    obtain ⟨z, hz⟩ := at8 hb (lt8 ha hy)
    have h1 := bothL_at mx a b i hy hz
    rw [show (bothL mx a b)[i]? = some x from hx] at h1
    have h2 := Option.some.inj h1
    have h3 := h i z y hz hy
    rw [mx_def] at h2; omega
section
variable {a b c : List Int} (ha : a.length = 8) (hb : b.length = 8) (hc : c.length = 8)
include ha hb
theorem join_len : (joinL a b).length = 8 := bothL_len ha hb
theorem meet_len : (meetL a b).length = 8 := bothL_len ha hb
theorem join_comm : joinL a b = joinL b a := by
  refine ext8 (bothL_len ha hb) (bothL_len hb ha) fun i x y hx hy => ?_
  obtain ⟨p, hp⟩ := at8 ha (lt8 (bothL_len ha hb) hx); obtain ⟨q, hq⟩ := at8 hb (lt8 (bothL_len ha hb) hx)
  have h1 := (bothL_at mx a b i hp hq).symm.trans hx; have h2 := (bothL_at mx b a i hq hp).symm.trans hy
  simp only [Option.some.injEq, mx_def] at h1 h2; omega
theorem meet_comm : meetL a b = meetL b a := by
  refine ext8 (bothL_len ha hb) (bothL_len hb ha) fun i x y hx hy => ?_
  obtain ⟨p, hp⟩ := at8 ha (lt8 (bothL_len ha hb) hx); obtain ⟨q, hq⟩ := at8 hb (lt8 (bothL_len ha hb) hx)
  have h1 := (bothL_at mn a b i hp hq).symm.trans hx; have h2 := (bothL_at mn b a i hq hp).symm.trans hy
  simp only [Option.some.injEq, mn_def] at h1 h2; omega
theorem join_meet : joinL a (meetL a b) = a := by
  refine ext8 (bothL_len ha (bothL_len ha hb)) ha fun i x y hx hy => ?_
  obtain ⟨q, hq⟩ := at8 hb (lt8 ha hy)
  have h1 := (bothL_at mx a (meetL a b) i hy (bothL_at mn a b i hy hq)).symm.trans hx
  simp only [Option.some.injEq, mx_def, mn_def] at h1; omega
theorem meet_join : meetL a (joinL a b) = a := by
  refine ext8 (bothL_len ha (bothL_len ha hb)) ha fun i x y hx hy => ?_
  obtain ⟨q, hq⟩ := at8 hb (lt8 ha hy)
  have h1 := (bothL_at mn a (joinL a b) i hy (bothL_at mx a b i hy hq)).symm.trans hx
  simp only [Option.some.injEq, mx_def, mn_def] at h1; omega
omit hb in
theorem join_self : joinL a a = a := by
  refine ext8 (bothL_len ha ha) ha fun i x y hx hy => ?_
  have h1 := (bothL_at mx a a i hy hy).symm.trans hx
  simp only [Option.some.injEq, mx_def] at h1; omega
omit hb in
theorem meet_self : meetL a a = a := by
  refine ext8 (bothL_len ha ha) ha fun i x y hx hy => ?_
  have h1 := (bothL_at mn a a i hy hy).symm.trans hx
  simp only [Option.some.injEq, mn_def] at h1; omega
theorem cov_join_left : covL (joinL a b) a = true := by
  refine (covL_iff (bothL_len ha hb) ha).2 fun i x y hx hy => ?_
  obtain ⟨q, hq⟩ := at8 hb (lt8 ha hx)
  have h1 := (bothL_at mx a b i hx hq).symm.trans hy
  simp only [Option.some.injEq, mx_def] at h1; omega
theorem cov_join_right : covL (joinL a b) b = true := by
  refine (covL_iff (bothL_len ha hb) hb).2 fun i x y hx hy => ?_
  obtain ⟨q, hq⟩ := at8 ha (lt8 hb hx)
  have h1 := (bothL_at mx a b i hq hx).symm.trans hy
  simp only [Option.some.injEq, mx_def] at h1; omega
theorem cov_meet_left : covL a (meetL a b) = true := by
  refine (covL_iff ha (bothL_len ha hb)).2 fun i x y hx hy => ?_
  obtain ⟨q, hq⟩ := at8 hb (lt8 ha hy)
  have h1 := (bothL_at mn a b i hy hq).symm.trans hx
  simp only [Option.some.injEq, mn_def] at h1; omega
theorem cov_meet_right : covL b (meetL a b) = true := by
  refine (covL_iff hb (bothL_len ha hb)).2 fun i x y hx hy => ?_
  obtain ⟨q, hq⟩ := at8 ha (lt8 hb hy)
  have h1 := (bothL_at mn a b i hq hy).symm.trans hx
  simp only [Option.some.injEq, mn_def] at h1; omega
theorem cov_both : (covL a b && covL b a) = eqV a b := by
  rw [Bool.eq_iff_iff, Bool.and_eq_true, covL_iff ha hb, covL_iff hb ha]
  unfold eqV
  rw [decide_eq_true_eq]
  constructor
  · rintro ⟨h1, h2⟩
    refine ext8 ha hb fun i x y hx hy => ?_
    have := h1 i y x hy hx; have := h2 i x y hx hy; omega
  · rintro rfl
    constructor <;> intro i x y hx hy <;> (rw [hx] at hy; have := Option.some.inj hy; omega)
include hc
theorem cov_of_join : covL c (joinL a b) = (covL c a && covL c b) := by
  rw [Bool.eq_iff_iff, Bool.and_eq_true, covL_iff hc (join_len ha hb), covL_iff hc ha, covL_iff hc hb]
  constructor
  · intro h
    constructor
    · intro i x y hx hy
      obtain ⟨q, hq⟩ := at8 hb (lt8 ha hx)
      have := h i _ y (bothL_at mx a b i hx hq) hy
      rw [mx_def] at this; omega
    · intro i x y hx hy
      obtain ⟨q, hq⟩ := at8 ha (lt8 hb hx)
      have := h i _ y (bothL_at mx a b i hq hx) hy
      rw [mx_def] at this; omega
  · rintro ⟨h1, h2⟩ i x y hx hy
    obtain ⟨p, hp⟩ := at8 ha (lt8 hc hy); obtain ⟨q, hq⟩ := at8 hb (lt8 hc hy)
    have h3 := (bothL_at mx a b i hp hq).symm.trans hx
    have := h1 i p y hp hy; have := h2 i q y hq hy
    simp only [Option.some.injEq, mx_def] at h3; omega
theorem cov_of_meet : covL (meetL a b) c = (covL a c && covL b c) := by
  rw [Bool.eq_iff_iff, Bool.and_eq_true, covL_iff (meet_len ha hb) hc, covL_iff ha hc, covL_iff hb hc]
  constructor
  · intro h
    constructor
    · intro i x y hx hy
      obtain ⟨q, hq⟩ := at8 hb (lt8 ha hy)
      have := h i x _ hx (bothL_at mn a b i hy hq)
      rw [mn_def] at this; omega
    · intro i x y hx hy
      obtain ⟨q, hq⟩ := at8 ha (lt8 hb hy)
      have := h i x _ hx (bothL_at mn a b i hq hy)
      rw [mn_def] at this; omega
  · rintro ⟨h1, h2⟩ i x y hx hy
    obtain ⟨p, hp⟩ := at8 ha (lt8 hc hx); obtain ⟨q, hq⟩ := at8 hb (lt8 hc hx)
    have h3 := (bothL_at mn a b i hp hq).symm.trans hy
    have := h1 i x p hx hp; have := h2 i x q hx hq
    simp only [Option.some.injEq, mn_def] at h3; omega
theorem join_assoc : joinL (joinL a b) c = joinL a (joinL b c) := by
  refine ext8 (bothL_len (bothL_len ha hb) hc) (bothL_len ha (bothL_len hb hc)) fun i x y hx hy => ?_
  have hi := lt8 (bothL_len (bothL_len ha hb) hc) hx
  obtain ⟨p, hp⟩ := at8 ha hi; obtain ⟨q, hq⟩ := at8 hb hi; obtain ⟨r, hr⟩ := at8 hc hi
  have h1 := (bothL_at mx (joinL a b) c i (bothL_at mx a b i hp hq) hr).symm.trans hx
  have h2 := (bothL_at mx a (joinL b c) i hp (bothL_at mx b c i hq hr)).symm.trans hy
  simp only [Option.some.injEq, mx_def] at h1 h2; omega
theorem meet_assoc : meetL (meetL a b) c = meetL a (meetL b c) := by
  refine ext8 (bothL_len (bothL_len ha hb) hc) (bothL_len ha (bothL_len hb hc)) fun i x y hx hy => ?_
  have hi := lt8 (bothL_len (bothL_len ha hb) hc) hx
  obtain ⟨p, hp⟩ := at8 ha hi; obtain ⟨q, hq⟩ := at8 hb hi; obtain ⟨r, hr⟩ := at8 hc hi
  have h1 := (bothL_at mn (meetL a b) c i (bothL_at mn a b i hp hq) hr).symm.trans hx
  have h2 := (bothL_at mn a (meetL b c) i hp (bothL_at mn b c i hq hr)).symm.trans hy
  simp only [Option.some.injEq, mn_def] at h1 h2; omega
end
end Go.Proofs.YtcgkkjfbdappoaaGreat

/- An array of eight numbers by value, opened; two held against each other. -/
namespace Go.Proofs.YtcgkkjfbdappoaaGreat
open Go.RowKit Go.ChangeShapes Go.WideShapes Opn Go.Proofs.YtcgkkjfbdappoaaGreatW.PrintWords
set_option linter.unusedVariables false

theorem leaves_eight : leaves Tryz.prog 5 22 = some (List.replicate 8 (.int .i64)) := by kernel_rfl
def IsEight (v : Value) (l : List Int) : Prop := v = .agg (vec l) ∧ l.length = 8 ∧ ∀ x ∈ l, -9223372036854775808 ≤ x ∧ x ≤ 9223372036854775807
set_option maxRecDepth 100000 in
theorem open_eight {H : Type} {enc : TypeId × Value → H} {w : World} {base : Nat} {spare : Nat → Bool} {held : Bool} {r : Reach} {b0 : Nat} {v : Value} {d : DataW H} {p : List MemPlace} {S : Prop} (_ : S)
    (hv : Value.okWide Tryz.prog w r b0 22 v) (h : DataW.Trod enc Tryz.prog w base spare held 22 v d p) : ∃ l : List Int, IsEight v l := by
  obtain ⟨cs, rfl, hc⟩ := open_array 5 _ Tryz.underlying22 leaves_eight hv h
  obtain ⟨l, rfl, hl, hx⟩ := fit_ints .i64 8 cs hc
  exact ⟨l, rfl, hl, fun x h => i64_of (hx x h)⟩
set_option maxRecDepth 100000 in
theorem eqEight (d : Nat) {a b : List Int} (ha : a.length = 8) (hb : b.length = 8) (w : World) : (Op.equalIn (d + 2) 22 (.agg (vec a)) (.agg (vec b))).run Tryz.prog w = .ok (eqV a b) w := by
  obtain ⟨i0, hi⟩ : ∃ i0, Tryz.prog.info? 3 = some i0 := by
    have : (Tryz.prog.info? 3).isSome = true := by kernel_rfl
    exact Option.isSome_iff_exists.1 this
  rw [run_equalIn_array w (d + 1) (vec a) (vec b) Tryz.underlying22 hi, show Tryz.prog.cellsOf 3 = 1 from by kernel_rfl, eqItems_vec d a b ha hb w (List.range 8) (fun i hi => by simpa using hi)]
  congr 1
  unfold eqV
  rw [Bool.eq_iff_iff, List.all_eq_true, decide_eq_true_eq]
  constructor
  · intro h
    apply List.ext_getElem?
    intro i
    by_cases hi : i < 8
    · exact beq_iff_eq.1 (h i (by simpa using hi))
    · rw [List.getElem?_eq_none (by omega), List.getElem?_eq_none (by omega)]
  · intro h i _; rw [h]; simp
theorem size_eight : (Tryz.prog.info? 22).map (·.size) = some 8 := by kernel_rfl
end Go.Proofs.YtcgkkjfbdappoaaGreat

/- The document's vectors: May, Covers: their contracts. -/
namespace Go.Proofs.YtcgkkjfbdappoaaGreat
open Go.RowKit Go.Proofs.YtcgkkjfbdappoaaGreatW.PrintWords Go.Proofs.YtcgkkjfbdappoaaGreatW.PrintLast Go.Proofs.YtcgkkjfbdappoaaGreatW.PrintMore
set_option linter.unusedVariables false
set_option linter.unusedSimpArgs false

set_option maxHeartbeats 1000000 in
set_option maxRecDepth 100000 in
theorem ref_vecMay (v : List Int) (hv : v.length = 8) (w : World) :
    Calls Tryz.prog 52 #[.agg (vec v)] w fun e w' => e = .returned (.bool (mayV v)) ∧ Below w.heap.size w w' := by
  have H0 := Hd.mk (Holds.start1 w (.cells (vec v) 22))
  have HV := Hd.mk hv
  clear hv
  go_enter Tryz.func52, Tryz.ntmps52
  go_upto_region 1 with (fail)
  generalize w.alloc (.cells (vec v) 22) = W at *
  go_wp2_with fail
  go_loopg [3] 8 (fun kq v3 w' => ∃ k : Nat, k ≤ 8 ∧ v3 = .int .i64 (k : Int) ∧ Hd (kq + k = 8) ∧ Hd (Holds w [(w.heap.size, .cells (vec v) 22 (0, 0))] w') ∧ Hd (mayV (v.drop k) = mayV v))
  case atStart => exact ⟨0, by omega, rfl, ⟨rfl⟩, H0, ⟨rfl⟩⟩
  case round =>
    clear H0
    obtain ⟨k, hk, rfl, HK, HB, HM⟩ := hrel
    by_cases hlt : k < 8
    · obtain ⟨x, hx⟩ : ∃ x, v[k]? = some x := ⟨_, List.getElem?_eq_getElem (by rw [HV.out]; exact hlt)⟩
      have hcx : wr.cell? ⟨w.heap.size, k, none⟩ = some (.int .i64 x) := by rw [cell_of_row _ _ k _ _ _ (HB.out.get 0 rfl)]; exact vec_at hx
      have hd : v.drop k = x :: v.drop (k + 1) := by
        have h1 : k < v.length := by rw [HV.out]; exact hlt
        rw [List.drop_eq_getElem_cons h1]
        rw [List.getElem?_eq_getElem h1] at hx
        rw [Option.some.inj hx]
      have hm : mayV v = ((decide (0 ≤ x) && decide (x ≤ 1073741824)) && mayV (v.drop (k + 1))) := by rw [← HM.out, hd, mayV_cons]
      have HN := Hd.mk hm
      have hn1 : 0 ≤ (k : Int) := by omega
      have hn2 : (k : Int) < 8 := by omega
      clear hx hd hm
      by_cases h0 : 0 ≤ x
      · have g0 : ¬ x < 0 := by omega
        by_cases h1 : x ≤ 1073741824
        · have g1 : ¬ 1073741824 < x := by omega
          have HQ := Hd.mk (show mayV (v.drop (k + 1)) = mayV v by rw [HN.out]; simp [h0, h1])
          clear HN
          go_wp2_with fail
          go_roundg (7 - k)
          case measure => have := HK.out; omega
          case rel => exact ⟨k + 1, by omega, by first | rfl | congr 1, ⟨by have := HK.out; omega⟩, HB, HQ⟩
        · have g1 : 1073741824 < x := by omega
          have HQ := Hd.mk (show mayV v = false by rw [HN.out]; simp [h0, h1])
          clear HN
          go_wp2_with fail
          go_ret
          exact ⟨by rw [HQ.out]; rfl, HB.out.2⟩
      · have g0 : x < 0 := by omega
        have HQ := Hd.mk (show mayV v = false by rw [HN.out]; simp [h0])
        clear HN
        go_wp2_with fail
        go_ret
        exact ⟨by rw [HQ.out]; rfl, HB.out.2⟩
    · obtain rfl : k = 8 := by omega
      have HQ := Hd.mk (show mayV v = true by rw [← HM.out, List.drop_eq_nil_of_le (by rw [HV.out]; omega)]; rfl)
      go_wp2_with fail
      go_ret
      exact ⟨by rw [HQ.out]; rfl, HB.out.2⟩

end Go.Proofs.YtcgkkjfbdappoaaGreat

/- The document's vectors: Put, Join, Meet: their contracts. -/
namespace Go.Proofs.YtcgkkjfbdappoaaGreat
open Go.RowKit Go.Proofs.YtcgkkjfbdappoaaGreatW.PrintWords Go.Proofs.YtcgkkjfbdappoaaGreatW.PrintLast Go.Proofs.YtcgkkjfbdappoaaGreatW.PrintMore Pk
set_option linter.unusedVariables false
set_option linter.unusedSimpArgs false

set_option maxHeartbeats 1000000 in
set_option maxRecDepth 100000 in
theorem ref_vecPut (v : List Int) (hv : v.length = 8) (hb : Fits64 v) (w : World) :
    Calls Tryz.prog 54 #[.agg (vec v)] w fun e w' => e = .returned (.string (putV v)) ∧ Below w.heap.size w w' := by
  have H0 := Hd.mk (Holds.start1 w (.cells (vec v) 22))
  have HV := Hd.mk hv
  have HB := Hd.mk hb
  clear hv hb
  go_enter Tryz.func54, Tryz.ntmps54
  go_upto_region 1 with (fail)
  generalize w.alloc (.cells (vec v) 22) = W at *
  go_wp2_with fail
  go_loopg [3, 4] 8 (fun kq v3 v4 w' => ∃ (k : Nat) (s : ByteArray), k ≤ 8 ∧ v4 = .int .i64 (k : Int) ∧ v3 = .string s ∧ Hd (kq + k = 8) ∧ Hd (Holds w [(w.heap.size, .cells (vec v) 22 (0, 0))] w') ∧ Hd (s = putV (v.take k)))
  case atStart => exact ⟨0, ⟨#[]⟩, by omega, rfl, rfl, ⟨rfl⟩, H0, ⟨rfl⟩⟩
  case round =>
    clear H0
    obtain ⟨k, s, hk, rfl, rfl, HK, HL, HS⟩ := hrel
    by_cases hlt : k < 8
    · obtain ⟨x, hx⟩ := at8 HV.out hlt
      have hcx : wr.cell? ⟨w.heap.size, k, none⟩ = some (.int .i64 x) := by rw [cell_of_row _ _ k _ _ _ (HL.out.get 0 rfl)]; exact vec_at hx
      have hxb := HB.out x (List.mem_of_getElem? hx)
      have H1 := Hd.mk (ref_Int x hxb.1 hxb.2)
      have HM := Hd.mk (putV_more hx)
      rw [← HS.out] at HM
      have z1 := num_size (zig_lt hxb.1 hxb.2)
      have z2 : s.size ≤ 80 := by
        rw [HS.out]
        have := putV_size (v.take k) (fun y hy => HB.out y (List.mem_of_mem_take hy))
        rw [List.length_take] at this; omega
      have hn1 : 0 ≤ (k : Int) := by omega
      have hn2 : (k : Int) < 8 := by omega
      generalize strOfNums (num (zig x)) = t at *
      have z3 : s.size + t.size ≤ 9223372036854775807 := by omega
      clear hx hxb z1 z2
      go_wp2_with fail
      refine (H1.out _).mono ?_; rintro e w5 ⟨rfl, h5⟩
      have HL5 := Hd.mk (HL.out.call h5)
      clear h5 HL
      go_wp2_with fail
      go_roundg (7 - k)
      case measure => have := HK.out; omega
      case rel => exact ⟨k + 1, _, by omega, by first | rfl | congr 1, rfl, ⟨by have := HK.out; omega⟩, HL5, HM⟩
    · obtain rfl : k = 8 := by omega
      have HE : Hd (s = putV v) := ⟨by rw [HS.out, List.take_of_length_le (by rw [HV.out]; omega)]⟩
      go_wp2_with fail
      go_ret
      exact ⟨by rw [← HE.out]; rfl, HL.out.2⟩


end Go.Proofs.YtcgkkjfbdappoaaGreat

/- The document's vectors: Tick, Take: their contracts. -/
namespace Go.Proofs.YtcgkkjfbdappoaaGreat
open Go.RowKit Go.Proofs.YtcgkkjfbdappoaaGreatW.PrintWords Go.Proofs.YtcgkkjfbdappoaaGreatW.PrintLast Go.Proofs.YtcgkkjfbdappoaaGreatW.PrintMore Pk
set_option linter.unusedVariables false
set_option linter.unusedSimpArgs false

set_option maxHeartbeats 1000000 in
set_option maxRecDepth 100000 in
theorem ref_vecTick_off (v : List Int) (n : Int) (hv : v.length = 8) (hr : repV n = false) (w : World) :
    Calls Tryz.prog 37 #[.agg (vec v), .int .i64 n] w fun e w' => e = .returned (.tuple #[.agg (vec v), .int .i64 0]) ∧ Below w.heap.size w w' := by
  have H0 := Hd.mk (Holds.start2 w (.cells (vec v) 22) (.cells (vec zero8) 22))
  have S1 := Hd.mk (show (Tryz.prog.info? 22).map (·.size) = some (vec v).size by rw [vec_size, hv]; exact size_eight)
  have S2 := Hd.mk (show (vec zero8).size = (vec v).size by rw [vec_size, vec_size, hv]; rfl)
  have z8 : ∀ w : World, (zeroValue 22).run Tryz.prog w = .ok (.agg (vec zero8)) w := fun w => by kernel_rfl
  have hn : n < 0 ∨ (0 ≤ n ∧ 7 < n) := by
    unfold repV at hr
    simp at hr
    by_cases h : 0 ≤ n
    · right; exact ⟨h, by have := hr h; omega⟩
    · left; omega
  clear hv hr
  rcases hn with h | ⟨h, h'⟩
  · go_enter Tryz.func37, Tryz.ntmps37
    go_upto_region 1 with (fail)
    clear z8
    generalize (w.alloc (.cells (vec v) 22)).alloc (.cells (vec zero8) 22) = W at *
    go_wp2_with (first | ((with_reducible refine gate_load (t := 22) rfl ?_); refine wpList_load_row rfl _ _ rfl w.heap.size rfl 22 (vec v) (0, 0) _ (H0.out.get 1 rfl) Tryz.underlying22 rfl S1.out ?_) | ((with_reducible refine gate_store (t := 22) rfl ?_); refine wpList_store_row rfl _ _ _ rfl (w.heap.size + 1) (vec v) rfl rfl 22 (vec zero8) (H0.out.get 0 rfl) S1.out S2.out (vec_one _) ?_))
    exact bodyPost_ret (results_cell_tmp (p := 4) (q := 5) rfl _ _ (w.heap.size + 1) 22 (vec v) (0, 0) _ rfl (setRow_heap _ _ _ _ _ _ (H0.out.get 0 rfl)) Tryz.underlying22 rfl S1.out) rfl ⟨rfl, below_setRow H0.out.2 (by omega) _⟩
  · go_enter Tryz.func37, Tryz.ntmps37
    go_upto_region 1 with (fail)
    clear z8
    generalize (w.alloc (.cells (vec v) 22)).alloc (.cells (vec zero8) 22) = W at *
    go_wp2_with (first | ((with_reducible refine gate_load (t := 22) rfl ?_); refine wpList_load_row rfl _ _ rfl w.heap.size rfl 22 (vec v) (0, 0) _ (H0.out.get 1 rfl) Tryz.underlying22 rfl S1.out ?_) | ((with_reducible refine gate_store (t := 22) rfl ?_); refine wpList_store_row rfl _ _ _ rfl (w.heap.size + 1) (vec v) rfl rfl 22 (vec zero8) (H0.out.get 0 rfl) S1.out S2.out (vec_one _) ?_))
    exact bodyPost_ret (results_cell_tmp (p := 4) (q := 5) rfl _ _ (w.heap.size + 1) 22 (vec v) (0, 0) _ rfl (setRow_heap _ _ _ _ _ _ (H0.out.get 0 rfl)) Tryz.underlying22 rfl S1.out) rfl ⟨rfl, below_setRow H0.out.2 (by omega) _⟩

set_option maxHeartbeats 1000000 in
set_option maxRecDepth 100000 in
theorem ref_vecTick (v : List Int) (k : Nat) (hk : k < 8) (hv : v.length = 8) (w : World) :
    Calls Tryz.prog 37 #[.agg (vec v), .int .i64 (k : Int)] w fun e w' => e = .returned (.tuple #[.agg (vec (upV v k)), .int .i64 (wrap64 (nth v k + 1))]) ∧ Below w.heap.size w w' := by
  have H0 := Hd.mk (Holds.start2 w (.cells (vec v) 22) (.cells (vec zero8) 22))
  have S0 := Hd.mk (show (Tryz.prog.info? 22).map (·.size) = some (vec v).size by rw [vec_size, hv]; exact size_eight)
  have S3 := Hd.mk (show (vec zero8).size = (vec v).size by rw [vec_size, vec_size, hv]; rfl)
  have S1 := Hd.mk (show (Tryz.prog.info? 22).map (·.size) = some (vec (upV v k)).size by rw [vec_size, upV_len, hv]; exact size_eight)
  have S2 := Hd.mk (show (vec zero8).size = (vec (upV v k)).size by rw [vec_size, vec_size, upV_len, hv]; rfl)
  have z8 : ∀ w : World, (zeroValue 22).run Tryz.prog w = .ok (.agg (vec zero8)) w := fun w => by kernel_rfl
  have hn1 : 0 ≤ (k : Int) := by omega
  have hn2 : (k : Int) < 8 := by omega
  have hn3 : (k : Int) ≤ 7 := by omega
  have HX := Hd.mk (vec_at (nth_at hv hk))
  have HU : Hd ((vec v).setIfInBounds k (.int .i64 (wrap64 (nth v k + 1))) = vec (upV v k)) := ⟨vec_set _ _ _⟩
  clear hv
  generalize nth v (k : Int) = x at *
  generalize upV v k = u at *
  go_enter Tryz.func37, Tryz.ntmps37
  go_upto_region 1 with (fail)
  generalize (w.alloc (.cells (vec v) 22)).alloc (.cells (vec zero8) 22) = W at *
  have H1n := Hd.mk (H0.out.fresh (.cells (vec zero8) 22))
  have H1 := Hd.mk (H1n.out.set (vec v))
  have F1 := Hd.mk (⟨H1n.out.2.1, fun p hp => Nat.ne_of_lt (H1n.out.2.2 p hp)⟩ : _ ∧ _)
  clear H1n
  go_upto_region 4 with (first | ((with_reducible refine gate_dst (N := 14) rfl ?_); refine wpList_load_row rfl 22 _ rfl w.heap.size rfl 22 (vec v) (0, 0) _ (H0.out.get 1 rfl) Tryz.underlying22 rfl S0.out ?_) | ((with_reducible refine gate_store (t := 22) rfl ?_); refine wpList_store_row rfl _ _ _ rfl W.heap.size (vec v) rfl rfl 22 (vec zero8) (heap_alloc_new _ _) S0.out S3.out (vec_one _) ?_; generalize (W.alloc (.cells (vec zero8) 22)).setRow W.heap.size (vec v) = W1 at *; generalize W.heap.size = bo at *))
  clear H0 z8
  have hcv : W1.cell? ⟨w.heap.size, k, none⟩ = some (.int .i64 x) := by rw [cell_of_row _ _ k _ _ _ (H1.out.get 2 rfl)]; exact HX.out
  have hcx : W1.cell? ⟨bo, k, none⟩ = some (.int .i64 x) := by rw [cell_of_row _ _ k _ _ _ (H1.out.get 0 rfl)]; exact HX.out
  have hfz : W1.frozen? ⟨bo, k, none⟩ = false := frozen_of_row _ _ k _ _ (H1.out.get 0 rfl)
  have H2 := Hd.mk (Holds_cell H1.out k (.int .i64 (wrap64 (x + 1))) F1.out.1 F1.out.2)
  rw [HU.out] at H2
  go_upto_region 5 with (fail)
  clear H1 hcv hcx hfz
  generalize W1.setCell ⟨bo, k, none⟩ (.int .i64 (wrap64 (x + 1))) = W2 at *
  have hne : bo ≠ w.heap.size + 1 := (F1.out.2 _ List.mem_cons_self).symm
  refine st_ 7 (S := fun W_ => Holds w [(bo, .cells (vec u) 22 (0, 0)), (w.heap.size, .cells (vec v) 22 (0, 0))] W_) (ds := []) (⟨fun p hp => H2.out.drew.1 p (by rcases List.mem_cons.1 hp with rfl | hp; exact List.mem_cons_self; exact List.mem_cons_of_mem _ (List.mem_cons_of_mem _ hp)), H2.out.drew.2⟩) (fun hHeld => ?_)
  refine tk_ 0 (some 21) (.agg (vec u)) rfl (fun w' h => run_load_row 22 _ rfl bo rfl 22 _ _ _ (h.get 0 rfl) Tryz.underlying22 rfl S1.out) hHeld ?_
  refine pu_ 1 (some 22) ?_
  refine pu_ 2 (some 23) ?_
  refine tk_ 3 (some 24) (.int .i64 x) rfl (fun w' h => by have hc : w'.cell? ⟨w.heap.size, k, none⟩ = some (.int .i64 x) := (by rw [cell_of_row w' _ k _ _ _ (h.get 1 rfl)]; exact HX.out); go_simp) hHeld ?_
  refine pu_ 4 (some 25) ?_
  refine one_ (i := 5) (N := none) #[true, true, true, true, true, true, false] rfl rfl (by kernel_rfl) (by decide) (fun K hK => ?_)
  refine skip_ (by rfl) rfl (run_store_row _ _ _ rfl (w.heap.size + 1) (vec u) rfl rfl 22 (vec zero8) (H2.out.drew.get 1 rfl) S1.out S2.out (vec_one _)) ?_
  refine hK.out _ _ (⟨fun p hp => (setRow_other _ _ _ _ (by rcases List.mem_cons.1 hp with rfl | hp; exact hne; obtain rfl := List.mem_singleton.1 hp; simp)).trans (hHeld.1 p hp), below_setRow hHeld.2 (by omega) _⟩) (fun hHeld => ?_)
  clear hK K
  refine pu_ 6 (some 5) ?_
  refine done_ (by kernel_rfl) ?_
  go_wp2_with fail
  exact bodyPost_ret (results_cell_tmp (p := 4) (q := 5) rfl _ _ (w.heap.size + 1) 22 (vec u) (0, 0) _ rfl (setRow_heap _ _ _ _ _ _ (H2.out.drew.get 1 rfl)) Tryz.underlying22 rfl S1.out) rfl ⟨by first | rfl | (simp [i64_w]; done) | simp [IntKind.wrap_i64, wrap64], hHeld.2⟩

theorem mayV_app (f v : List Int) : mayV (f ++ v) = (mayV f && mayV v) := by unfold mayV; rw [List.all_append]
theorem fin_bad {f : List Int} {x : Int} (h : ¬ (0 ≤ x ∧ x ≤ 1073741824)) (o : Option (List Int × List UInt8)) : fin (f ++ [x]) o = none := by
  cases o with
  | none => rfl
  | some p =>
    obtain ⟨v, q⟩ := p
    have h1 : mayV [x] = false := by unfold mayV; simp; omega
    show (if mayV (f ++ [x] ++ v) = true then some (f ++ [x] ++ v, q) else none) = none
    rw [mayV_app, mayV_app, h1]; simp

set_option maxHeartbeats 2000000 in
set_option maxRecDepth 100000 in
theorem ref_vecTake (s0 : ByteArray) (hs0 : s0.size ≤ 140737488355328) (w : World) :
    Calls Tryz.prog 45 #[.string s0] w fun e w' => e = .returned (tvV (tkV s0.data.toList)) ∧ Below w.heap.size w w' := by
  have S0 : Hd ((Tryz.prog.info? 22).map (·.size) = some (vec zero8).size) := ⟨by rw [vec_size]; exact size_eight⟩
  have z8 : ∀ w : World, (zeroValue 22).run Tryz.prog w = .ok (.agg (vec zero8)) w := fun w => by kernel_rfl
  have K0 := Hd.mk (Holds.start1 w (.cells (vec zero8) 22))
  have HS0 := Hd.mk hs0
  clear hs0
  go_enter Tryz.func45, Tryz.ntmps45
  go_upto_region 1 with (fail)
  generalize w.alloc (.cells (vec zero8) 22) = W at *
  have K1n := Hd.mk (K0.out.fresh (.cells (vec zero8) 22))
  have H0 := Hd.mk (K1n.out.set (vec zero8))
  have F1 := Hd.mk (⟨K1n.out.2.1, fun p hp => Nat.ne_of_lt (K1n.out.2.2 p hp)⟩ : _ ∧ _)
  clear K0 K1n
  go_upto_region 2 with (first | ((with_reducible refine gate_store (t := 22) rfl ?_); refine wpList_store_row rfl _ _ _ rfl W.heap.size (vec zero8) rfl rfl 22 (vec zero8) (heap_alloc_new _ _) S0.out rfl (vec_one _) ?_; generalize (W.alloc (.cells (vec zero8) 22)).setRow W.heap.size (vec zero8) = W1 at *; generalize W.heap.size = bo at *))
  go_wp2_with fail
  go_loopg [0, 6] 8 (fun kq v0 v6 w' => ∃ (k : Nat) (s : ByteArray) (d : List Int), k ≤ 8 ∧ v6 = .int .i64 (k : Int) ∧ v0 = .string s ∧ Hd (kq + k = 8) ∧ Hd (s.size ≤ s0.size) ∧ Hd (d.length = 8) ∧ Hd (Holds w [(bo, .cells (vec d) 22 (0, 0)), (w.heap.size, .cells (vec zero8) 22 (0, 0))] w') ∧ Hd (tkV s0.data.toList = fin (d.take k) (tkN (8 - k) s.data.toList)) ∧ Hd (mayV (d.take k) = true))
  case atStart => exact ⟨0, s0, zero8, by omega, rfl, rfl, ⟨rfl⟩, ⟨Nat.le_refl _⟩, ⟨rfl⟩, H0, ⟨rfl⟩, ⟨rfl⟩⟩
  case round =>
    clear H0
    obtain ⟨k, s, d, hk, rfl, rfl, HK, HL, HD, HH, HT, HY⟩ := hrel
    by_cases hlt : k < 8
    · have E1 := ref_TakeInt s (by have := HL.out; have := HS0.out; omega)
      cases hT : tk s.data.toList 0 0 with
      | none =>
        have HV : Hd (tkV s0.data.toList = none) := ⟨by rw [HT.out, show 8 - k = (7 - k) + 1 from by omega]; exact fin_none hT⟩
        rw [hT] at E1
        simp only [tiV] at E1
        have H1 := Hd.mk E1
        clear E1 hT HT HL HD HK HY
        go_wp2_with fail
        refine (H1.out _).mono ?_; rintro e w5 ⟨rfl, h5⟩
        have H5 := Hd.mk (HH.out.call h5)
        clear h5 HH
        go_wp2_with (first | ((with_reducible refine gate_store (t := 22) rfl ?_); refine wpList_store_row rfl _ _ _ rfl w.heap.size (vec zero8) rfl rfl 22 (vec zero8) (H5.out.get 1 rfl) S0.out rfl (vec_one _) ?_))
        exact bodyPost_ret (results_cell_tmp2 (p := 2) (q := 3) (r := 4) rfl _ _ w.heap.size 22 (vec zero8) (0, 0) _ rfl (setRow_heap _ _ _ _ _ _ (H5.out.get 1 rfl)) Tryz.underlying22 rfl S0.out) rfl ⟨by rw [HV.out]; rfl, below_setRow H5.out.2 (Nat.le_refl _) _⟩
      | some p =>
        obtain ⟨m, r⟩ := p
        have hrl := tk_len _ _ _ _ _ hT
        have hsl : s.data.toList.length = s.size := rfl
        have HL2 : Hd ((⟨r.toArray⟩ : ByteArray).size ≤ s0.size) := ⟨by rw [size_of]; have := HL.out; omega⟩
        have hkd : k < d.length := by rw [HD.out]; exact hlt
        have tk1 : (d.set k (unzig m)).take (k + 1) = d.take k ++ [unzig m] := by
          rw [List.take_add_one, List.getElem?_set_self hkd, List.take_set_of_le (by omega)]; rfl
        have e2 : tkV s0.data.toList = fin (d.take k ++ [unzig m]) (tkN (7 - k) r) := by
          rw [HT.out, show 8 - k = (7 - k) + 1 from by omega, fin_some hT]
        rw [hT] at E1
        simp only [tiV] at E1
        have H1 := Hd.mk E1
        by_cases hr1 : 0 ≤ unzig m
        · by_cases hr2 : unzig m ≤ 1073741824
          · have HT2 : Hd (tkV s0.data.toList = fin ((d.set k (unzig m)).take (k + 1)) (tkN (8 - (k + 1)) (⟨r.toArray⟩ : ByteArray).data.toList)) := ⟨by
              rw [e2, tk1, mk_list, show 8 - (k + 1) = 7 - k from by omega]⟩
            have HY2 : Hd (mayV ((d.set k (unzig m)).take (k + 1)) = true) := ⟨by rw [tk1, mayV_app, HY.out]; unfold mayV; simp [hr1, hr2]⟩
            obtain ⟨z, hz0⟩ : ∃ z, d[k]? = some z := ⟨_, List.getElem?_eq_getElem hkd⟩
            have Z0 := Hd.mk (vec_at hz0)
            have HD2 : Hd ((d.set k (unzig m)).length = 8) := ⟨by rw [List.length_set]; exact HD.out⟩
            have HU : Hd ((vec d).setIfInBounds k (.int .i64 (unzig m)) = vec (d.set k (unzig m))) := ⟨vec_set _ _ _⟩
            have hn1 : 0 ≤ (k : Int) := by omega
            have hn2 : (k : Int) < 8 := by omega
            have g1 : ¬ unzig m < 0 := by omega
            have g2 : ¬ 1073741824 < unzig m := by omega
            have hwz : IntKind.i64.wrap (unzig m) = unzig m := by
              rw [i64_w]; unfold wrap64; omega
            clear E1 hT HT HL HD hrl hsl hz0 tk1 e2 hkd HY
            generalize d.set k (unzig m) = d2 at *
            generalize unzig m = x at *
            generalize (⟨r.toArray⟩ : ByteArray) = s2 at *
            go_wp2_with fail
            refine (H1.out _).mono ?_; rintro e w5 ⟨rfl, h5⟩
            have H5 := Hd.mk (HH.out.call h5)
            clear h5 HH
            have hcx : w5.cell? ⟨bo, k, none⟩ = some (.int .i64 z) := by rw [cell_of_row _ _ k _ _ _ (H5.out.get 0 rfl)]; exact Z0.out
            have hfz : w5.frozen? ⟨bo, k, none⟩ = false := frozen_of_row _ _ k _ _ (H5.out.get 0 rfl)
            go_wp2_with fail
            go_roundg (7 - k)
            case measure => have := HK.out; omega
            case rel => exact ⟨k + 1, s2, d2, by omega, by first | rfl | congr 1, rfl, ⟨by have := HK.out; omega⟩, HL2, HD2, ⟨by rw [← HU.out]; exact Holds_cell H5.out k _ F1.out.1 F1.out.2⟩, HT2, HY2⟩
          · have HV : Hd (tkV s0.data.toList = none) := ⟨by rw [e2]; exact fin_bad (by omega) _⟩
            have g1 : ¬ unzig m < 0 := by omega
            have g2 : 1073741824 < unzig m := by omega
            clear E1 hT HT HL HD HK HY tk1 e2 hkd hrl hsl hr1 hr2 HL2
            generalize unzig m = x at *
            go_wp2_with fail
            refine (H1.out _).mono ?_; rintro e w5 ⟨rfl, h5⟩
            have H5 := Hd.mk (HH.out.call h5)
            clear h5 HH
            go_wp2_with (first | ((with_reducible refine gate_store (t := 22) rfl ?_); refine wpList_store_row rfl _ _ _ rfl w.heap.size (vec zero8) rfl rfl 22 (vec zero8) (H5.out.get 1 rfl) S0.out rfl (vec_one _) ?_))
            exact bodyPost_ret (results_cell_tmp2 (p := 2) (q := 3) (r := 4) rfl _ _ w.heap.size 22 (vec zero8) (0, 0) _ rfl (setRow_heap _ _ _ _ _ _ (H5.out.get 1 rfl)) Tryz.underlying22 rfl S0.out) rfl ⟨by rw [HV.out]; rfl, below_setRow H5.out.2 (Nat.le_refl _) _⟩
        · have HV : Hd (tkV s0.data.toList = none) := ⟨by rw [e2]; exact fin_bad (by omega) _⟩
          have g1 : unzig m < 0 := by omega
          clear E1 hT HT HL HD HK HY tk1 e2 hkd hrl hsl hr1 HL2
          generalize unzig m = x at *
          go_wp2_with fail
          refine (H1.out _).mono ?_; rintro e w5 ⟨rfl, h5⟩
          have H5 := Hd.mk (HH.out.call h5)
          clear h5 HH
          go_wp2_with (first | ((with_reducible refine gate_store (t := 22) rfl ?_); refine wpList_store_row rfl _ _ _ rfl w.heap.size (vec zero8) rfl rfl 22 (vec zero8) (H5.out.get 1 rfl) S0.out rfl (vec_one _) ?_))
          exact bodyPost_ret (results_cell_tmp2 (p := 2) (q := 3) (r := 4) rfl _ _ w.heap.size 22 (vec zero8) (0, 0) _ rfl (setRow_heap _ _ _ _ _ _ (H5.out.get 1 rfl)) Tryz.underlying22 rfl S0.out) rfl ⟨by rw [HV.out]; rfl, below_setRow H5.out.2 (Nat.le_refl _) _⟩
    · obtain rfl : k = 8 := by omega
      have hd8 : d.take 8 = d := List.take_of_length_le (by rw [HD.out]; omega)
      have HT3 : Hd (tkV s0.data.toList = some (d, s.data.toList)) := ⟨by
        have hy := HY.out
        rw [hd8] at hy
        rw [HT.out, hd8]
        show (if mayV (d ++ []) = true then some (d ++ [], s.data.toList) else none) = _
        rw [List.append_nil, if_pos hy]⟩
      have S1 := Hd.mk (show (Tryz.prog.info? 22).map (·.size) = some (vec d).size by rw [vec_size, HD.out]; exact size_eight)
      have S2 := Hd.mk (show (vec zero8).size = (vec d).size by rw [vec_size, vec_size, HD.out]; rfl)
      clear hd8 HT HL HD HK HY
      go_wp2_with (first | ((with_reducible refine gate_dst (N := 36) rfl ?_); refine wpList_load_row rfl 22 _ rfl bo rfl 22 (vec d) (0, 0) _ (HH.out.get 0 rfl) Tryz.underlying22 rfl S1.out ?_) | ((with_reducible refine gate_store (t := 22) rfl ?_); refine wpList_store_row rfl _ _ _ rfl w.heap.size (vec d) rfl rfl 22 (vec zero8) (HH.out.get 1 rfl) S1.out S2.out (vec_one _) ?_))
      exact bodyPost_ret (results_cell_tmp2 (p := 2) (q := 3) (r := 4) rfl _ _ w.heap.size 22 (vec d) (0, 0) _ rfl (setRow_heap _ _ _ _ _ _ (HH.out.get 1 rfl)) Tryz.underlying22 rfl S1.out) rfl ⟨by rw [HT3.out]; rfl, below_setRow HH.out.2 (Nat.le_refl _) _⟩
end Go.Proofs.YtcgkkjfbdappoaaGreat
