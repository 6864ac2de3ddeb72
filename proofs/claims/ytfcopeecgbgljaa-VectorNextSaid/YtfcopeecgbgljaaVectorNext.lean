/- The law VectorNext: the walk. -/
import Derived.Test.YtfcopeecgbgljaaVecTick
import Derived.Test.YtfcopeecgbgljaaVecShown
import Derived.Test.YtfcopeecgbgljaaVecLaw
import Derived.Test.YtfcopeecgbgljaaVecOpen
namespace Go.Proofs.Ytfcopeecgbgljaa.vectorNext
open Go.RowKit Go.Proofs.YtfcopeecgbgljaaW.PrintWords Go.Proofs.YtfcopeecgbgljaaW.PrintLast Go.Proofs.YtfcopeecgbgljaaW.PrintMore
set_option linter.unusedVariables false
set_option linter.unusedSimpArgs false
set_option linter.unusedSectionVars false

/-- The cells of an array of bytes. -/
def bvec (l : List Int) : Array Value := (l.map (Value.int .u8)).toArray
theorem bvec_at {l : List Int} {k : Nat} {x : Int} (h : l[k]? = some x) : (bvec l)[k]? = some (.int .u8 x) := by simp [bvec, h]
def Good (v : List Int) (k : Nat) (d : List Int) : Prop := d.length = 8 ∧ nth d k = nth v k ∧ leL d v

theorem tmod8 {k k1 : Nat} (h : ((k : Int) + 1) % 8 = (k1 : Int)) : ((k : Int) + 1).tmod 8 = (k1 : Int) := by
  rw [Int.tmod_eq_emod_of_nonneg (by omega)]; exact h
theorem wrapk {k : Nat} (h : k < 8) : wrap64 ((k : Int) + 1) = (k : Int) + 1 := by unfold wrap64; omega
theorem NewHolds_more {w : World} {q : Nat} {o : Obj} {l : List (Nat × Obj)} {w' : World} (h : NewHolds w q o l w') : w.heap.size ≤ q ∧ ∀ p ∈ l, p.1 ≠ q := ⟨h.2.1, fun p hp => Nat.ne_of_lt (h.2.2 p hp)⟩
theorem nth_set {v : List Int} {k : Nat} (z : Int) (h : k < v.length) : nth (v.set k z) (k : Int) = z := by
  unfold nth; simp [List.getD_eq_getElem?_getD, h]
theorem nth_set_ne {v : List Int} {j k : Nat} (z : Int) (h : j ≠ k) : nth (v.set j z) (k : Int) = nth v (k : Int) := by
  unfold nth; simp [List.getD_eq_getElem?_getD, h]
theorem may_at {v : List Int} (h : mayV v = true) {i : Nat} {x : Int} (hx : v[i]? = some x) : 0 ≤ x ∧ x ≤ 1073741824 := by
  have := List.all_eq_true.1 h x (List.mem_of_getElem? hx)
  simpa using this
theorem Good.start {v : List Int} {k : Nat} (hv : v.length = 8) : Good v k v := ⟨hv, rfl, fun i x y hx hy => by rw [hx] at hy; have := Option.some.inj hy; omega⟩
theorem Good.step {v d : List Int} {k i : Nat} (h : Good v k d) (hik : i ≠ k) {x y : Int} (hx : v[i]? = some x) (hy : 0 ≤ y) : Good v k (d.set i (x - y)) := by
  obtain ⟨h1, h2, h3⟩ := h
  refine ⟨by simp [h1], by rw [nth_set_ne _ hik]; exact h2, fun j p q hp hq => ?_⟩
  rw [List.getElem?_set] at hp
  split at hp
  · next e =>
    subst e
    split at hp
    · have := Option.some.inj hp; rw [hx] at hq; have := Option.some.inj hq; omega
    · simp at hp
  · exact h3 j p q hp hq
section
variable {v d : List Int} {k : Nat} (hv : v.length = 8) (hk : k < 8) (hm : mayV v = true) (hd : Good v k d)
include hv hk hm hd
theorem low : 0 ≤ nth v (k : Int) ∧ nth v (k : Int) ≤ 1073741824 := may_at hm (nth_at hv hk)
omit hv hm hd in
theorem rep_k : repB (k : Int) = true := by unfold repB; simp; omega
theorem R1 : readyV v (k : Int) (nth v (k : Int) + 1) d = true := by
  have h := low hv hk hm hd
  unfold readyV
  rw [rep_k hk, decide_eq_true (by omega), decide_eq_true (by omega), hd.2.1, decide_eq_true (by omega), (covL_iff hv hd.1).2 hd.2.2]; rfl
theorem up_eq : upV v k = v.set k (nth v (k : Int) + 1) := by
  have h := low hv hk hm hd
  unfold upV
  rw [show wrap64 (nth v (k : Int) + 1) = nth v (k : Int) + 1 from by unfold wrap64; omega]
theorem R2 : readyV (upV v k) (k : Int) (nth v (k : Int) + 1) d = false := by
  rw [up_eq hv hk hm hd]
  unfold readyV
  rw [nth_set _ (by omega), decide_eq_false (p := nth v (k : Int) + 1 = nth v (k : Int) + 1 - 1) (by omega)]; simp
theorem R3 : readyV (upV v k) (k : Int) (nth v (k : Int) + 1 + 1) (d.set k (nth v (k : Int) + 1)) = true := by
  have h := low hv hk hm hd
  rw [up_eq hv hk hm hd]
  unfold readyV
  have hc : covL (v.set k (nth v (k : Int) + 1)) (d.set k (nth v (k : Int) + 1)) = true := by
    refine (covL_iff (by simp [hv]) (by simp [hd.1])).2 fun i x y hx hy => ?_
    rw [List.getElem?_set] at hx hy
    by_cases e : k = i
    · rw [if_pos e] at hx hy
      rw [if_pos (by have := hd.1; omega)] at hx
      rw [if_pos (by omega)] at hy
      have := Option.some.inj hx; have := Option.some.inj hy; omega
    · rw [if_neg e] at hx hy
      exact hd.2.2 i x y hx hy
  rw [nth_set _ (by omega), nth_set _ (by have := hd.1; omega), rep_k hk, decide_eq_true (by omega), decide_eq_true (by omega), hc]; rfl
theorem R4 {k1 : Nat} (hk1 : k1 < 8) : readyV v (k : Int) (nth v (k : Int) + 1) (d.set k1 (nth v (k1 : Int) + 1)) = false := by
  have hc : covL v (d.set k1 (nth v (k1 : Int) + 1)) = false := by
    rcases hq : covL v (d.set k1 (nth v (k1 : Int) + 1)) with _ | _
    · rfl
    · have := (covL_iff hv (by simp [hd.1])).1 hq k1 (nth v (k1 : Int) + 1) (nth v (k1 : Int)) (by rw [List.getElem?_set_self (by have := hd.1; omega)]) (nth_at hv hk1)
      omega
  unfold readyV
  rw [hc]; simp
theorem R5 : readyV v (k : Int) (nth v (k : Int) + 1 + 1) (d.set k (nth v (k : Int) + 1)) = false := by
  unfold readyV
  rw [decide_eq_false (p := nth v (k : Int) = nth v (k : Int) + 1 + 1 - 1) (by omega)]; simp
end

/-- It may not be: nothing more. -/
theorem walk_off (v m : List Int) (a : Int) (hv : v.length = 8) (hm : mayV v = false) (w : World) :
    Calls Try.prog 5 #[.agg (vec v), .int .u8 a, .agg (bvec m)] w fun e w' => e = .returned (.bool true) ∧ Below w.heap.size w w' := by
  have H0 := Hd.mk (Holds.start2 w (.cells (vec v) 22) (.cells (bvec m) 28))
  have S1 := Hd.mk (show (Try.prog.info? 22).map (·.size) = some (vec v).size by rw [vec_size, hv]; exact size_eight)
  have HS := Hd.mk vec_shown
  have HM := Hd.mk (vec_May v hv)
  rw [hm] at HM
  clear hv hm
  go_enter Try.func5, Try.ntmps5
  go_upto_region 1 with (fail)
  generalize (w.alloc (.cells (vec v) 22)).alloc (.cells (bvec m) 28) = W at *
  go_wp2_with fail
  refine (HS.out _).mono ?_; rintro e w1 ⟨rfl, h1⟩
  have H1 := Hd.mk (H0.out.call h1)
  clear H0 h1
  go_wp2_with (first | ((with_reducible refine gate_load (t := 22) rfl ?_); refine wpList_load_row rfl _ _ rfl w.heap.size rfl 22 (vec v) (0, 0) _ (H1.out.get 1 rfl) Try.underlying22 rfl S1.out ?_))
  refine (HM.out _).mono ?_; rintro e w2 ⟨rfl, h1⟩
  have H2 := Hd.mk (H1.out.call h1)
  clear H1 h1
  go_wp2_with fail
  go_ret
  exact ⟨rfl, H2.out.2⟩

set_option maxHeartbeats 4000000 in
set_option maxRecDepth 100000 in
theorem walk (v m : List Int) (a : Int) (hv : v.length = 8) (hml : m.length = 8) (ha : 0 ≤ a ∧ a < 256) (hmb : ∀ x ∈ m, 0 ≤ x ∧ x < 256) (hm : mayV v = true) (w : World) :
    Calls Try.prog 5 #[.agg (vec v), .int .u8 a, .agg (bvec m)] w fun e w' => e = .returned (.bool true) ∧ Below w.heap.size w w' := by
  have H0 := Hd.mk (Holds.start2 w (.cells (vec v) 22) (.cells (bvec m) 28))
  have S1 := Hd.mk (show (Try.prog.info? 22).map (·.size) = some (vec v).size by rw [vec_size, hv]; exact size_eight)
  have S2 := Hd.mk (show (vec zero8).size = (vec v).size by rw [vec_size, vec_size, hv]; rfl)
  have HS := Hd.mk vec_shown
  have HM := Hd.mk (vec_May v hv)
  rw [hm] at HM
  obtain ⟨k, hak⟩ : ∃ k : Nat, a % 8 = (k : Int) := ⟨(a % 8).toNat, by omega⟩
  have hk : k < 8 := by omega
  have HA := Hd.mk (⟨hv, hml, hmb, hm⟩ : _ ∧ _ ∧ _ ∧ _)
  have z8 : ∀ w : World, (zeroValue 22).run Try.prog w = .ok (.agg (vec zero8)) w := fun w => by kernel_rfl
  clear hv hml hmb hm
  go_enter Try.func5, Try.ntmps5
  go_upto_region 1 with (fail)
  generalize (w.alloc (.cells (vec v) 22)).alloc (.cells (bvec m) 28) = W at *
  go_wp2_with fail
  refine (HS.out _).mono ?_; rintro e w1 ⟨rfl, h1⟩
  have H1 := Hd.mk (H0.out.call h1)
  clear H0 h1
  go_wp2_with (first | ((with_reducible refine gate_load (t := 22) rfl ?_); refine wpList_load_row rfl _ _ rfl w.heap.size rfl 22 (vec v) (0, 0) _ (H1.out.get 1 rfl) Try.underlying22 rfl S1.out ?_))
  refine (HM.out _).mono ?_; rintro e w2 ⟨rfl, h1⟩
  have H1' := Hd.mk (H1.out.call h1)
  have H2 := Hd.mk (H1'.out.fresh (.cells (vec zero8) 22))
  have H3 := Hd.mk (H2.out.set (vec v))
  have HF := Hd.mk (NewHolds_more H2.out)
  clear H1 h1 H2
  go_upto_region 5 with (fail)
  simp only [hak]
  go_upto_region 6 with (first | ((with_reducible refine gate_dst (N := 23) rfl ?_); refine wpList_load_row rfl 22 _ rfl w.heap.size rfl 22 (vec v) (0, 0) _ (H1'.out.get 1 rfl) Try.underlying22 rfl S1.out ?_) | ((with_reducible refine gate_store (t := 22) rfl ?_); refine wpList_store_row rfl _ _ _ rfl w2.heap.size (vec v) rfl rfl 22 (vec zero8) (heap_alloc_new _ _) S1.out S2.out (vec_one _) ?_; generalize (w2.alloc (.cells (vec zero8) 22)).setRow w2.heap.size (vec v) = W3 at *; generalize w2.heap.size = bd at *))
  clear H1'
  go_wp2_with fail
  go_loopg [10] 8 (fun kq v10 w' => ∃ (i : Nat) (d : List Int), i ≤ 8 ∧ v10 = .int .i64 (i : Int) ∧ Hd (kq + i = 8) ∧ Hd (Holds w [(bd, .cells (vec d) 22 (0, 0)), (w.heap.size + 1, .cells (bvec m) 28 (0, 0)), (w.heap.size, .cells (vec v) 22 (0, 0))] w') ∧ Hd (Good v k d))
  case atStart => exact ⟨0, v, by omega, rfl, ⟨rfl⟩, H3, ⟨Good.start HA.out.1⟩⟩
  case round =>
    clear H3
    obtain ⟨i, d, hi, rfl, HK, HH, HG⟩ := hrel
    by_cases hlt : i < 8
    · by_cases hik : i = k
      · subst hik
        go_wp2_with fail
        go_roundg (7 - i)
        case measure => have := HK.out; omega
        case rel => exact ⟨i + 1, d, by omega, by first | rfl | congr 1, ⟨by have := HK.out; omega⟩, HH, HG⟩
      · obtain ⟨x, hx⟩ := at8 HA.out.1 hlt
        obtain ⟨y, hy⟩ := at8 HA.out.2.1 hlt
        obtain ⟨z, hz⟩ := at8 HG.out.1 hlt
        have hxb := may_at HA.out.2.2.2 hx
        have hyb := HA.out.2.2.1 y (List.mem_of_getElem? hy)
        have hw : wrap64 (x - y) = x - y := by unfold wrap64; omega
        have hwy : IntKind.i64.wrap y = y := by rw [i64_w]; unfold wrap64; omega
        have hwx : IntKind.i64.wrap (x - y) = x - y := by rw [i64_w]; unfold wrap64; omega
        have hne : ((i : Int) != (k : Int)) = true := by simp; omega
        have hn1 : 0 ≤ (i : Int) := by omega
        have hn2 : (i : Int) < 8 := by omega
        have HX := Hd.mk (vec_at hx)
        have HY := Hd.mk (bvec_at hy)
        have HZ := Hd.mk (vec_at hz)
        have HG2 := Hd.mk (HG.out.step hik hx hyb.1)
        clear hx hy hz hxb
        go_upto_region 10 with (fail)
        refine start_ (n := 11) (S := fun W_ => Holds w [(bd, .cells (vec d) 22 (0, 0)), (w.heap.size + 1, .cells (bvec m) 28 (0, 0)), (w.heap.size, .cells (vec v) 22 (0, 0))] W_) (ds := [10]) #[false, false, false, false, false, false, false, false, false, false, false] (by kernel_rfl) rfl rfl (HH.out.drew) (fun hHeld => ?_)
        refine pure_ (i := 0) (N := some 31) (v := ?_) (a' := ?_) #[true, false, false, false, false, false, false, false, false, false, false] rfl rfl (by kernel_rfl) (fun _ _ _ h => h) (Or.inl ⟨by rfl, ?_⟩) ?_ ?_
        rotate_left
        · intro w_
          go_simp
          try with_reducible rfl
        rotate_left
        · simp only [Act.put, List.setIfInBounds_toArray, List.set_cons_zero, List.set_cons_succ]
          rfl
        refine pure_ (i := 1) (N := some 32) (v := ?_) (a' := ?_) #[true, true, false, false, false, false, false, false, false, false, false] rfl rfl (by kernel_rfl) (fun _ _ _ h => h) (Or.inl ⟨by rfl, ?_⟩) ?_ ?_
        rotate_left
        · intro w_
          go_simp
          try with_reducible rfl
        rotate_left
        · simp only [Act.put, List.setIfInBounds_toArray, List.set_cons_zero, List.set_cons_succ]
          rfl
        refine pure_ (i := 2) (N := some 33) (v := ?_) (a' := ?_) #[true, true, true, false, false, false, false, false, false, false, false] rfl rfl (by kernel_rfl) (fun _ _ _ h => h) (Or.inl ⟨by rfl, ?_⟩) ?_ ?_
        rotate_left
        · intro w_
          go_simp
          try with_reducible rfl
        rotate_left
        · simp only [Act.put, List.setIfInBounds_toArray, List.set_cons_zero, List.set_cons_succ]
          rfl
        refine take_ (i := 3) (N := some 34) (v := .int .i64 x) (a' := ?_) #[true, true, true, true, false, false, false, false, false, false, false] rfl rfl (by kernel_rfl) (fun _ _ _ h => h) (Or.inl ⟨by rfl, fun w' h => by have hc : w'.cell? ⟨w.heap.size, i, none⟩ = some (.int .i64 x) := (by rw [cell_of_row w' _ i _ _ _ (h.get 2 rfl)]; exact HX.out); go_simp⟩) hHeld ?_ ?_
        rotate_left
        · simp only [Act.put, List.setIfInBounds_toArray, List.set_cons_zero, List.set_cons_succ]
          rfl
        refine pure_ (i := 4) (N := some 35) (v := ?_) (a' := ?_) #[true, true, true, true, true, false, false, false, false, false, false] rfl rfl (by kernel_rfl) (fun _ _ _ h => h) (Or.inl ⟨by rfl, ?_⟩) ?_ ?_
        rotate_left
        · intro w_
          go_simp
          try with_reducible rfl
        rotate_left
        · simp only [Act.put, List.setIfInBounds_toArray, List.set_cons_zero, List.set_cons_succ]
          rfl
        refine pure_ (i := 5) (N := some 36) (v := ?_) (a' := ?_) #[true, true, true, true, true, true, false, false, false, false, false] rfl rfl (by kernel_rfl) (fun _ _ _ h => h) (Or.inl ⟨by rfl, ?_⟩) ?_ ?_
        rotate_left
        · intro w_
          go_simp
          try with_reducible rfl
        rotate_left
        · simp only [Act.put, List.setIfInBounds_toArray, List.set_cons_zero, List.set_cons_succ]
          rfl
        refine take_ (i := 6) (N := some 37) (v := .int .u8 y) (a' := ?_) #[true, true, true, true, true, true, true, false, false, false, false] rfl rfl (by kernel_rfl) (fun _ _ _ h => h) (Or.inl ⟨by rfl, fun w' h => by have hc : w'.cell? ⟨w.heap.size + 1, i, none⟩ = some (.int .u8 y) := (by rw [cell_of_row w' _ i _ _ _ (h.get 1 rfl)]; exact HY.out); go_simp⟩) hHeld ?_ ?_
        rotate_left
        · simp only [Act.put, List.setIfInBounds_toArray, List.set_cons_zero, List.set_cons_succ]
          rfl
        refine pure_ (i := 7) (N := some 38) (v := ?_) (a' := ?_) #[true, true, true, true, true, true, true, true, false, false, false] rfl rfl (by kernel_rfl) (fun _ _ _ h => h) (Or.inl ⟨by rfl, ?_⟩) ?_ ?_
        rotate_left
        · intro w_
          go_simp
          try with_reducible rfl
        rotate_left
        · simp only [Act.put, List.setIfInBounds_toArray, List.set_cons_zero, List.set_cons_succ]
          rfl
        refine pure_ (i := 8) (N := some 39) (v := ?_) (a' := ?_) #[true, true, true, true, true, true, true, true, true, false, false] rfl rfl (by kernel_rfl) (fun _ _ _ h => h) (Or.inl ⟨by rfl, ?_⟩) ?_ ?_
        rotate_left
        · intro w_
          go_simp
          try with_reducible rfl
        rotate_left
        · simp only [Act.put, List.setIfInBounds_toArray, List.set_cons_zero, List.set_cons_succ]
          rfl
        refine pure_ (i := 9) (N := some 40) (v := ?_) (a' := ?_) #[true, true, true, true, true, true, true, true, true, true, false] rfl rfl (by kernel_rfl) (fun _ _ _ h => h) (Or.inl ⟨by rfl, ?_⟩) ?_ ?_
        rotate_left
        · intro w_
          go_simp
          try with_reducible rfl
        rotate_left
        · simp only [Act.put, List.setIfInBounds_toArray, List.set_cons_zero, List.set_cons_succ]
          rfl
        have hcx : wr.drew.cell? ⟨bd, i, none⟩ = some (.int .i64 z) := by rw [cell_of_row _ _ i _ _ _ (hHeld.get 0 rfl)]; exact HZ.out
        have hfz : wr.drew.frozen? ⟨bd, i, none⟩ = false := frozen_of_row _ _ i _ _ (hHeld.get 0 rfl)
        refine last_ (i := 10) (N := none) #[true, true, true, true, true, true, true, true, true, true, true] rfl rfl (by kernel_rfl) (by decide) (fun K hK => ?_)
        refine skip_ (by rfl) rfl (show (execOp _ _).run Try.prog _ = .ok .skip (wr.drew.setCell ⟨bd, i, none⟩ (.int .i64 (x - y))) from (by go_simp <;> simp only [hwy, hwx])) ?_
        refine hK.out _ _ ?_
        clear hK K
        refine done_ (by kernel_rfl) ?_
        have HH2 : Hd (Holds w [(bd, .cells (vec (d.set i (x - y))) 22 (0, 0)), (w.heap.size + 1, .cells (bvec m) 28 (0, 0)), (w.heap.size, .cells (vec v) 22 (0, 0))] (wr.drew.setCell ⟨bd, i, none⟩ (.int .i64 (x - y)))) := ⟨by rw [← vec_set]; exact Holds_cell hHeld i _ HF.out.1 HF.out.2⟩
        clear hHeld hcx hfz HH
        go_wp2_with fail
        go_roundg (7 - i)
        case measure => have := HK.out; omega
        case rel => exact ⟨i + 1, _, by omega, by first | rfl | congr 1, ⟨by have := HK.out; omega⟩, HH2, HG2⟩
    · obtain rfl : i = 8 := by omega
      have hu : upV v k = upV v k := rfl
      have hl := low HA.out.1 hk HA.out.2.2.2 HG.out
      have hw1 : wrap64 (nth v (k : Int) + 1) = nth v (k : Int) + 1 := by unfold wrap64; omega
      have hw2 : wrap64 (nth v (k : Int) + 1 + 1) = nth v (k : Int) + 1 + 1 := by unfold wrap64; omega
      have HT := Hd.mk (vec_Tick v k hk HA.out.1)
      rw [hw1] at HT
      obtain ⟨k1, hk1⟩ : ∃ k1 : Nat, ((k : Int) + 1) % 8 = (k1 : Int) := ⟨((k : Int) + 1).toNat % 8, by omega⟩
      have hk1b : k1 < 8 := by omega
      have hk2 : (k1 : Int) < 8 := by omega
      have hy1 := may_at HA.out.2.2.2 (nth_at HA.out.1 hk1b)
      have hw3 : wrap64 (nth v (k1 : Int) + 1) = nth v (k1 : Int) + 1 := by unfold wrap64; omega
      have ul : (upV v k).length = 8 := by rw [upV_len]; exact HA.out.1
      have dl := HG.out.1
      have Q1 := Hd.mk (vec_Ready v d (k : Int) (nth v (k : Int) + 1) (by omega) HA.out.1 dl)
      rw [R1 HA.out.1 hk HA.out.2.2.2 HG.out] at Q1
      have Q2 := Hd.mk (vec_Ready (upV v k) d (k : Int) (nth v (k : Int) + 1) (by omega) ul dl)
      rw [R2 HA.out.1 hk HA.out.2.2.2 HG.out] at Q2
      have Q3 := Hd.mk (vec_Ready (upV v k) (d.set k (nth v (k : Int) + 1)) (k : Int) (nth v (k : Int) + 1 + 1) (by omega) ul (by simp [dl]))
      rw [R3 HA.out.1 hk HA.out.2.2.2 HG.out] at Q3
      have Q4 := Hd.mk (vec_Ready v (d.set k1 (nth v (k1 : Int) + 1)) (k : Int) (nth v (k : Int) + 1) (by omega) HA.out.1 (by simp [dl]))
      rw [R4 HA.out.1 hk HA.out.2.2.2 HG.out hk1b] at Q4
      have Q5 := Hd.mk (vec_Ready v (d.set k (nth v (k : Int) + 1)) (k : Int) (nth v (k : Int) + 1 + 1) (by omega) HA.out.1 (by simp [dl]))
      rw [R5 HA.out.1 hk HA.out.2.2.2 HG.out] at Q5
      have NX : Hd ((vec d).setIfInBounds k (.int .i64 (nth v (k : Int) + 1)) = vec (d.set k (nth v (k : Int) + 1))) := ⟨vec_set _ _ _⟩
      have NL : Hd ((vec d).setIfInBounds k1 (.int .i64 (nth v (k1 : Int) + 1)) = vec (d.set k1 (nth v (k1 : Int) + 1))) := ⟨vec_set _ _ _⟩
      obtain ⟨z0, hz0⟩ := at8 dl hk
      obtain ⟨z1, hz1⟩ := at8 dl hk1b
      have Z0 := Hd.mk (vec_at hz0)
      have Z1 := Hd.mk (vec_at hz1)
      have Z2 := Hd.mk (vec_at (nth_at HA.out.1 hk1b))
      have S3 := Hd.mk (show (Try.prog.info? 24).map (·.size) = some (vec (upV v k)).size by rw [vec_size, ul]; exact size_vec)
      have S4 := Hd.mk (show (vec zero8).size = (vec (upV v k)).size by rw [vec_size, vec_size, ul]; rfl)
      have S5 := Hd.mk (show (Try.prog.info? 22).map (·.size) = some (vec d).size by rw [vec_size, dl]; exact size_eight)
      have S6 := Hd.mk (show (vec zero8).size = (vec d).size by rw [vec_size, vec_size, dl]; rfl)
      have S7 := Hd.mk (show (Try.prog.info? 22).map (·.size) = some (vec (d.set k (nth v (k : Int) + 1))).size by rw [vec_size, List.length_set, dl]; exact size_eight)
      have S8 := Hd.mk (show (Try.prog.info? 22).map (·.size) = some (vec (d.set k1 (nth v (k1 : Int) + 1))).size by rw [vec_size, List.length_set, dl]; exact size_eight)
      have hz := zeroVec
      clear hu hl hy1 ul dl hz0 hz1 HG HK HF HA
      have hn1 : 0 ≤ (k : Int) := by omega
      have hn2 : (k : Int) < 8 := by omega
      generalize nth v (k1 : Int) = y1 at *
      generalize nth v (k : Int) = x0 at *
      generalize upV v k = u at *
      generalize d.set k (x0 + 1) = nx at *
      generalize d.set k1 (y1 + 1) = lt at *
      go_wp2_with (first | ((with_reducible refine gate_dst (N := 42) rfl ?_); refine wpList_load_row rfl 22 _ rfl w.heap.size rfl 22 (vec v) (0, 0) _ (HH.out.get 2 rfl) Try.underlying22 rfl S1.out ?_))
      refine (HT.out _).mono ?_; rintro e w4 ⟨rfl, h1⟩
      have H5 := Hd.mk (((HH.out.call h1).fresh (.cells (vec zero8) 24)).set (vec u))
      clear HH h1 HT
      go_upto_region 12 with (first | ((with_reducible refine gate_store (t := 24) rfl ?_); refine wpList_store_row rfl _ _ _ rfl w4.heap.size (vec u) rfl rfl 24 (vec zero8) (heap_alloc_new _ _) S3.out S4.out (vec_one _) ?_; generalize (w4.alloc (.cells (vec zero8) 24)).setRow w4.heap.size (vec u) = W5 at *; generalize w4.heap.size = bu at *))
      have H6n := Hd.mk (H5.out.fresh (.cells (vec zero8) 22))
      have F6 := Hd.mk (NewHolds_more H6n.out)
      have H6 := Hd.mk (H6n.out.set (vec d))
      clear H6n
      go_upto_region 13 with (first | ((with_reducible refine gate_dst (N := 47) rfl ?_); refine wpList_load_row rfl 22 _ rfl bd rfl 22 (vec d) (0, 0) _ (H5.out.get 1 rfl) Try.underlying22 rfl S5.out ?_) | ((with_reducible refine gate_store (t := 22) rfl ?_); refine wpList_store_row rfl _ _ _ rfl W5.heap.size (vec d) rfl rfl 22 (vec zero8) (heap_alloc_new _ _) S5.out S6.out (vec_one _) ?_; generalize (W5.alloc (.cells (vec zero8) 22)).setRow W5.heap.size (vec d) = W6 at *; generalize W5.heap.size = bn at *))
      clear H5
      have hcx : W6.cell? ⟨bn, k, none⟩ = some (.int .i64 z0) := by rw [cell_of_row _ _ k _ _ _ (H6.out.get 0 rfl)]; exact Z0.out
      have hfz : W6.frozen? ⟨bn, k, none⟩ = false := frozen_of_row _ _ k _ _ (H6.out.get 0 rfl)
      have H7 := Hd.mk (Holds_cell H6.out k (.int .i64 (x0 + 1)) F6.out.1 F6.out.2)
      rw [NX.out] at H7
      go_upto_region 14 with (fail)
      clear hcx hfz H6 F6
      generalize W6.setCell ⟨bn, k, none⟩ (.int .i64 (x0 + 1)) = W7 at *
      have H8n := Hd.mk (H7.out.fresh (.cells (vec zero8) 22))
      have F8 := Hd.mk (NewHolds_more H8n.out)
      have H8 := Hd.mk (H8n.out.set (vec d))
      clear H8n
      go_upto_region 15 with (first | ((with_reducible refine gate_dst (N := 51) rfl ?_); refine wpList_load_row rfl 22 _ rfl bd rfl 22 (vec d) (0, 0) _ (H7.out.get 2 rfl) Try.underlying22 rfl S5.out ?_) | ((with_reducible refine gate_store (t := 22) rfl ?_); refine wpList_store_row rfl _ _ _ rfl W7.heap.size (vec d) rfl rfl 22 (vec zero8) (heap_alloc_new _ _) S5.out S6.out (vec_one _) ?_; generalize (W7.alloc (.cells (vec zero8) 22)).setRow W7.heap.size (vec d) = W8 at *; generalize W7.heap.size = bl at *))
      clear H7
      have hcx : W8.cell? ⟨bl, k1, none⟩ = some (.int .i64 z1) := by rw [cell_of_row _ _ k1 _ _ _ (H8.out.get 0 rfl)]; exact Z1.out
      have hfz : W8.frozen? ⟨bl, k1, none⟩ = false := frozen_of_row _ _ k1 _ _ (H8.out.get 0 rfl)
      have hcv : W8.cell? ⟨w.heap.size, k1, none⟩ = some (.int .i64 y1) := by rw [cell_of_row _ _ k1 _ _ _ (H8.out.get 5 rfl)]; exact Z2.out
      have hka : wrap64 ((k : Int) + 1) = (k : Int) + 1 := wrapk hk
      have hkb : ((k : Int) + 1).tmod 8 = (k1 : Int) := tmod8 hk1
      have H9 := Hd.mk (Holds_cell H8.out k1 (.int .i64 (y1 + 1)) F8.out.1 F8.out.2)
      rw [NL.out] at H9
      go_upto_region 16 with (fail)
      clear hcx hfz hcv H8 F8
      generalize W8.setCell ⟨bl, k1, none⟩ (.int .i64 (y1 + 1)) = W9 at *
      go_wp2_with (first | ((with_reducible refine gate_dst (N := 64) rfl ?_); refine gate_guard (by rfl) ?_; refine wpList_load_row rfl 22 _ rfl w.heap.size rfl 22 (vec v) (0, 0) _ (H9.out.get 5 rfl) Try.underlying22 rfl S1.out ?_) | ((with_reducible refine gate_dst (N := 67) rfl ?_); refine gate_guard (by rfl) ?_; refine wpList_load_row rfl 22 _ rfl bd rfl 22 (vec d) (0, 0) _ (H9.out.get 3 rfl) Try.underlying22 rfl S5.out ?_))
      refine (Q1.out _).mono ?_; rintro e wg0 ⟨rfl, h1⟩
      have G0 := Hd.mk (H9.out.call h1)
      clear H9 h1
      go_wp2_with (first | ((with_reducible refine gate_dst (N := 71) rfl ?_); refine gate_guard (by rfl) ?_; refine wpList_load_row rfl 24 _ rfl bu rfl 24 (vec u) (0, 0) _ (G0.out.get 2 rfl) Try.underlying24 rfl S3.out ?_) | ((with_reducible refine gate_dst (N := 74) rfl ?_); refine gate_guard (by rfl) ?_; refine wpList_load_row rfl 22 _ rfl bd rfl 22 (vec d) (0, 0) _ (G0.out.get 3 rfl) Try.underlying22 rfl S5.out ?_))
      refine (Q2.out _).mono ?_; rintro e wg1 ⟨rfl, h1⟩
      have G1 := Hd.mk (G0.out.call h1)
      clear G0 h1
      go_wp2_with (first | ((with_reducible refine gate_dst (N := 79) rfl ?_); refine gate_guard (by rfl) ?_; refine wpList_load_row rfl 24 _ rfl bu rfl 24 (vec u) (0, 0) _ (G1.out.get 2 rfl) Try.underlying24 rfl S3.out ?_) | ((with_reducible refine gate_dst (N := 83) rfl ?_); refine gate_guard (by rfl) ?_; refine wpList_load_row rfl 22 _ rfl bn rfl 22 (vec nx) (0, 0) _ (G1.out.get 1 rfl) Try.underlying22 rfl S7.out ?_))
      refine (Q3.out _).mono ?_; rintro e wg2 ⟨rfl, h1⟩
      have G2 := Hd.mk (G1.out.call h1)
      clear G1 h1
      go_wp2_with (first | ((with_reducible refine gate_dst (N := 87) rfl ?_); refine gate_guard (by rfl) ?_; refine wpList_load_row rfl 22 _ rfl w.heap.size rfl 22 (vec v) (0, 0) _ (G2.out.get 5 rfl) Try.underlying22 rfl S1.out ?_) | ((with_reducible refine gate_dst (N := 90) rfl ?_); refine gate_guard (by rfl) ?_; refine wpList_load_row rfl 22 _ rfl bl rfl 22 (vec lt) (0, 0) _ (G2.out.get 0 rfl) Try.underlying22 rfl S8.out ?_))
      refine (Q4.out _).mono ?_; rintro e wg3 ⟨rfl, h1⟩
      have G3 := Hd.mk (G2.out.call h1)
      clear G2 h1
      go_wp2_with (first | ((with_reducible refine gate_dst (N := 95) rfl ?_); refine gate_guard (by rfl) ?_; refine wpList_load_row rfl 22 _ rfl w.heap.size rfl 22 (vec v) (0, 0) _ (G3.out.get 5 rfl) Try.underlying22 rfl S1.out ?_) | ((with_reducible refine gate_dst (N := 99) rfl ?_); refine gate_guard (by rfl) ?_; refine wpList_load_row rfl 22 _ rfl bn rfl 22 (vec nx) (0, 0) _ (G3.out.get 1 rfl) Try.underlying22 rfl S7.out ?_))
      refine (Q5.out _).mono ?_; rintro e wg4 ⟨rfl, h1⟩
      have G4 := Hd.mk (G3.out.call h1)
      clear G3 h1
      go_wp2_with fail
      go_ret
      exact ⟨rfl, G4.out.2⟩

theorem leaves_bytes8 : Opn.leaves Try.prog 5 28 = some (List.replicate 8 (.int .u8)) := by kernel_rfl
def IsBytes8 (v : Value) (l : List Int) : Prop := v = .agg (bvec l) ∧ l.length = 8 ∧ ∀ x ∈ l, 0 ≤ x ∧ x < 256
theorem u8b {a : Int} (h : (Lit.int .u8 a).wf = true) : 0 ≤ a ∧ a < 256 := by
  obtain ⟨n, rfl, hn⟩ := u8_of h; omega
theorem open_bytes8 {H : Type} {enc : TypeId × Value → H} {w : World} {base : Nat} {spare : Nat → Bool} {held : Bool} {r : Reach} {b0 : Nat} {v : Value} {d : DataW H} {p : List MemPlace} {S : Prop} (_ : S)
    (hv : Value.okWide Try.prog w r b0 28 v) (h : DataW.Trod enc Try.prog w base spare held 28 v d p) : ∃ l : List Int, IsBytes8 v l := by
  obtain ⟨cs, rfl, hc⟩ := Opn.open_array 5 _ Try.underlying28 leaves_bytes8 hv h
  obtain ⟨l, rfl, hl, hx⟩ := Opn.fit_ints .u8 8 cs hc
  exact ⟨l, rfl, hl, fun x h => u8b (hx x h)⟩
theorem law_VectorNext {x z : Value} {v m : List Int} (hv : IsEight x v) (a : Int) (ha : (Lit.int .u8 a).wf = true) (hm : IsBytes8 z m) (w : World) :
    Calls Try.prog 5 #[x, .int .u8 a, z] w fun e w' => e = .returned (.bool true) ∧ Below w.heap.size w w' := by
  obtain ⟨rfl, hv, _⟩ := hv
  obtain ⟨rfl, hml, hmb⟩ := hm
  rcases hq : mayV v with _ | _
  · exact walk_off v m a hv hq w
  · exact walk v m a hv hml (u8b ha) hmb hq w
end Go.Proofs.Ytfcopeecgbgljaa.vectorNext
