/- Texts that belong together, in one. -/
import Derived.Test.YtcgkkjfbdappoaaGreatKeepAll
import Derived.ChangeKeysEq
/- Vectors of eight numbers: as the machine has them, and what is joined and met. -/
namespace Go.Proofs.YtcgkkjfbdappoaaGreat
open Go.RowKit Go.Proofs.YtcgkkjfbdappoaaGreatW.PrintWords Go.Proofs.YtcgkkjfbdappoaaGreatW.PrintLast Go.Proofs.YtcgkkjfbdappoaaGreatW.PrintMore
set_option linter.unusedVariables false
set_option linter.unusedSimpArgs false

/-- The cells of a vector. -/
def vec (l : List Int) : Array Value := (l.map (Value.int .i64)).toArray
theorem vec_size (l : List Int) : (vec l).size = l.length := by simp [vec]
theorem vec_at {l : List Int} {k : Nat} {x : Int} (h : l[k]? = some x) : (vec l)[k]? = some (.int .i64 x) := by simp [vec, h]
theorem vec_set (l : List Int) (k : Nat) (x : Int) : (vec l).setIfInBounds k (.int .i64 x) = vec (l.set k x) := by
  unfold vec
  rw [List.map_set]
  simp
theorem vec_one (l : List Int) : (vec l).all (·.oneCell') = true := by
  rw [Array.all_eq_true]
  intro i h
  simp [vec]
  rfl
theorem size_vec : (Tryz.prog.info? 32).map (·.size) = some 8 := by kernel_rfl
def zero8 : List Int := List.replicate 8 0
theorem zeroVec (w : World) : (zeroValue 32).run Tryz.prog w = .ok (.agg (vec zero8)) w := by kernel_rfl
theorem index_vec {l : List Int} {k : Nat} {x : Int} (hl : l.length = 8) (h : l[k]? = some x) (w : World) : (Instr.index 32 (.agg (vec l)) (.int .i64 (k : Int))).run Tryz.prog w = .ok (.int .i64 x) w := by
  have hk : k < 8 := by rw [← hl]; exact (List.getElem?_eq_some_iff.1 h).1
  have hn : 0 ≤ (k : Int) ∧ (k : Int) < 8 := by omega
  have hs : (sizeOf 3).run Tryz.prog w = .ok 1 w := by kernel_rfl
  have ha : (isAgg 3).run Tryz.prog w = .ok false w := by kernel_rfl
  have hv := vec_at h
  simp [Instr.index, run_underlying Tryz.underlying32, asIntOf, hn, hs, part, ha, hv]
  intro h8; omega

/-- What is done number by number. -/
def bothL (f : Int → Int → Int) (a b : List Int) : List Int := List.zipWith f a b
def joinL (a b : List Int) : List Int := bothL mx a b
def meetL (a b : List Int) : List Int := bothL mn a b
/-- Behind so many rounds. -/
def mixL (f : Int → Int → Int) (a b : List Int) (k : Nat) : List Int := (bothL f a b).take k ++ a.drop k
theorem bothL_len {f : Int → Int → Int} {a b : List Int} (ha : a.length = 8) (hb : b.length = 8) : (bothL f a b).length = 8 := by simp [bothL, ha, hb]
theorem mixL_zero (f : Int → Int → Int) (a b : List Int) : mixL f a b 0 = a := by simp [mixL]
theorem mixL_full {f : Int → Int → Int} {a b : List Int} (ha : a.length = 8) (hb : b.length = 8) : mixL f a b 8 = bothL f a b := by
  unfold mixL
  rw [List.take_of_length_le (by rw [bothL_len ha hb]; exact Nat.le_refl _), List.drop_eq_nil_of_le (by omega), List.append_nil]
theorem mixL_len {f : Int → Int → Int} {a b : List Int} (ha : a.length = 8) (hb : b.length = 8) {k : Nat} (hk : k ≤ 8) : (mixL f a b k).length = 8 := by
  unfold mixL
  rw [List.length_append, List.length_take, List.length_drop, bothL_len ha hb]; omega
theorem mixL_at {f : Int → Int → Int} {a b : List Int} (ha : a.length = 8) (hb : b.length = 8) {k : Nat} (hk : k < 8) : (mixL f a b k)[k]? = a[k]? := by
  unfold mixL
  have h1 : ((bothL f a b).take k).length = k := by rw [List.length_take, bothL_len ha hb]; omega
  rw [List.getElem?_append_right (by omega), h1, List.getElem?_drop]; simp
theorem mixL_set {f : Int → Int → Int} {a b : List Int} (ha : a.length = 8) (hb : b.length = 8) {k : Nat} (hk : k < 8) {x y : Int} (hx : a[k]? = some x) (hy : b[k]? = some y) : (mixL f a b k).set k (f x y) = mixL f a b (k + 1) := by
  unfold mixL
  have h1 : ((bothL f a b).take k).length = k := by rw [List.length_take, bothL_len ha hb]; omega
  have h2 : (bothL f a b)[k]? = some (f x y) := by simp [bothL, List.getElem?_zipWith, hx, hy]
  have h3 : k < (bothL f a b).length := by rw [bothL_len ha hb]; exact hk
  have h4 : (bothL f a b)[k] = f x y := by rw [List.getElem?_eq_getElem h3] at h2; exact Option.some.inj h2
  have h5 : a.drop k = x :: a.drop (k + 1) := by
    have : k < a.length := by omega
    rw [List.drop_eq_getElem_cons this]
    rw [List.getElem?_eq_getElem this] at hx
    rw [Option.some.inj hx]
  rw [List.set_append_right _ _ (by omega), h1, Nat.sub_self, h5, List.set_cons_zero, List.take_succ_eq_append_getElem h3, h4, List.append_assoc]
  rfl

/-- Whether two vectors are the same. -/
def eqV (a b : List Int) : Bool := decide (a = b)
theorem eqItems_vec (d : Nat) (a b : List Int) (ha : a.length = 8) (hb : b.length = 8) (w : World) : ∀ (is : List Nat), (∀ i ∈ is, i < 8) →
    (Op.eqItems (d + 1) 3 1 (vec a) (vec b) is).run Tryz.prog w = .ok (is.all fun i => a[i]? == b[i]?) w := by
  intro is
  induction is with
  | nil => intro _; simp [Op.eqItems]
  | cons i is ih =>
    intro h
    have hi := h i List.mem_cons_self
    obtain ⟨x, hx⟩ : ∃ x, a[i]? = some x := ⟨_, List.getElem?_eq_getElem (by omega)⟩
    obtain ⟨y, hy⟩ : ∃ y, b[i]? = some y := ⟨_, List.getElem?_eq_getElem (by omega)⟩
    have hs : (sizeOf 3).run Tryz.prog w = .ok 1 w := by kernel_rfl
    have hag : (isAgg 3).run Tryz.prog w = .ok false w := by kernel_rfl
    have hva := vec_at hx
    have hvb := vec_at hy
    have p1 : (part 3 (vec a) (i * 1)).run Tryz.prog w = .ok (.int .i64 x) w := by simp [part, hag, hva]
    have p2 : (part 3 (vec b) (i * 1)).run Tryz.prog w = .ok (.int .i64 y) w := by simp [part, hag, hvb]
    have p3 : (Op.equalIn (d + 1) 3 (.int .i64 x) (.int .i64 y)).run Tryz.prog w = .ok (x == y) w := by simp [Op.equalIn, run_underlying Tryz.underlying3]
    simp only [Op.eqItems, Sem.run_bind, p1, p2, p3, Result.andThen_ok]
    have hih := ih (fun j hj => h j (List.mem_cons_of_mem _ hj))
    by_cases e : x = y
    · subst e
      simp [hih, hx, hy]
    · have : (x == y) = false := beq_eq_false_iff_ne.2 e
      simp [this, hx, hy, e]
set_option maxRecDepth 100000 in
theorem eqVec (d : Nat) {a b : List Int} (ha : a.length = 8) (hb : b.length = 8) (w : World) : (Op.equalIn (d + 2) 32 (.agg (vec a)) (.agg (vec b))).run Tryz.prog w = .ok (eqV a b) w := by
  obtain ⟨i0, hi⟩ : ∃ i0, Tryz.prog.info? 3 = some i0 := by
    have : (Tryz.prog.info? 3).isSome = true := by kernel_rfl
    exact Option.isSome_iff_exists.1 this
  rw [run_equalIn_array w (d + 1) (vec a) (vec b) Tryz.underlying32 hi, show Tryz.prog.cellsOf 3 = 1 from by kernel_rfl, eqItems_vec d a b ha hb w (List.range 8) (fun i hi => by simpa using hi)]
  congr 1
  unfold eqV
  rw [Bool.eq_iff_iff, List.all_eq_true, decide_eq_true_eq]
  constructor
  · intro h
    apply List.ext_getElem?
    intro i
    by_cases hi : i < 8
    · exact beq_iff_eq.1 (h i (by simpa using hi))
    · rw [List.getElem?_eq_none (by omega), List.getElem?_eq_none (by omega)]
  · intro h i _; rw [h]; simp
/-- A whole variable, loaded. -/
theorem run_load_row {P : Program} {o : Oper} {ρ : Operand → Value} {w : World} (ty : TypeId) (x : Operand) (ho : o.op = .load ty x)
    (g : Nat) (hx : ρ x = .pointer (some ⟨g, 0, none⟩)) (t : TypeId) (cs : Array Value) (fr : Nat × Nat) (d : TypeDesc) (hg : w.heap[g]? = some (.cells cs t fr))
    (hu : P.underlying ty = some d) (hd : (match d with | .struct _ | .array _ _ => true | _ => false) = true) (hi : (P.info? ty).map (·.size) = some cs.size) : (execOp ρ o).run P w = .ok (.value (.agg cs)) w := by
  unfold execOp
  simp only [ho, hx, Instr.loadAt, Instr.sureAddr, Sem.run_bind, Sem.run_pure, Result.andThen_ok, run_loadVar_row w g t ty cs fr d hg hu hd hi]
end Go.Proofs.YtcgkkjfbdappoaaGreat

/- vector's both, Join, Meet: their contracts. -/
namespace Go.Proofs.YtcgkkjfbdappoaaGreat
open Go.RowKit Go.Proofs.YtcgkkjfbdappoaaGreatW.PrintWords Go.Proofs.YtcgkkjfbdappoaaGreatW.PrintLast Go.Proofs.YtcgkkjfbdappoaaGreatW.PrintMore
attribute [local go_sem] max2_int min2_int max_two min_two
set_option linter.unusedVariables false
set_option linter.unusedSimpArgs false

theorem join_one (x y : Int) (w : World) : Calls Tryz.prog 104 #[.int .i64 x, .int .i64 y] w fun e w' => e = .returned (.int .i64 (mx x y)) ∧ Below w.heap.size w w' := by
  have hm : Hd (mx x y = if x < y then y else x) := ⟨rfl⟩
  by_cases h : x < y
  · go_enter Tryz.func104, Tryz.ntmps104
    go_wp2
    go_ret
    exact ⟨by rw [hm.out, if_pos h]; rfl, Below.refl _ _⟩
  · have h2 : y ≤ x := by omega
    go_enter Tryz.func104, Tryz.ntmps104
    go_wp2
    go_ret
    exact ⟨by rw [hm.out, if_neg (by omega)]; rfl, Below.refl _ _⟩

theorem alloc3 (w : World) (A B C : Obj) : ((((w.alloc A).alloc B).alloc C).heap[w.heap.size]? = some A) ∧ ((((w.alloc A).alloc B).alloc C).heap[w.heap.size + 1]? = some B) ∧ ((((w.alloc A).alloc B).alloc C).heap[w.heap.size + 1 + 1]? = some C) ∧ Below w.heap.size w (((w.alloc A).alloc B).alloc C) ∧ (((w.alloc A).alloc B).alloc C).heap.size = w.heap.size + 1 + 1 + 1 := by
  refine ⟨?_, ?_, ?_, ?_, by simp⟩
  · rw [heap_alloc_old _ _ (by simp; omega), heap_alloc2_old]
  · rw [heap_alloc_old _ _ (by simp), heap_alloc2_new]
  · have := heap_alloc_new ((w.alloc A).alloc B) C
    simpa using this
  · exact (((Below.refl _ _).alloc (Nat.le_refl _) _).alloc (by simp) _).alloc (by simp; omega) _

set_option maxHeartbeats 1000000 in
set_option maxRecDepth 100000 in
theorem both_join (a b : List Int) (ha : a.length = 8) (hb : b.length = 8) (w : World) :
    Calls Tryz.prog 103 #[.agg (vec a), .agg (vec b), .func (.func 104) #[] #[]] w fun e w' => e = .returned (.agg (vec (bothL mx a b))) ∧ Below w.heap.size w w' := by
  have hz := zeroVec
  obtain ⟨p1, p2, p3, pb, ps⟩ := alloc3 w (.cells (vec a) 32) (.cells (vec b) 32) (.cells (vec zero8) 32)
  have P1 := Hd.mk p1
  have P2 := Hd.mk p2
  have P3 := Hd.mk p3
  have PB := Hd.mk pb
  have Ha := Hd.mk ha
  have Hb := Hd.mk hb
  clear ha hb p1 p2 p3 pb ps
  go_enter Tryz.func103, Tryz.ntmps103
  go_upto_region 1 with (fail)
  clear hz
  generalize ((w.alloc (.cells (vec a) 32)).alloc (.cells (vec b) 32)).alloc (.cells (vec zero8) 32) = W at *
  go_wp2_with (first | ((with_reducible refine gate_load (t := 32) rfl ?_); refine wpList_load_row rfl _ _ rfl (w.heap.size + 1) rfl 32 (vec b) (0, 0) _ P2.out Tryz.underlying32 rfl (by rw [vec_size, Hb.out]; exact size_vec) ?_))
  go_loopg [7, 8, 10] 8 (fun kq v7 v8 v10 w' => ∃ k : Nat, k ≤ 8 ∧ v10 = .int .i64 (k : Int) ∧ Hd (kq + k = 8) ∧ Hd (Below w.heap.size w w') ∧ Hd (w'.heap[w.heap.size]? = some (.cells (vec (mixL mx a b k)) 32 (0, 0))) ∧ Hd (w'.heap[w.heap.size + 1 + 1]? = some (.cells (vec zero8) 32 (0, 0))) ∧ w.heap.size + 1 + 1 < w'.heap.size)
  case atStart => exact ⟨0, by omega, rfl, ⟨rfl⟩, PB, ⟨by rw [mixL_zero]; exact P1.out⟩, P3, by have := (Array.getElem?_eq_some_iff.1 P3.out).1; exact this⟩
  case round =>
    clear P1 P2 P3 PB
    obtain ⟨k, hk, rfl, HK, HB, Q1, Q3, hsz⟩ := hrel
    by_cases hlt : k < 8
    · obtain ⟨x, hx⟩ : ∃ x, a[k]? = some x := ⟨_, List.getElem?_eq_getElem (by rw [Ha.out]; exact hlt)⟩
      obtain ⟨y, hy⟩ : ∃ y, b[k]? = some y := ⟨_, List.getElem?_eq_getElem (by rw [Hb.out]; exact hlt)⟩
      have hix := index_vec Hb.out hy
      have hcx : wr.cell? ⟨w.heap.size, k, none⟩ = some (.int .i64 x) := by rw [cell_of_row wr _ k _ _ _ Q1.out]; exact vec_at (by rw [mixL_at Ha.out Hb.out hlt]; exact hx)
      have hset := Hd.mk (mixL_set (f := mx) Ha.out Hb.out hlt hx hy)
      have H1 := Hd.mk (join_one x y)
      clear hx hy
      go_wp2_with fail
      refine (H1.out _).mono ?_; rintro e w5 ⟨rfl, h5⟩
      have Q1' : w5.heap[w.heap.size]? = some (.cells (vec (mixL mx a b k)) 32 (0, 0)) := (h5.block _ (by omega)).trans Q1.out
      have Q3' : w5.heap[w.heap.size + 1 + 1]? = some (.cells (vec zero8) 32 (0, 0)) := (h5.block _ (by omega)).trans Q3.out
      have R1 := Hd.mk Q1'
      have R3 := Hd.mk Q3'
      have hcx5 : w5.cell? ⟨w.heap.size, k, none⟩ = some (.int .i64 x) := (h5.cell (by show w.heap.size < wr.heap.size; omega)).trans hcx
      have hfz : w5.frozen? ⟨w.heap.size, k, none⟩ = false := frozen_of_row w5 _ k _ _ Q1'
      have HB5 := Hd.mk (below_step HB.out h5)
      have hsz5 : w.heap.size + 1 + 1 < w5.heap.size := Nat.lt_of_lt_of_le hsz h5.size
      clear Q1 Q3 Q1' Q3' hcx h5 HB hix hsz
      go_wp2_with fail
      go_roundg (7 - k)
      case measure => have := HK.out; omega
      case rel => exact ⟨k + 1, by omega, by first | rfl | congr 1, ⟨by have := HK.out; omega⟩, ⟨HB5.out.setCell (by simp) _⟩, ⟨by rw [heap_setCell_same _ _ _ _ _ _ R1.out, vec_set, hset.out]⟩, ⟨(heap_setCell_other _ _ _ _ (by simp; omega)).trans R3.out⟩, by simpa using hsz5⟩
    · obtain rfl : k = 8 := by omega
      have hml : (mixL mx a b 8).length = 8 := mixL_len Ha.out Hb.out (by omega)
      have hmf : mixL mx a b 8 = bothL mx a b := mixL_full Ha.out Hb.out
      rw [hmf] at hml
      have Q1' : wr.heap[w.heap.size]? = some (.cells (vec (bothL mx a b)) 32 (0, 0)) := by rw [← hmf]; exact Q1.out
      have R1 := Hd.mk Q1'
      have Hml := Hd.mk hml
      clear Q1' Q1 hmf hml
      go_wp2_with (first | ((with_reducible refine gate_load (t := 32) rfl ?_); refine wpList_load_row rfl _ _ rfl w.heap.size rfl 32 (vec (bothL mx a b)) (0, 0) _ R1.out Tryz.underlying32 rfl (by rw [vec_size, Hml.out]; exact size_vec) ?_) | ((with_reducible refine gate_store (t := 32) rfl ?_); refine wpList_store_row rfl _ _ _ rfl (w.heap.size + 1 + 1) (vec (bothL mx a b)) rfl rfl 32 (vec zero8) Q3.out (by rw [vec_size, Hml.out]; exact size_vec) (by rw [vec_size, vec_size, Hml.out]; rfl) (vec_one _) ?_))
      refine bodyPost_ret (v := .agg (vec (bothL mx a b))) (results_cell_row (p := 6) rfl _ _ (w.heap.size + 1 + 1) 32 (vec (bothL mx a b)) (0, 0) _ rfl (setRow_heap _ _ _ _ _ _ Q3.out) Tryz.underlying32 rfl (by rw [vec_size, Hml.out]; exact size_vec)) rfl ⟨rfl, below_setRow HB.out (by omega) _⟩

set_option maxHeartbeats 1000000 in
set_option maxRecDepth 100000 in
theorem vec_Join (a b : List Int) (ha : a.length = 8) (hb : b.length = 8) (w : World) :
    Calls Tryz.prog 91 #[.agg (vec a), .agg (vec b)] w fun e w' => e = .returned (.agg (vec (joinL a b))) ∧ Below w.heap.size w w' := by
  have hz := zeroVec
  obtain ⟨p1, p2, p3, pb, ps⟩ := alloc3 w (.cells (vec a) 32) (.cells (vec b) 32) (.cells (vec zero8) 32)
  have P1 := Hd.mk p1
  have P2 := Hd.mk p2
  have P3 := Hd.mk p3
  have PB := Hd.mk pb
  have Ha := Hd.mk ha
  have Hb := Hd.mk hb
  have H1 := Hd.mk (both_join a b ha hb)
  have Hl := Hd.mk (bothL_len (f := mx) ha hb)
  clear ha hb p1 p2 p3 pb ps
  go_enter Tryz.func91, Tryz.ntmps91
  go_upto_region 1 with (fail)
  clear hz
  generalize ((w.alloc (.cells (vec a) 32)).alloc (.cells (vec b) 32)).alloc (.cells (vec zero8) 32) = W at *
  go_wp2_with (first | ((with_reducible refine gate_dst (N := 5) rfl ?_); refine wpList_load_row rfl 32 _ rfl w.heap.size rfl 32 (vec a) (0, 0) _ P1.out Tryz.underlying32 rfl (by rw [vec_size, Ha.out]; exact size_vec) ?_) | ((with_reducible refine gate_dst (N := 6) rfl ?_); refine wpList_load_row rfl 32 _ rfl (w.heap.size + 1) rfl 32 (vec b) (0, 0) _ P2.out Tryz.underlying32 rfl (by rw [vec_size, Hb.out]; exact size_vec) ?_))
  refine (H1.out _).mono ?_; rintro e w5 ⟨rfl, h5⟩
  have Q3 := Hd.mk ((h5.block _ (Array.getElem?_eq_some_iff.1 P3.out).1).trans P3.out)
  have HB := Hd.mk (below_step PB.out h5)
  clear h5
  go_wp2_with (first | ((with_reducible refine gate_store (t := 32) rfl ?_); refine wpList_store_row rfl _ _ _ rfl (w.heap.size + 1 + 1) (vec (bothL mx a b)) rfl rfl 32 (vec zero8) Q3.out (by rw [vec_size, Hl.out]; exact size_vec) (by rw [vec_size, vec_size, Hl.out]; rfl) (vec_one _) ?_))
  refine bodyPost_ret (v := .agg (vec (joinL a b))) (results_cell_row (p := 4) rfl _ _ (w.heap.size + 1 + 1) 32 (vec (bothL mx a b)) (0, 0) _ rfl (setRow_heap _ _ _ _ _ _ Q3.out) Tryz.underlying32 rfl (by rw [vec_size, Hl.out]; exact size_vec)) rfl ⟨rfl, below_setRow HB.out (by omega) _⟩

end Go.Proofs.YtcgkkjfbdappoaaGreat

/- vector's Covers and Ready: their contracts. -/
namespace Go.Proofs.YtcgkkjfbdappoaaGreat
open Go.RowKit Go.Proofs.YtcgkkjfbdappoaaGreatW.PrintWords Go.Proofs.YtcgkkjfbdappoaaGreatW.PrintLast Go.Proofs.YtcgkkjfbdappoaaGreatW.PrintMore
set_option linter.unusedVariables false
set_option linter.unusedSimpArgs false

/-- Whether one vector has no less than another one. -/
def covL (a b : List Int) : Bool := eqV (joinL a b) a

set_option maxHeartbeats 1000000 in
set_option maxRecDepth 100000 in
theorem vec_Covers (a b : List Int) (ha : a.length = 8) (hb : b.length = 8) (w : World) :
    Calls Tryz.prog 58 #[.agg (vec a), .agg (vec b)] w fun e w' => e = .returned (.bool (covL a b)) ∧ Below w.heap.size w w' := by
  have p1 : ((w.alloc (.cells (vec a) 32)).alloc (.cells (vec b) 32)).heap[w.heap.size]? = some (.cells (vec a) 32 (0, 0)) := heap_alloc2_old _ _ _
  have p2 : ((w.alloc (.cells (vec a) 32)).alloc (.cells (vec b) 32)).heap[w.heap.size + 1]? = some (.cells (vec b) 32 (0, 0)) := heap_alloc2_new _ _ _
  have pb : Below w.heap.size w ((w.alloc (.cells (vec a) 32)).alloc (.cells (vec b) 32)) := ((Below.refl _ _).alloc (Nat.le_refl _) _).alloc (by simp) _
  have P1 := Hd.mk p1
  have P2 := Hd.mk p2
  have PB := Hd.mk pb
  have H1 := Hd.mk (vec_Join a b ha hb)
  have heq := fun w => eqVec 9998 (a := joinL a b) (b := a) (bothL_len ha hb) ha w
  have HE := Hd.mk heq
  have sa : (Tryz.prog.info? 32).map (·.size) = some (vec a).size := by rw [vec_size, ha]; exact size_vec
  have sb : (Tryz.prog.info? 32).map (·.size) = some (vec b).size := by rw [vec_size, hb]; exact size_vec
  have Sa := Hd.mk sa
  have Sb := Hd.mk sb
  clear ha hb p1 p2 pb heq sa sb
  go_enter Tryz.func58, Tryz.ntmps58
  go_upto_region 1 with (fail)
  generalize (w.alloc (.cells (vec a) 32)).alloc (.cells (vec b) 32) = W at *
  refine st_ 6 (S := fun W_ => W_.heap[w.heap.size]? = some (.cells (vec a) 32 (0, 0)) ∧ W_.heap[w.heap.size + 1]? = some (.cells (vec b) 32 (0, 0)) ∧ Below w.heap.size w W_) (ds := []) (⟨P1.out, P2.out, PB.out.drew⟩) (fun hHeld => ?_)
  refine tk_ 0 (some 5) (.agg (vec a)) rfl (fun w' h => run_load_row 32 _ rfl w.heap.size rfl 32 _ _ _ h.1 Tryz.underlying32 rfl Sa.out) hHeld ?_
  refine tk_ 1 (some 6) (.agg (vec b)) rfl (fun w' h => run_load_row 32 _ rfl (w.heap.size + 1) rfl 32 _ _ _ h.2.1 Tryz.underlying32 rfl Sb.out) hHeld ?_
  refine tk_ 3 (some 8) (.agg (vec a)) rfl (fun w' h => run_load_row 32 _ rfl w.heap.size rfl 32 _ _ _ h.1 Tryz.underlying32 rfl Sa.out) hHeld ?_
  refine cb_ 2 (some 7) Tryz.func91 H1 (fun _ hr => ⟨(hr.block _ (Array.getElem?_eq_some_iff.1 hHeld.1).1).trans hHeld.1, (hr.block _ (Array.getElem?_eq_some_iff.1 hHeld.2.1).1).trans hHeld.2.1, below_step hHeld.2.2 hr⟩) (fun wr1 hHeld => ?_)
  have heq := HE.out
  refine pu_ 4 (some 9) ?_
  refine pu_ 5 (some 4) ?_
  refine done_ (by kernel_rfl) ?_
  go_wp2
  go_ret
  exact ⟨rfl, hHeld.2.2⟩
end Go.Proofs.YtcgkkjfbdappoaaGreat
