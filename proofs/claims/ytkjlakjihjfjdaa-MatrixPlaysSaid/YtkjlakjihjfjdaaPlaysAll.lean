/- Texts that belong together, in one. -/
import Derived.Test.YtkjlakjihjfjdaaMatLawAll
import Derived.Test.YtkjlakjihjfjdaaRowIO
import Derived.Deep.AppendSrc
/- thimbleref18: At, Stable, over a slice of rows: their contracts; a slice of rows, copied. -/
namespace Go.Proofs.Ytkjlakjihjfjdaa
open Go.RowKit Go.Proofs.YtkjlakjihjfjdaaW.PrintWords Go.Proofs.YtkjlakjihjfjdaaW.PrintLast Go.Proofs.YtkjlakjihjfjdaaW.PrintMore
set_option linter.unusedVariables false
set_option linter.unusedSimpArgs false

/-- A slice of rows, from a block's begin on. -/
def SlIs (b n : Nat) (C : List Int) (W : World) : Prop := W.heap[b]? = some (.cells (vec C) 55 (0, 0)) ∧ 9 * n ≤ C.length
theorem rowS_at {C : List Int} {i k : Nat} (h : 9 * i + k < C.length) : C[9 * i + k]? = some (atM C i k) := by
  unfold atM
  rw [List.getD_eq_getElem?_getD, List.getElem?_eq_getElem h]; rfl
theorem SlIs.cell {b n : Nat} {C : List Int} {W : World} (h : SlIs b n C W) {i k : Nat} (hi : i < n) (hk : k < 9) : W.cell? ⟨b, i * 9 + k, none⟩ = some (.int .i64 (atM C i k)) := by
  have hl := h.2
  rw [cell_of_row W b _ _ _ _ h.1]
  have e : i * 9 + k = 9 * i + k := by omega
  rw [e]
  exact vec_at (rowS_at (by omega))
theorem SlIs.keep {b n : Nat} {C : List Int} {W W' : World} (h : SlIs b n C W) (hb : Below W.heap.size W W') : SlIs b n C W' :=
  ⟨(hb.block _ (Array.getElem?_eq_some_iff.1 h.1).1).trans h.1, h.2⟩
theorem SlIs.alloc {b n : Nat} {C : List Int} {W : World} (h : SlIs b n C W) (o : Obj) : SlIs b n C (W.alloc o) :=
  ⟨(heap_alloc_old _ _ (Array.getElem?_eq_some_iff.1 h.1).1).trans h.1, h.2⟩
theorem rowS_len {C : List Int} {i n : Nat} (h : 9 * n ≤ C.length) (hi : i < n) : (rowM C i).length = 9 := by unfold rowM; rw [List.length_take, List.length_drop]; omega
theorem rowS_take (C : List Int) (k : Nat) : (C.drop (k * 9)).take 9 = rowM C k := by unfold rowM; rw [Nat.mul_comm]
theorem atM_row (L : List Int) (i k : Nat) (hk : k < 9) : atM L i k = (rowM L i).getD k 0 := by
  unfold atM rowM
  rw [List.getD_eq_getElem?_getD, List.getD_eq_getElem?_getD, List.getElem?_take, if_pos hk, List.getElem?_drop]
theorem rowM_lay {C j : List Int} {k : Nat} (hj : j.length = 9) (h : 9 * (k + 1) ≤ C.length) (i : Nat) : rowM (layL C (k * 9) j) i = if i = k then j else rowM C i := by
  unfold rowM
  rw [Nat.mul_comm k 9]
  split
  · rename_i e
    subst e
    have := layL_at C (9 * i) j (by rw [hj]; omega)
    rw [hj] at this
    exact this
  · rename_i e
    exact layL_off C (9 * k) j (by rw [hj]; omega) (9 * i) 9 (by rw [hj]; omega)
/-- The same rows, the same stable time. -/
theorem stabM_congr {n : Nat} {C L : List Int} (h : ∀ i, i < n → rowM C i = rowM L i) (h1 : 1 ≤ n) (h8 : n ≤ 8) : stabM n C = stabM n L := by
  have e : ∀ i k, i < n → k < 9 → atM C i k = atM L i k := fun i k hi hk => by rw [atM_row _ _ _ hk, atM_row _ _ _ hk, h i hi]
  have hb : BadM n C ↔ BadM n L := by
    constructor
    · rintro ⟨i, k, hi, hk, hlt⟩
      exact ⟨i, k, hi, hk, by rw [← e i k hi (by omega), ← e k k hk (by omega)]; exact hlt⟩
    · rintro ⟨i, k, hi, hk, hlt⟩
      exact ⟨i, k, hi, hk, by rw [e i k hi (by omega), e k k hk (by omega)]; exact hlt⟩
  have hl : ∀ m, m ≤ n → leastM C m = leastM L m := by
    intro m
    induction m with
    | zero => intro _; exact e 0 8 (by omega) (by omega)
    | succ m ih =>
      intro hm
      unfold leastM
      rw [ih (by omega), e m 8 (by omega) (by omega)]
  by_cases hq : BadM n C
  · rw [stabM_bad hq, stabM_bad (hb.1 hq)]
  · rw [stabM_good hq, stabM_good (fun h => hq (hb.2 h)), hl n (Nat.le_refl _)]

theorem nine_zero (j : Nat) (hj : j < 9) : (vec zero9)[j]! = .int .i64 0 := by
  have : j = 0 ∨ j = 1 ∨ j = 2 ∨ j = 3 ∨ j = 4 ∨ j = 5 ∨ j = 6 ∨ j = 7 ∨ j = 8 := by omega
  rcases this with rfl | rfl | rfl | rfl | rfl | rfl | rfl | rfl | rfl <;> rfl
theorem vec_app (a b : List Int) : vec (a ++ b) = vec a ++ vec b := by simp [vec]
theorem many_zero (N : Nat) : ((Array.range N).map fun i => (vec zero9)[i % (vec zero9).size]!) = vec (List.replicate N 0) := by
  apply Array.ext
  · simp [vec]
  · intro i h1 h2
    have hs : (vec zero9).size = 9 := rfl
    have := nine_zero (i % 9) (Nat.mod_lt _ (by omega))
    simp only [Array.getElem_map, Array.getElem_range, hs, this]
    simp [vec]
theorem zero_nine (m : Nat) : Builtin.zeroCells (vec zero9) m = vec (List.replicate (m * 9) 0) := many_zero (m * (vec zero9).size)
theorem made_nine (m : Nat) : madeCells (vec zero9) m = vec (List.replicate m 0) := many_zero m
theorem info_rrow : (Try.prog.info? 55).map (fun i => (i.zero, i.size, i.bytes)) = some (some (.agg (vec zero9)), 9, 72) := by kernel_rfl
theorem one_vec (l : List Int) : ∀ u ∈ (vec l).toList, u.oneCell' = true := by
  intro u hu
  simp [vec] at hu
  obtain ⟨x, _, rfl⟩ := hu
  rfl
/-- A slice of rows, appended to an empty one. -/
theorem run_copy_rows {w : World} {g b n cap : Nat} {C : List Int} (h : SlIs b n C w) (h1 : 1 ≤ n) (h8 : n ≤ 8) :
    ∃ c2 C2, n ≤ c2 ∧ 9 * n ≤ C2.length ∧ (∀ k, k < n → rowM C2 k = rowM C k) ∧
      (Builtin.append_ #[61, 61] 61 #[.slice (some ⟨g, 0, none⟩) 0 0, .slice (some ⟨b, 0, none⟩) n cap]).run Try.prog w = .ok (.slice (some ⟨w.heap.size, 0, none⟩) n c2) (w.drew.alloc (.cells (vec C2) 55)) := by
  obtain ⟨i, hi, e⟩ := Option.map_eq_some_iff.1 info_rrow
  simp only [Prod.mk.injEq] at e
  obtain ⟨e1, e2, e3⟩ := e
  have hl : (vec (C.take (9 * n))).toList.length = n * 9 := by rw [len_vec, List.length_take]; have := h.2; omega
  have hs : Src Try.prog i.size 61 (.slice (some ⟨b, 0, none⟩) n cap) n (vec (C.take (9 * n))).toList w := by
    refine Src.ofSlice w Try.underlying61 ⟨b, 0, none⟩ n cap _ (by rw [e2]; exact hl) ?_ (one_vec _)
    intro j u hu
    have := load_vec h.1 0 (9 * n) j u (by rw [List.drop_zero]; exact hu)
    rw [Addr.add_lit]
    exact this
  have hr := run_append_grow_src (P := Try.prog) w 61 61 61 55 i (.agg (vec zero9)) Try.underlying61 hi e1 (some ⟨g, 0, none⟩) 0 0 []
    (run_firstCells_some w.drew i.size 0 ⟨g, 0, none⟩ 0 0 [] (by simp) (by simp)) _ n _ hs (by omega) (by omega) (by rw [e3]; exact growslice_fits (by omega) (by omega))
  have hge := grownCap_ge w (0 + n) 0 55
  refine ⟨grownCap w (0 + n) 0 55, C.take (9 * n) ++ List.replicate ((grownCap w (0 + n) 0 55 - (0 + n)) * 9) 0, ?_, ?_, ?_, ?_⟩
  rotate_left 3
  · rw [hr]
    have e9 : (Value.agg (vec zero9)).cells = vec zero9 := rfl
    rw [e9, zero_nine, List.nil_append, vec_toList, ← vec_app, Nat.zero_add]
  · omega
  · rw [List.length_append, List.length_take]; have := h.2; omega
  · intro k hk
    unfold rowM
    have hl2 := h.2
    rw [List.drop_append_of_le_length (by rw [List.length_take]; omega), List.take_append_of_le_length (by rw [List.length_drop, List.length_take]; omega), List.drop_take, List.take_take, Nat.min_eq_left (by clear hr hs hge hl; omega)]
theorem wpList_copy_rows {ops : Array Oper} {rest : List Oper} {o : Oper} {a : Act} {Q : Exit → Act → World → Prop} {w : World} (hgd : o.guard = none) (sl x : Operand)
    (ho : o.op = .call { callee := .builtin .append, args := #[sl, x], argTypes := #[61, 61] }) (hty : o.type = 61) (g b n cap : Nat) (C : List Int) (hs : a.eval sl = .slice (some ⟨g, 0, none⟩) 0 0) (hx : a.eval x = .slice (some ⟨b, 0, none⟩) n cap)
    (hsl : SlIs b n C w) (h1 : 1 ≤ n) (h8 : n ≤ 8)
    (h : ∀ c2 C2, n ≤ c2 → 9 * n ≤ C2.length → (∀ k, k < n → rowM C2 k = rowM C k) → wpList Try.prog ops Q rest (a.put o.dst (.slice (some ⟨w.heap.size, 0, none⟩) n c2)) (w.drew.alloc (.cells (vec C2) 55))) : wpList Try.prog ops Q (o :: rest) a w := by
  refine wpList_plain hgd fun K hK => ?_
  obtain ⟨c2, C2, h2, h3, h4, hr⟩ := run_copy_rows (g := g) (cap := cap) hsl h1 h8
  unfold Oper.wp execOp
  simp only [ho, hty, resolve, invoke, builtin, Sem.run_bind, Sem.run_pure, Result.andThen_ok, List.map_toArray, List.map_cons, List.map_nil, hs, hx, hr]
  exact hK _ _ (h c2 C2 h2 h3 h4)
theorem run_none_rows {o : Oper} {ρ : Operand → Value} {w : World} (ho : o.op = .buildSlice 61 0 #[]) :
    (execOp ρ o).run Try.prog w = .ok (.value (.slice (some ⟨w.heap.size, 0, none⟩) 0 0)) (w.alloc (.cells #[] 55)) := by
  unfold execOp
  simp only [ho, List.map_toArray, List.map_nil]
  go_simp
theorem wpList_none_rows {ops : Array Oper} {rest : List Oper} {o : Oper} {a : Act} {Q : Exit → Act → World → Prop} {w : World} (hgd : o.guard = none)
    (ho : o.op = .buildSlice 61 0 #[]) (h : wpList Try.prog ops Q rest (a.put o.dst (.slice (some ⟨w.heap.size, 0, none⟩) 0 0)) (w.alloc (.cells #[] 55))) : wpList Try.prog ops Q (o :: rest) a w := by
  refine wpList_plain hgd fun K hK => ?_
  unfold Oper.wp
  rw [run_none_rows ho]
  exact hK _ _ h

set_option maxHeartbeats 2000000 in
set_option maxRecDepth 100000 in
theorem ref_At {b n cap : Nat} {C : List Int} {w : World} (h : SlIs b n C w) (hn : n ≤ 8) (rep : Int) :
    Calls Try.prog 34 #[.slice (some ⟨b, 0, none⟩) n cap, .int .i64 rep] w fun e w' => e = .returned (.agg (vec (rowAt (n : Int) C rep))) ∧ Below w.heap.size w w' := by
  have hz := zeroRRow
  have H0 := Hd.mk (Holds.start1 w (.cells (vec zero9) 55))
  have HS := Hd.mk (h.alloc (.cells (vec zero9) 55))
  clear h
  by_cases h0 : 0 ≤ rep
  · by_cases h1 : rep < n
    · obtain ⟨k, rfl⟩ : ∃ k : Nat, rep = (k : Int) := ⟨rep.toNat, by omega⟩
      rw [show rowAt (n : Int) C (k : Int) = rowM C k from by simp [rowAt, inM, h1]]
      have HC := Hd.mk (rowS_take C k)
      have HR := Hd.mk (rowS_len HS.out.2 (i := k) (by omega))
      have HK : Hd (k < n) := ⟨by omega⟩
      generalize rowM C k = r at *
      go_enter Try.func34, Try.ntmps34
      go_upto_region 1 with (fail)
      clear hz
      generalize w.alloc (.cells (vec zero9) 55) = W at *
      go_wp2_with (first | ((with_reducible refine gate_load (t := 55) rfl ?_); refine wpList_load_vec rfl _ _ rfl b (k * 9) 9 rfl C 55 (0, 0) HS.out.1 _ Try.underlying55 rfl size_rrow (by have := HS.out.2; have := HK.out; omega) ?_; simp only [HC.out]) | ((with_reducible refine gate_store (t := 55) rfl ?_); refine wpList_store_row rfl _ _ _ rfl w.heap.size (vec r) rfl rfl 55 (vec zero9) (H0.out.get 0 rfl) (by rw [vec_size, HR.out]; exact size_rrow) (by rw [vec_size, vec_size, HR.out]; rfl) (vec_one _) ?_))
      exact bodyPost_ret (results_cell_row (p := 4) rfl _ _ w.heap.size 55 (vec r) (0, 0) _ rfl (setRow_heap _ _ _ _ _ _ (H0.out.get 0 rfl)) Try.underlying55 rfl (by rw [vec_size, HR.out]; exact size_rrow)) rfl ⟨rfl, below_setRow H0.out.2 (Nat.le_refl _) _⟩
    · rw [show rowAt (n : Int) C rep = zero9 from by simp [rowAt, inM, h1]]
      go_enter Try.func34, Try.ntmps34
      go_upto_region 1 with (fail)
      clear hz
      generalize w.alloc (.cells (vec zero9) 55) = W at *
      go_wp2_with (first | ((with_reducible refine gate_dst (N := 13) rfl ?_); refine wpList_build rfl _ _ rfl #[] (by simp) (.agg (vec zero9)) (build_rnone _) ?_) | ((with_reducible refine gate_store (t := 55) rfl ?_); refine wpList_store_row rfl _ _ _ rfl w.heap.size (vec zero9) rfl rfl 55 (vec zero9) (H0.out.get 0 rfl) size_rrow rfl (vec_one _) ?_))
      exact bodyPost_ret (results_cell_row (p := 4) rfl _ _ w.heap.size 55 (vec zero9) (0, 0) _ rfl (setRow_heap _ _ _ _ _ _ (H0.out.get 0 rfl)) Try.underlying55 rfl size_rrow) rfl ⟨rfl, below_setRow H0.out.2 (Nat.le_refl _) _⟩
  · rw [show rowAt (n : Int) C rep = zero9 from by simp [rowAt, inM, h0]]
    go_enter Try.func34, Try.ntmps34
    go_upto_region 1 with (fail)
    clear hz
    generalize w.alloc (.cells (vec zero9) 55) = W at *
    go_wp2_with (first | ((with_reducible refine gate_dst (N := 13) rfl ?_); refine wpList_build rfl _ _ rfl #[] (by simp) (.agg (vec zero9)) (build_rnone _) ?_) | ((with_reducible refine gate_store (t := 55) rfl ?_); refine wpList_store_row rfl _ _ _ rfl w.heap.size (vec zero9) rfl rfl 55 (vec zero9) (H0.out.get 0 rfl) size_rrow rfl (vec_one _) ?_))
    exact bodyPost_ret (results_cell_row (p := 4) rfl _ _ w.heap.size 55 (vec zero9) (0, 0) _ rfl (setRow_heap _ _ _ _ _ _ (H0.out.get 0 rfl)) Try.underlying55 rfl size_rrow) rfl ⟨rfl, below_setRow H0.out.2 (Nat.le_refl _) _⟩

set_option maxHeartbeats 4000000 in
set_option maxRecDepth 100000 in
theorem ref_Stable {b n cap : Nat} {C : List Int} {w : World} (h : SlIs b n C w) (h1 : 1 ≤ n) (h8 : n ≤ 8) :
    Calls Try.prog 33 #[.slice (some ⟨b, 0, none⟩) n cap] w fun e w' => e = .returned (.int .i64 (stabM n C)) ∧ Below w.heap.size w w' := by
  have HS := Hd.mk h
  have HN := Hd.mk (⟨h1, h8⟩ : _ ∧ _)
  have g1 : (0 : Int) < (n : Int) := by omega
  clear h h1 h8
  go_enter Try.func33, Try.ntmps33
  go_wp2_with fail
  go_loopg [3] n (fun kq v3 wr => ∃ i : Nat, i ≤ n ∧ v3 = .int .i64 (i : Int) ∧ Hd (kq + i = n) ∧ Hd (Below w.heap.size w wr) ∧ Hd (GoodTo n C i))
  case atStart => exact ⟨0, by omega, rfl, ⟨rfl⟩, ⟨Below.refl _ _⟩, ⟨fun a k ha => by omega⟩⟩
  case round =>
    obtain ⟨i, hi, rfl, HK, HB, HG⟩ := hrel
    by_cases hin : i < n
    · have f1 : (i : Int) < (n : Int) := by omega
      have HIN := Hd.mk hin
      have hw1 : wrap64 ((i : Int) + 1) = ((i + 1 : Nat) : Int) := by have := HN.out; unfold wrap64; omega
      clear hin
      go_wp2_with fail
      go_loopg [4] n (fun kq2 v4 wr2 => ∃ j : Nat, j ≤ n ∧ v4 = .int .i64 (j : Int) ∧ Hd (kq2 + j = n) ∧ Hd (Below w.heap.size w wr2) ∧ Hd (GoodAt C i j))
      case atStart => exact ⟨0, by omega, rfl, ⟨rfl⟩, HB, ⟨fun k hk => by omega⟩⟩
      case round =>
        obtain ⟨j, hj, rfl, HK2, HB2, HG2⟩ := hrel
        by_cases hjn : j < n
        · have f2 : (j : Int) < (n : Int) := by omega
          have f3 : (j : Int) < 8 := by have := HN.out; omega
          have HJN := Hd.mk hjn
          have HSr : Hd (SlIs b n C wr) := ⟨(HB2.out.block b (Array.getElem?_eq_some_iff.1 HS.out.1).1).trans HS.out.1, HS.out.2⟩
          have c1 := HSr.out.cell HIN.out (k := j) (by have := HN.out; omega)
          have c2 := HSr.out.cell HJN.out (k := j) (by have := HN.out; omega)
          have hw2 : wrap64 ((j : Int) + 1) = ((j + 1 : Nat) : Int) := by have := HN.out; unfold wrap64; omega
          clear hjn HSr
          go_upto_region 7 with (fail)
          by_cases hbad : atM C i j < atM C j j
          · have HBD := Hd.mk (stabM_bad (⟨i, j, HIN.out, HJN.out, hbad⟩ : BadM n C))
            have hb1 : decide (atM C i j < atM C j j) = true := decide_eq_true hbad
            generalize atM C i j = x at *
            generalize atM C j j = y at *
            go_quiet (fail)
            all_goals
              go_wp2_with fail
              go_ret
              exact ⟨by rw [HBD.out]; rfl, HB2.out.trans ((below_drewN _ _).mono HB2.out.size)⟩
          · have hb1 : decide (atM C i j < atM C j j) = false := decide_eq_false hbad
            have HGJ : Hd (GoodAt C i (j + 1)) := ⟨fun k hk => by
              rcases Nat.lt_succ_iff_lt_or_eq.1 hk with h | rfl
              · exact HG2.out k h
              · exact hbad⟩
            generalize atM C i j = x at *
            generalize atM C j j = y at *
            go_quiet (fail)
            all_goals
              go_wp2_with fail
              go_roundg (n - j - 1)
              case measure => have := HK2.out; have := HJN.out; omega
              case rel => exact ⟨j + 1, by have := HJN.out; omega, by first | rfl | congr 1, ⟨by have := HK2.out; have := HJN.out; omega⟩, ⟨HB2.out.trans ((below_drewN _ _).mono HB2.out.size)⟩, HGJ⟩
        · obtain rfl : j = n := by omega
          have f2 : ¬ (j : Int) < (j : Int) := by omega
          have HGN : Hd (GoodTo j C (i + 1)) := ⟨fun a k ha hk => by
            rcases Nat.lt_succ_iff_lt_or_eq.1 ha with h | rfl
            · exact HG.out a k h hk
            · exact HG2.out k hk⟩
          go_wp2_with fail
          go_roundg (j - i - 1)
          case measure => have := HK.out; have := HIN.out; omega
          case rel => exact ⟨i + 1, by have := HIN.out; omega, by first | rfl | congr 1, ⟨by have := HK.out; have := HIN.out; omega⟩, HB2, HGN⟩
    · obtain rfl : i = n := by omega
      have f1 : ¬ (i : Int) < (i : Int) := by omega
      have hgood : ¬ BadM i C := by
        rintro ⟨a, k, ha, hk, hbad⟩
        exact HG.out a k ha hk hbad
      have HGD := Hd.mk (stabM_good hgood)
      have HSr : Hd (SlIs b i C wr) := ⟨(HB.out.block b (Array.getElem?_eq_some_iff.1 HS.out.1).1).trans HS.out.1, HS.out.2⟩
      have c8 := HSr.out.cell (i := 0) (k := 8) (by have := HN.out; omega) (by omega)
      simp only [Nat.zero_mul, Nat.zero_add] at c8
      clear hgood HG HK hi
      go_wp2_with fail
      clear c8 f1
      go_loopg [5, 6] i (fun kq v5 v6 wr => ∃ m : Nat, m ≤ i ∧ v5 = .int .i64 (leastM C m) ∧ v6 = .int .i64 (m : Int) ∧ Hd (kq + m = i) ∧ Hd (Below w.heap.size w wr))
      case atStart => exact ⟨0, by omega, rfl, rfl, ⟨rfl⟩, HB⟩
      case round =>
        obtain ⟨m, hm, rfl, rfl, HK, HB3⟩ := hrel
        by_cases hmn : m < i
        · have f1 : (m : Int) < (i : Int) := by omega
          have HS3 : Hd (SlIs b i C wr) := ⟨(HB3.out.block b (Array.getElem?_eq_some_iff.1 HS.out.1).1).trans HS.out.1, HS.out.2⟩
          have c8 := HS3.out.cell (i := m) (k := 8) hmn (by omega)
          have HMN := Hd.mk hmn
          have hw1 : wrap64 ((m : Int) + 1) = ((m + 1 : Nat) : Int) := by have := HN.out; unfold wrap64; omega
          clear hmn
          by_cases hlt : atM C m 8 < leastM C m
          · have e : leastM C (m + 1) = atM C m 8 := by show (if _ then _ else _) = _; rw [if_pos hlt]
            go_wp2_with fail
            go_roundg (i - m - 1)
            case measure => have := HK.out; have := HMN.out; omega
            case rel => exact ⟨m + 1, by have := HMN.out; omega, by rw [e], by first | rfl | congr 1, ⟨by have := HK.out; have := HMN.out; omega⟩, HB3⟩
          · have e : leastM C (m + 1) = leastM C m := by show (if _ then _ else _) = _; rw [if_neg hlt]
            go_wp2_with fail
            go_roundg (i - m - 1)
            case measure => have := HK.out; have := HMN.out; omega
            case rel => exact ⟨m + 1, by have := HMN.out; omega, by rw [e], by first | rfl | congr 1, ⟨by have := HK.out; have := HMN.out; omega⟩, HB3⟩
        · obtain rfl : m = i := by omega
          have f1 : ¬ (m : Int) < (m : Int) := by omega
          go_wp2_with fail
          go_ret
          exact ⟨by rw [HGD.out]; rfl, HB3.out⟩
end Go.Proofs.Ytkjlakjihjfjdaa

/- thimbleref18.Tell: its contract; two rows of the document held against each other; rows that are made. -/
namespace Go.Proofs.Ytkjlakjihjfjdaa
open Go.RowKit Go.Proofs.YtkjlakjihjfjdaaW.PrintWords Go.Proofs.YtkjlakjihjfjdaaW.PrintLast Go.Proofs.YtkjlakjihjfjdaaW.PrintMore
set_option linter.unusedVariables false
set_option linter.unusedSimpArgs false

set_option maxHeartbeats 4000000 in
set_option maxRecDepth 100000 in
theorem ref_Tell_on {b n cap : Nat} {C r : List Int} {w : World} (h : SlIs b n C w) (h8 : n ≤ 8) (k : Nat) (hk : k < n) (hr : r.length = 9) (hm : mayV r = true) :
    Calls Try.prog 32 #[.slice (some ⟨b, 0, none⟩) n cap, .int .i64 (k : Int), .agg (vec r)] w fun e w' => ∃ b' c2 C2, e = .returned (.tuple #[.slice (some ⟨b', 0, none⟩) n c2, .bool true]) ∧ w.heap.size ≤ b' ∧ SlIs b' n C2 w' ∧ n ≤ c2 ∧ (∀ j, j < n → rowM C2 j = if j = k then joinL (rowM C k) r else rowM C j) ∧ Below w.heap.size w w' := by
  have H0 := Hd.mk (Holds.start1 w (.cells (vec r) 55))
  have HS := Hd.mk (h.alloc (.cells (vec r) 55))
  have HRM := Hd.mk (ref_rowMay r hr)
  rw [hm] at HRM
  have hrow := rowS_len h.2 hk
  have HJ := Hd.mk (ref_rowMerge (rowM C k) r hrow hr)
  have HJL := Hd.mk (join9 hrow hr)
  have HC := Hd.mk (rowS_take C k)
  have HR9 := Hd.mk (show (Try.prog.info? 55).map (·.size) = some (vec r).size by rw [vec_size, hr]; exact size_rrow)
  have g0 : decide ((k : Int) < 0) = false := decide_eq_false (by omega)
  have g1 : decide (n ≤ k) = false := decide_eq_false (by omega)
  have g2 : k < n := hk
  have HK := Hd.mk (⟨hk, h8⟩ : _ ∧ _)
  clear h hk h8 hr hm hrow
  generalize joinL (rowM C k) r = j at *
  generalize hrw : rowM C k = row at HJ HC
  clear hrw
  go_enter Try.func32, Try.ntmps32
  go_upto_region 1 with (fail)
  generalize w.alloc (.cells (vec r) 55) = W at *
  go_wp2_with (first | ((with_reducible refine gate_dst (N := 18) rfl ?_); refine gate_guard (by rfl) ?_; refine wpList_load_row rfl 55 _ rfl w.heap.size rfl 55 (vec r) (0, 0) _ (H0.out.get 0 rfl) Try.underlying55 rfl HR9.out ?_))
  refine (HRM.out _).mono ?_; rintro e w2 ⟨rfl, h2⟩
  have H2 := Hd.mk (⟨H0.out.call h2, HS.out.keep h2⟩ : _ ∧ SlIs b n C _)
  clear H0 HS HRM h2
  go_upto_region 4 with (first | ((with_reducible refine gate_dst (N := 23) rfl ?_); refine wpList_none_rows rfl rfl ?_; have H3 := Hd.mk (⟨H2.out.1.alloc (.cells #[] 55), H2.out.2.alloc (.cells #[] 55)⟩ : _ ∧ SlIs b n C _); generalize w2.alloc (.cells #[] 55) = W3 at H3 ⊢; generalize w2.heap.size = eb at H3 ⊢) | ((with_reducible refine gate_dst (N := 25) rfl ?_); refine wpList_copy_rows rfl _ _ rfl rfl eb b n cap C rfl rfl H3.out.2 (by have := HK.out; omega) HK.out.2 ?_; intro c2 C2 q1 q2 q3; have H4 : Hd (Holds w [(W3.heap.size, .cells (vec C2) 55 (0, 0)), (w.heap.size, .cells (vec r) 55 (0, 0))] (W3.drew.alloc (.cells (vec C2) 55)) ∧ SlIs b n C (W3.drew.alloc (.cells (vec C2) 55)) ∧ w.heap.size ≤ W3.heap.size) := ⟨Holds.alloc (w' := W3.drew) (Holds.rest H3.out.1).drew _, SlIs.alloc (W := W3.drew) H3.out.2 _, H3.out.1.2.size⟩; generalize W3.drew.alloc (.cells (vec C2) 55) = W4 at H4 ⊢; generalize W3.heap.size = q at H4 ⊢))
  have HQ := Hd.mk (⟨q1, q2, q3, H4.out.2.2⟩ : _ ∧ _ ∧ _ ∧ _)
  clear H2 H3 q1 q2 q3
  refine start_ (n := 10) (S := fun W_ => Holds w [(q, .cells (vec C2) 55 (0, 0)), (w.heap.size, .cells (vec r) 55 (0, 0))] W_ ∧ SlIs b n C W_) (ds := [9]) #[false, false, false, false, false, false, false, false, false, false] (by kernel_rfl) rfl rfl (⟨H4.out.1.drew, H4.out.2.1⟩) (fun hHeld => ?_)
  refine pure_ (i := 0) (N := some 26) (v := ?_) (a' := ?_) #[true, false, false, false, false, false, false, false, false, false] rfl rfl (by kernel_rfl) (fun _ _ _ h => h) (Or.inl ⟨by rfl, ?_⟩) ?_ ?_
  rotate_left
  · intro w_
    go_simp
    try with_reducible rfl
  rotate_left
  · simp only [Act.put, List.setIfInBounds_toArray, List.set_cons_zero, List.set_cons_succ]
    rfl
  refine pure_ (i := 1) (N := some 27) (v := ?_) (a' := ?_) #[true, true, false, false, false, false, false, false, false, false] rfl rfl (by kernel_rfl) (fun _ _ _ h => h) (Or.inl ⟨by rfl, ?_⟩) ?_ ?_
  rotate_left
  · intro w_
    go_simp
    try with_reducible rfl
  rotate_left
  · simp only [Act.put, List.setIfInBounds_toArray, List.set_cons_zero, List.set_cons_succ]
    rfl
  refine pure_ (i := 2) (N := some 28) (v := ?_) (a' := ?_) #[true, true, true, false, false, false, false, false, false, false] rfl rfl (by kernel_rfl) (fun _ _ _ h => h) (Or.inl ⟨by rfl, ?_⟩) ?_ ?_
  rotate_left
  · intro w_
    go_simp
    try with_reducible rfl
  rotate_left
  · simp only [Act.put, List.setIfInBounds_toArray, List.set_cons_zero, List.set_cons_succ]
    rfl
  refine pure_ (i := 3) (N := some 29) (v := ?_) (a' := ?_) #[true, true, true, true, false, false, false, false, false, false] rfl rfl (by kernel_rfl) (fun _ _ _ h => h) (Or.inl ⟨by rfl, ?_⟩) ?_ ?_
  rotate_left
  · intro w_
    go_simp
    try with_reducible rfl
  rotate_left
  · simp only [Act.put, List.setIfInBounds_toArray, List.set_cons_zero, List.set_cons_succ]
    rfl
  refine take_ (i := 4) (N := some 30) (v := .pointer (some ⟨b, k * 9, none⟩)) (a' := ?_) #[true, true, true, true, true, false, false, false, false, false] rfl rfl (by kernel_rfl) (fun _ _ _ h => h) (Or.inl ⟨by rfl, fun w' h => by go_simp⟩) hHeld ?_ ?_
  rotate_left
  · simp only [Act.put, List.setIfInBounds_toArray, List.set_cons_zero, List.set_cons_succ]
    rfl
  refine take_ (i := 5) (N := some 31) (v := .agg (vec row)) (a' := ?_) #[true, true, true, true, true, true, false, false, false, false] rfl rfl (by kernel_rfl) (fun _ _ _ h => h) (Or.inl ⟨by rfl, fun w' h => by rw [← HC.out]; exact run_load_vec 55 _ rfl b (k * 9) 9 rfl C 55 (0, 0) h.2.1 _ Try.underlying55 rfl size_rrow (by have := h.2.2; have := HK.out; omega)⟩) hHeld ?_ ?_
  rotate_left
  · simp only [Act.put, List.setIfInBounds_toArray, List.set_cons_zero, List.set_cons_succ]
    rfl
  refine take_ (i := 6) (N := some 32) (v := .agg (vec r)) (a' := ?_) #[true, true, true, true, true, true, true, false, false, false] rfl rfl (by kernel_rfl) (fun _ _ _ h => h) (Or.inl ⟨by rfl, fun w' h => run_load_row 55 _ rfl w.heap.size rfl 55 _ _ _ (h.1.get 1 rfl) Try.underlying55 rfl HR9.out⟩) hHeld ?_ ?_
  rotate_left
  · simp only [Act.put, List.setIfInBounds_toArray, List.set_cons_zero, List.set_cons_succ]
    rfl
  refine one_ (i := 7) (N := some 33) #[true, true, true, true, true, true, true, true, false, false] rfl rfl (by kernel_rfl) (by decide) (fun K hK => ?_)
  refine goes_ Try.func35 (by kernel_rfl) rfl #[.agg (vec row), .agg (vec r)] (by rfl) rfl rfl (by (try simp only [List.map_toArray, List.map_cons, List.map_nil]); first | done | rfl) ?_
  (with_reducible refine (HJ.out _).mono ?_)
  rintro e wr1 ⟨rfl, hr1⟩
  refine ⟨_, rfl, ?_⟩
  refine hK.out _ _ (⟨hHeld.1.call hr1, hHeld.2.keep hr1⟩) (fun hHeld => ?_)
  clear hK K
  refine norm_ (a' := ?_) ?_ ?_
  rotate_left
  · show Act.put _ (some 33) _ = _
    simp only [Act.put, List.setIfInBounds_toArray, List.set_cons_zero, List.set_cons_succ]
    rfl
  refine take_ (i := 8) (N := some 34) (v := .pointer (some ⟨q, k * 9, none⟩)) (a' := ?_) #[true, true, true, true, true, true, true, true, true, false] rfl rfl (by kernel_rfl) (fun _ _ _ h => h) (Or.inl ⟨by rfl, fun w' h => by go_simp⟩) hHeld ?_ ?_
  rotate_left
  · simp only [Act.put, List.setIfInBounds_toArray, List.set_cons_zero, List.set_cons_succ]
    rfl
  refine last_ (i := 9) (N := none) #[true, true, true, true, true, true, true, true, true, true] rfl rfl (by kernel_rfl) (by decide) (fun K hK => ?_)
  refine skip_ (by rfl) rfl (run_store_vec 55 _ _ rfl q (k * 9) j rfl rfl C2 55 (hHeld.1.get 0 rfl) (by rw [HJL.out]; exact size_rrow) (by rw [HJL.out]; have := HQ.out.2.1; have := HK.out; omega)) ?_
  refine hK.out _ _ ?_
  clear hK K
  refine done_ (by kernel_rfl) ?_
  have HE := Hd.mk (below_setCells hHeld.1.2 HQ.out.2.2.2 (k * 9) (vec j).toList)
  have HE2 : Hd (SlIs q n (layL C2 (k * 9) j) (wr1.setCells q (k * 9) (vec j).toList)) := ⟨⟨setCells_vec _ _ _ _ _ (hHeld.1.get 0 rfl) (by rw [HJL.out]; have := HQ.out.2.1; have := HK.out; omega), by rw [layL_len (by rw [HJL.out]; have := HQ.out.2.1; have := HK.out; omega)]; exact HQ.out.2.1⟩⟩
  clear hHeld H4
  generalize wr1.setCells q (k * 9) (vec j).toList = W5 at *
  go_wp2_with fail
  go_ret2
  refine ⟨q, c2, _, rfl, HQ.out.2.2.2, HE2.out, HQ.out.1, fun i hi => ?_, HE.out⟩
  rw [rowM_lay HJL.out (by have := HQ.out.2.1; have := HK.out; omega)]
  split
  · rfl
  · exact HQ.out.2.2.1 i hi
set_option maxHeartbeats 4000000 in
set_option maxRecDepth 100000 in
theorem ref_Tell_off {b n cap : Nat} {C r : List Int} {w : World} (h : SlIs b n C w) (h8 : n ≤ 8) (rep : Int) (hr : r.length = 9) (hm : inM n rep = false ∨ mayV r = false) :
    Calls Try.prog 32 #[.slice (some ⟨b, 0, none⟩) n cap, .int .i64 rep, .agg (vec r)] w fun e w' => e = .returned (.tuple #[.slice (some ⟨b, 0, none⟩) n cap, .bool false]) ∧ Below w.heap.size w w' := by
  have H0 := Hd.mk (Holds.start1 w (.cells (vec r) 55))
  have HRM := Hd.mk (ref_rowMay r hr)
  have HR9 := Hd.mk (show (Try.prog.info? 55).map (·.size) = some (vec r).size by rw [vec_size, hr]; exact size_rrow)
  have HQ : Hd ((0 : Int) ≤ rep → rep < (n : Int) → mayV r = false) := ⟨fun h0 h1 => by
    rcases hm with h | h
    · simp [inM, h0, h1] at h
    · exact h⟩
  clear h h8 hr hm
  generalize mayV r = q at *
  by_cases h0 : 0 ≤ rep
  · by_cases h1 : rep < (n : Int)
    · obtain rfl := HQ.out h0 h1
      have g0 : decide (rep < 0) = false := decide_eq_false (by omega)
      have g1 : decide ((n : Int) ≤ rep) = false := decide_eq_false (by omega)
      go_enter Try.func32, Try.ntmps32
      go_upto_region 1 with (fail)
      generalize w.alloc (.cells (vec r) 55) = W at *
      go_wp2_with (first | ((with_reducible refine gate_dst (N := 18) rfl ?_); refine gate_guard (by rfl) ?_; refine wpList_load_row rfl 55 _ rfl w.heap.size rfl 55 (vec r) (0, 0) _ (H0.out.get 0 rfl) Try.underlying55 rfl HR9.out ?_))
      refine (HRM.out _).mono ?_; rintro e w2 ⟨rfl, h2⟩
      have H2 := Hd.mk (H0.out.call h2)
      clear H0 h2
      go_wp2_with fail
      go_ret2
      exact ⟨rfl, H2.out.2⟩
    · clear HRM HQ
      have g0 : decide (rep < 0) = false := decide_eq_false (by omega)
      have g1 : decide ((n : Int) ≤ rep) = true := decide_eq_true (by omega)
      go_enter Try.func32, Try.ntmps32
      go_upto_region 1 with (fail)
      generalize w.alloc (.cells (vec r) 55) = W at *
      go_wp2_with fail
      go_ret2
      exact ⟨rfl, H0.out.2⟩
  · clear HRM HQ
    have g0 : decide (rep < 0) = true := decide_eq_true (by omega)
    go_enter Try.func32, Try.ntmps32
    go_upto_region 1 with (fail)
    generalize w.alloc (.cells (vec r) 55) = W at *
    go_wp2_with fail
    go_ret2
    exact ⟨rfl, H0.out.2⟩
/-- Whatever is told. -/
theorem ref_TellG {b n cap : Nat} {C r : List Int} {w : World} (h : SlIs b n C w) (hc : n ≤ cap) (h8 : n ≤ 8) (rep : Int) (hr : r.length = 9) :
    Calls Try.prog 32 #[.slice (some ⟨b, 0, none⟩) n cap, .int .i64 rep, .agg (vec r)] w fun e w' => ∃ b' c2 C2, e = .returned (.tuple #[.slice (some ⟨b', 0, none⟩) n c2, .bool (takes n rep r)]) ∧ (w.heap.size ≤ b' ∨ b' = b) ∧ SlIs b' n C2 w' ∧ n ≤ c2 ∧ (∀ j, j < n → rowM C2 j = if takes n rep r = true ∧ (j : Int) = rep then joinL (rowM C j) r else rowM C j) ∧ Below w.heap.size w w' := by
  cases hq : takes n rep r with
  | false =>
    refine (ref_Tell_off h h8 rep hr (by unfold takes at hq; cases h1 : inM n rep <;> simp_all)).mono ?_
    rintro e w' ⟨rfl, hb⟩
    exact ⟨b, cap, C, rfl, Or.inr rfl, h.keep hb, hc, fun j hj => by simp, hb⟩
  | true =>
    have hq2 := hq
    simp [takes, inM] at hq2
    obtain ⟨k, rfl⟩ : ∃ k : Nat, rep = (k : Int) := ⟨rep.toNat, by omega⟩
    refine (ref_Tell_on h h8 k (by omega) hr hq2.2).mono ?_
    rintro e w' ⟨b', c2, C2, rfl, hb', hS, hc2, hrows, hb⟩
    refine ⟨b', c2, C2, rfl, Or.inl hb', hS, hc2, fun j hj => ?_, hb⟩
    rw [hrows j hj]
    by_cases e : j = k
    · subst e; simp
    · rw [if_neg e, if_neg (by omega)]

set_option maxRecDepth 100000 in
/-- Rows of the document held against each other. -/
theorem eqVec8 (d : Nat) {a b : List Int} (ha : a.length = 8) (hb : b.length = 8) (w : World) : (Op.equalIn (d + 2) 34 (.agg (vec a)) (.agg (vec b))).run Try.prog w = .ok (eqV a b) w := by
  obtain ⟨i0, hi⟩ : ∃ i0, Try.prog.info? 3 = some i0 := by
    have : (Try.prog.info? 3).isSome = true := by kernel_rfl
    exact Option.isSome_iff_exists.1 this
  rw [run_equalIn_array w (d + 1) (vec a) (vec b) Try.underlying34 hi, show Try.prog.cellsOf 3 = 1 from by kernel_rfl, eqItems_vec d a b ha hb w (List.range 8) (fun i hi => by simpa using hi)]
  congr 1
  unfold eqV
  rw [Bool.eq_iff_iff, List.all_eq_true, decide_eq_true_eq]
  constructor
  · intro h
    apply List.ext_getElem?
    intro i
    by_cases hi : i < 8
    · exact beq_iff_eq.1 (h i (by simpa using hi))
    · rw [List.getElem?_eq_none (by omega), List.getElem?_eq_none (by omega)]
  · intro h i _; rw [h]; simp
set_option maxRecDepth 100000 in
theorem eqRRow (d : Nat) {a b : List Int} (ha : a.length = 9) (hb : b.length = 9) (w : World) : (Op.equalIn (d + 3) 55 (.agg (vec a)) (.agg (vec b))).run Try.prog w = .ok (eqV a b) w := by
  obtain ⟨s, x, hs, rfl⟩ := nine ha
  obtain ⟨u, y, hu, rfl⟩ := nine hb
  have part0 : ∀ (s : List Int) (x : Int), s.length = 8 → (part 34 (vec (s ++ [x])) 0).run Try.prog w = .ok (.agg (vec s)) w := by
    intro s x hs
    have h1 : (isAgg 34).run Try.prog w = .ok true w := by kernel_rfl
    have h2 : (sizeOf 34).run Try.prog w = .ok 8 w := by kernel_rfl
    simp only [part, Sem.run_bind, h1, h2, Result.andThen_ok, if_true, Sem.run_pure]
    congr 2
    unfold vec
    apply Array.ext'
    simp
    rw [← hs, List.take_append_of_le_length (by simp), List.take_of_length_le (by simp)]
  have part1 : ∀ (s : List Int) (x : Int), s.length = 8 → (part 2 (vec (s ++ [x])) 8).run Try.prog w = .ok (.int .i64 x) w := by
    intro s x hs
    have h1 : (isAgg 2).run Try.prog w = .ok false w := by kernel_rfl
    have h2 : (vec (s ++ [x]))[8]? = some (.int .i64 x) := vec_at (by rw [List.getElem?_append_right (by omega), hs]; rfl)
    simp only [part, Sem.run_bind, h1, Result.andThen_ok, h2, Sem.run_pure]
    rfl
  have e : eqV (s ++ [x]) (u ++ [y]) = (eqV s u && (x == y)) := by
    unfold eqV
    rw [Bool.eq_iff_iff]
    simp only [decide_eq_true_eq, Bool.and_eq_true, beq_iff_eq]
    constructor
    · intro h
      have h1 := List.append_inj h (by omega)
      exact ⟨h1.1, by simpa using h1.2⟩
    · rintro ⟨rfl, rfl⟩; rfl
  rw [e]
  refine eqA_of Try.underlying55 (by kernel_rfl) ?_
  refine eqf_cons (by rfl) (part0 s x hs) (part0 u y hu) (eqVec8 d hs hu w) ?_
  exact eqf_last (by rfl) (part1 s x hs) (part1 u y hu) (by simp [Op.equalIn, run_underlying Try.underlying2])

/-- So many rows, made. -/
theorem wpList_make_rows {ops : Array Oper} {rest : List Oper} {o : Oper} {a : Act} {Q : Exit → Act → World → Prop} {w : World} (hgd : o.guard = none) (x y : Operand) (ho : o.op = .makeSlice 61 x y) (n : Nat) (hx : a.eval x = .int .i64 (n : Int)) (hy : a.eval y = .int .i64 (n : Int)) (h8 : n ≤ 8)
    (h : wpList Try.prog ops Q rest (a.put o.dst (.slice (some ⟨w.heap.size, 0, none⟩) n n)) (w.alloc (.cells (vec (List.replicate (n * 9) 0)) 55))) : wpList Try.prog ops Q (o :: rest) a w := by
  refine wpList_plain hgd fun K hK => ?_
  obtain ⟨i, hi, e⟩ := Option.map_eq_some_iff.1 info_rrow
  simp only [Prod.mk.injEq] at e
  obtain ⟨e1, e2, e3⟩ := e
  have hr := run_make (P := Try.prog) w 61 55 i (.agg (vec zero9)) Try.underlying61 hi e1 .i64 .i64 (n : Int) (n : Int) (by omega) (Int.le_refl _) (by rw [e3]; omega) (by omega)
  have e9 : (Value.agg (vec zero9)).cells = vec zero9 := rfl
  rw [Int.toNat_natCast, e2, e9, made_nine] at hr
  unfold Oper.wp execOp
  simp only [ho, hx, hy, Sem.run_bind, Sem.run_pure, Result.andThen_ok, hr]
  exact hK _ _ h
theorem rowM_none {n k : Nat} (hk : k < n) : rowM (List.replicate (n * 9) 0) k = zero9 := by
  unfold rowM zero9
  rw [List.drop_replicate, List.take_replicate]
  congr 1; omega
theorem MH.swap {w : World} {p : Nat × Obj} {l : List (Nat × Obj)} {b : Nat} {n : Int} {L : List Int} {W : World} (h : MH w (p :: l) b n L W) {q : Nat} {o : Obj} (hq : W.heap[q]? = some o) (hne : q ≠ b) : MH w ((q, o) :: l) b n L W := by
  refine ⟨⟨fun x hx => ?_, h.held.2⟩, h.mat, fun x hx => ?_, h.out⟩
  · rcases List.mem_cons.1 hx with rfl | hx
    · exact hq
    · exact h.held.1 x (List.mem_cons_of_mem _ hx)
  · rcases List.mem_cons.1 hx with rfl | hx
    · exact hne
    · exact h.ne x (List.mem_cons_of_mem _ hx)
end Go.Proofs.Ytkjlakjihjfjdaa
