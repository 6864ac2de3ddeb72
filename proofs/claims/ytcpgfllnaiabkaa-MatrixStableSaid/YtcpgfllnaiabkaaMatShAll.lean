/- Texts that belong together, in one. -/
import Derived.Test.YtcpgfllnaiabkaaMatLacks
/- matrix.Stable: its contract. -/
namespace Go.Proofs.Ytcpgfllnaiabkaa
open Go.RowKit Go.Proofs.YtcpgfllnaiabkaaW.PrintWords Go.Proofs.YtcpgfllnaiabkaaW.PrintLast Go.Proofs.YtcpgfllnaiabkaaW.PrintMore
attribute [local go_sem] max2_int min2_int max_two min_two
set_option linter.unusedVariables false
set_option linter.unusedSimpArgs false

/-- One number of the rows. -/
def atM (L : List Int) (i k : Nat) : Int := L.getD (9 * i + k) 0
/-- A row that has seen less of a replica than that itself. -/
def BadM (n : Nat) (L : List Int) : Prop := ∃ i k, i < n ∧ k < n ∧ atM L i k < atM L k k
/-- The least time of the first so many rows. -/
def leastM (L : List Int) : Nat → Int
  | 0 => atM L 0 8
  | i + 1 => if atM L i 8 < leastM L i then atM L i 8 else leastM L i
noncomputable def stabM (n : Nat) (L : List Int) : Int := @ite _ (BadM n L) (Classical.propDecidable _) 0 (leastM L n)
theorem stabM_bad {n : Nat} {L : List Int} (h : BadM n L) : stabM n L = 0 := if_pos h
theorem stabM_good {n : Nat} {L : List Int} (h : ¬ BadM n L) : stabM n L = leastM L n := if_neg h
theorem cellM {b : Nat} {n : Int} {L : List Int} {W : World} (h : MatIs b n L W) (hL : L.length = 72) {i k : Nat} (hi : i < 8) (hk : k < 9) : W.cell? ⟨b, 1 + i * 9 + k, none⟩ = some (.int .i64 (atM L i k)) := by
  rw [cell_of_row W b _ _ _ _ h]
  have e : 1 + i * 9 + k = (9 * i + k) + 1 := by omega
  rw [e]
  refine vec_at ?_
  rw [List.getElem?_cons_succ]
  unfold atM
  rw [List.getD_eq_getElem?_getD, List.getElem?_eq_getElem (by omega)]; rfl
theorem rowM_at {L : List Int} (hL : L.length = 72) {i k : Nat} (hi : i < 8) (hk : k < 9) : (rowM L i)[k]? = some (atM L i k) := by
  unfold rowM atM
  rw [List.getElem?_take, if_pos hk, List.getElem?_drop, List.getD_eq_getElem?_getD, List.getElem?_eq_getElem (by omega)]; rfl
/-- No bad row yet. -/
def GoodTo (n : Nat) (L : List Int) (i : Nat) : Prop := ∀ a k, a < i → k < n → ¬ atM L a k < atM L k k
def GoodAt (L : List Int) (i j : Nat) : Prop := ∀ k, k < j → ¬ atM L i k < atM L k k

set_option maxHeartbeats 2000000 in
set_option maxRecDepth 100000 in
theorem mat_Stable {b : Nat} {n : Nat} {L : List Int} {w : World} (h : MatIs b (n : Int) L w) (hL : L.length = 72) (h1 : 1 ≤ n) (h8 : n ≤ 8) :
    Calls Try.prog 10 #[.pointer (some ⟨b, 0, none⟩)] w fun e w' => e = .returned (.int .i64 (stabM n L)) ∧ Below w.heap.size w w' := by
  have hlt := (Array.getElem?_eq_some_iff.1 h).1
  have c0 := h.cell0
  have g8 : (n : Int) ≤ 8 := by omega
  have g1 : (0 : Int) < (n : Int) := by omega
  have HM := Hd.mk h
  have HL := Hd.mk hL
  have HN := Hd.mk (⟨h1, h8⟩ : _ ∧ _)
  have c8 := cellM h hL (i := 0) (k := 8) (by omega) (by omega)
  simp only [Nat.zero_mul, Nat.add_zero] at c8
  clear h hL h1 h8
  go_enter Try.func10, Try.ntmps10
  go_upto_region 3 with (fail)
  go_quiet (fail)
  have HB0 := Hd.mk (below_drewN w nq)
  generalize w.drewN nq = W0 at *
  have hz := zeroRow
  have c8' : W0.cell? ⟨b, 1 + 8, none⟩ = some (.int .i64 (atM L 0 8)) := (HB0.out.cell hlt).trans c8
  go_wp2_with fail
  clear c0 c8 c8'
  go_loopg [4, 25] n (fun kq v4 v25 wr => ∃ i : Nat, i ≤ n ∧ v25 = .int .i64 (i : Int) ∧ v4 = .int .i64 (leastM L i) ∧ Hd (kq + i = n) ∧ Hd (Below w.heap.size w wr) ∧ Hd (GoodTo n L i))
  case atStart => exact ⟨0, by omega, rfl, rfl, ⟨rfl⟩, HB0, ⟨fun a k ha => by omega⟩⟩
  case round =>
    clear HB0
    obtain ⟨i, hi, rfl, rfl, HK, HB, HG⟩ := hrel
    have HMr := Hd.mk (((HB.out.block b hlt).trans HM.out : MatIs b (n : Int) L wr))
    by_cases hin : i < n
    · have f1 : (i : Int) < (n : Int) := by omega
      have i8 : Hd (i < 8) := ⟨by have := HN.out; omega⟩
      have HCi := Hd.mk (rowM_cons (n : Int) L i)
      have HLi := Hd.mk (rowM_len HL.out i8.out)
      have HA8 := Hd.mk (vec_at (rowM_at HL.out (k := 8) i8.out (by omega)))
      have HAj := Hd.mk (fun (j : Nat) (hj : j < 9) => vec_at (rowM_at HL.out (k := j) i8.out hj))
      have HIN := Hd.mk hin
      have hw1 : wrap64 ((i : Int) + 1) = ((i + 1 : Nat) : Int) := by unfold wrap64; omega
      generalize rowM L i = row at *
      clear hin
      go_upto_region 8 with (first | ((with_reducible refine gate_load (t := 38) rfl ?_); refine wpList_load_vec rfl _ _ rfl b (1 + i * 9) 9 rfl ((n : Int) :: L) 71 (0, 0) HMr.out _ Try.underlying38 rfl size_row (by rw [List.length_cons, HL.out]; have := i8.out; omega) ?_; simp only [HCi.out]) | ((with_reducible refine gate_store (t := 38) rfl ?_); refine wpList_store_row rfl _ _ _ rfl wr.heap.size (vec row) rfl rfl 38 (vec zero9) (heap_alloc_new _ _) (by rw [vec_size, HLi.out]; exact size_row) (by rw [vec_size, vec_size, HLi.out]; rfl) (vec_one _) ?_; have HW := Hd.mk ((Holds.nil wr).made (vec zero9) (vec row) 38); generalize ((wr.alloc (.cells (vec zero9) 38 (0, 0))).setRow wr.heap.size (vec row)) = W1 at HW ⊢))
      have HMW := Hd.mk (((HW.out.2.block b (Array.getElem?_eq_some_iff.1 HMr.out).1).trans HMr.out : MatIs b (n : Int) L W1))
      have HBW := Hd.mk (below_step HB.out HW.out.2)
      have HQ := Hd.mk (HW.out.get 0 rfl)
      have c8 : W1.cell? ⟨wr.heap.size, 8, none⟩ = some (.int .i64 (atM L i 8)) := by rw [cell_of_row W1 _ 8 _ _ _ HQ.out]; exact HA8.out
      clear HMr HB HW HA8
      generalize wr.heap.size = q at *
      have hle : (if atM L i 8 < leastM L i then atM L i 8 else leastM L i) = leastM L (i + 1) := rfl
      go_upto_region 9 with (fail)
      clear c8 hle
      obtain ⟨lst, hlst⟩ : ∃ z, z = leastM L (i + 1) := ⟨_, rfl⟩
      rw [← hlst]
      have HLST := Hd.mk hlst
      clear hlst
      go_wp2_with fail
      go_loopg [35] n (fun kq2 v35 wr2 => ∃ j : Nat, j ≤ n ∧ v35 = .int .i64 (j : Int) ∧ Hd (kq2 + j = n) ∧ Hd (Below W1.heap.size W1 wr2) ∧ Hd (GoodAt L i j))
      case atStart => exact ⟨0, by omega, rfl, ⟨rfl⟩, ⟨Below.refl _ _⟩, ⟨fun k hk => by omega⟩⟩
      case round =>
        obtain ⟨j, hj, rfl, HK2, HB2, HG2⟩ := hrel
        have HM2 := Hd.mk (((HB2.out.block b (Array.getElem?_eq_some_iff.1 HMW.out).1).trans HMW.out : MatIs b (n : Int) L wr))
        have HQ2 := Hd.mk ((HB2.out.block q (Array.getElem?_eq_some_iff.1 HQ.out).1).trans HQ.out)
        have HBB := Hd.mk (below_step HBW.out HB2.out)
        by_cases hjn : j < n
        · have f2 : (j : Int) < (n : Int) := by omega
          have f3 : (j : Int) < 8 := by have := HN.out; omega
          have j8 : Hd (j < 8) := ⟨by have := HN.out; omega⟩
          have HCj := Hd.mk (rowM_cons (n : Int) L j)
          have HLj := Hd.mk (rowM_len HL.out j8.out)
          have HAjj := Hd.mk (vec_at (rowM_at HL.out (k := j) j8.out (by have := j8.out; omega)))
          have HJN := Hd.mk hjn
          have hw2 : wrap64 ((j : Int) + 1) = ((j + 1 : Nat) : Int) := by unfold wrap64; omega
          generalize rowM L j = rowj at *
          clear hjn
          go_upto_region 12 with (first | ((with_reducible refine gate_load (t := 38) rfl ?_); refine wpList_load_vec rfl _ _ rfl b (1 + j * 9) 9 rfl ((n : Int) :: L) 71 (0, 0) HM2.out _ Try.underlying38 rfl size_row (by rw [List.length_cons, HL.out]; have := j8.out; omega) ?_; simp only [HCj.out]) | ((with_reducible refine gate_store (t := 38) rfl ?_); refine wpList_store_row rfl _ _ _ rfl wr.heap.size (vec rowj) rfl rfl 38 (vec zero9) (heap_alloc_new _ _) (by rw [vec_size, HLj.out]; exact size_row) (by rw [vec_size, vec_size, HLj.out]; rfl) (vec_one _) ?_; have HW2 := Hd.mk ((Holds.nil wr).made (vec zero9) (vec rowj) 38); generalize ((wr.alloc (.cells (vec zero9) 38 (0, 0))).setRow wr.heap.size (vec rowj)) = W2 at HW2 ⊢))
          have HB3 := Hd.mk (below_step HB2.out HW2.out.2)
          have HBB3 := Hd.mk (below_step HBB.out HW2.out.2)
          have c1 : W2.cell? ⟨q, j, none⟩ = some (.int .i64 (atM L i j)) := by rw [cell_of_row W2 _ j _ _ _ ((HW2.out.2.block q (Array.getElem?_eq_some_iff.1 HQ2.out).1).trans HQ2.out)]; exact HAj.out j (by have := j8.out; omega)
          have c2 : W2.cell? ⟨wr.heap.size, j, none⟩ = some (.int .i64 (atM L j j)) := by rw [cell_of_row W2 _ j _ _ _ (HW2.out.get 0 rfl)]; exact HAjj.out
          clear HW2 HM2 HQ2 HB2 HBB
          generalize wr.heap.size = q2 at *
          by_cases hbad : atM L i j < atM L j j
          · have HBD := Hd.mk (stabM_bad (⟨i, j, HIN.out, HJN.out, hbad⟩ : BadM n L))
            have hb1 : decide (atM L i j < atM L j j) = true := decide_eq_true hbad
            generalize atM L i j = x at *
            generalize atM L j j = y at *
            go_quiet (fail)
            all_goals
              go_wp2_with fail
              go_ret
              exact ⟨by rw [HBD.out]; rfl, HBB3.out.trans ((below_drewN _ _).mono HBB3.out.size)⟩
          · have hb1 : decide (atM L i j < atM L j j) = false := decide_eq_false hbad
            have HGJ : Hd (GoodAt L i (j + 1)) := ⟨fun k hk => by
              rcases Nat.lt_succ_iff_lt_or_eq.1 hk with h | rfl
              · exact HG2.out k h
              · exact hbad⟩
            generalize atM L i j = x at *
            generalize atM L j j = y at *
            go_quiet (fail)
            all_goals
              go_wp2_with fail
              go_roundg (n - j - 1)
              case measure => have := HK2.out; have := HJN.out; omega
              case rel => exact ⟨j + 1, by have := HJN.out; omega, by first | rfl | congr 1, ⟨by have := HK2.out; have := HJN.out; omega⟩, ⟨HB3.out.trans ((below_drewN _ _).mono HB3.out.size)⟩, HGJ⟩
        · obtain rfl : j = n := by omega
          have f2 : ¬ (j : Int) < (j : Int) := by omega
          have HGN : Hd (GoodTo j L (i + 1)) := ⟨fun a k ha hk => by
            rcases Nat.lt_succ_iff_lt_or_eq.1 ha with h | rfl
            · exact HG.out a k h hk
            · exact HG2.out k hk⟩
          go_wp2_with fail
          go_roundg (j - i - 1)
          case measure => have := HK.out; have := HIN.out; omega
          case rel => exact ⟨i + 1, by have := HIN.out; omega, by first | rfl | congr 1, by rw [HLST.out], ⟨by have := HK.out; have := HIN.out; omega⟩, HBB, HGN⟩
    · obtain rfl : i = n := by omega
      have f1 : ¬ (i : Int) < (i : Int) := by omega
      have hgood : ¬ BadM i L := by
        rintro ⟨a, k, ha, hk, hbad⟩
        exact HG.out a k ha hk hbad
      have HGD := Hd.mk (stabM_good hgood)
      clear hgood
      go_wp2_with fail
      go_ret
      exact ⟨by rw [HGD.out]; rfl, HB.out⟩
end Go.Proofs.Ytcpgfllnaiabkaa

/- matrix: Tell, whatever is told; thimblelaw18.shown: true. -/
namespace Go.Proofs.Ytcpgfllnaiabkaa
open Go.RowKit Go.Proofs.YtcpgfllnaiabkaaW.PrintWords Go.Proofs.YtcpgfllnaiabkaaW.PrintLast Go.Proofs.YtcpgfllnaiabkaaW.PrintMore
set_option linter.unusedVariables false
set_option linter.unusedSimpArgs false

/-- Whether what is told is taken. -/
def takes (n rep : Int) (r : List Int) : Bool := inM n rep && mayV r
/-- The rows behind what is told. -/
def told (n : Int) (L : List Int) (rep : Int) (r : List Int) : List Int := if takes n rep r then tellM L rep.toNat r else L
theorem told_len {n : Int} {L : List Int} {rep : Int} {r : List Int} (hL : L.length = 72) (hn : n ≤ 8) (hr : r.length = 9) : (told n L rep r).length = 72 := by
  unfold told
  split
  · rename_i h
    simp [takes, inM] at h
    exact tellM_len hL (by omega) hr
  · exact hL
theorem But.ofBelow {b : Nat} {w w' : World} (h : Below w.heap.size w w') : But b w w' := ⟨h.os, h.tape, h.output, h.size, fun k hk _ => h.block k hk⟩
theorem mat_TellG {b : Nat} {n : Int} {L r : List Int} {w : World} (h : MatIs b n L w) (hL : L.length = 72) (hn : n ≤ 8) (rep : Int) (hr : r.length = 9) :
    Calls Try.prog 12 #[.pointer (some ⟨b, 0, none⟩), .int .i64 rep, .agg (vec r)] w fun e w' => e = .returned (.bool (takes n rep r)) ∧ But b w w' ∧ MatIs b n (told n L rep r) w' := by
  unfold told
  cases hq : takes n rep r with
  | false =>
    refine (mat_Tell_off h rep hr (by unfold takes at hq; cases h1 : inM n rep <;> simp_all)).mono ?_
    rintro e w' ⟨rfl, hb⟩
    exact ⟨rfl, But.ofBelow hb, (hb.block _ (Array.getElem?_eq_some_iff.1 h).1).trans h⟩
  | true =>
    have hq2 := hq
    simp [takes, inM] at hq2
    obtain ⟨k, rfl⟩ : ∃ k : Nat, rep = (k : Int) := ⟨rep.toNat, by omega⟩
    refine (mat_Tell h hL k hq2.1.2 (by omega) hr hq2.2).mono ?_
    rintro e w' ⟨rfl, hb, hm⟩
    exact ⟨rfl, hb, by simpa using hm⟩
theorem MH.new {w : World} {l : List (Nat × Obj)} {n : Int} {L : List Int} {W W' : World} (h : Holds w l W) (hn : NewHolds W W.heap.size (.cells (vec (n :: L)) 71 (0, 0)) [] W') : MH w l W.heap.size n L W' :=
  ⟨h.call hn.1.2, hn.1.get 0 rfl, fun p hp => Nat.ne_of_lt (Array.getElem?_eq_some_iff.1 (h.1 p hp)).1, h.2.size⟩

theorem build_vec1 (x : Int) (w : World) : (Instr.build 27 #[(0, .int .i64 x)]).run Try.prog w = .ok (.agg (vec [x, 0, 0, 0, 0, 0, 0, 0])) w := run_build w _ _ _ (by kernel_rfl)
theorem shown_stab1 : stabM 2 (told 2 zero72 0 [1, 0, 0, 0, 0, 0, 0, 0, 4]) = 0 := stabM_bad ⟨1, 0, by omega, by omega, by decide⟩
theorem shown_stab2 : stabM 2 (told 2 (told 2 zero72 0 [1, 0, 0, 0, 0, 0, 0, 0, 4]) 1 [1, 0, 0, 0, 0, 0, 0, 0, 7]) = 4 := by
  rw [stabM_good]
  · decide
  · rintro ⟨i, k, hi, hk, h⟩
    have hi2 : i = 0 ∨ i = 1 := by omega
    have hk2 : k = 0 ∨ k = 1 := by omega
    rcases hi2 with rfl | rfl <;> rcases hk2 with rfl | rfl <;> exact absurd h (by decide)

set_option maxHeartbeats 2000000 in
set_option maxRecDepth 100000 in
theorem mat_shown (w : World) : Calls Try.prog 8 #[] w fun e w' => e = .returned (.bool true) ∧ Below w.heap.size w w' := by
  have HN := Hd.mk (mat_New 2 (by omega) (by omega))
  have e1 := Hd.mk shown_stab1
  have e2 := Hd.mk shown_stab2
  have l1 : Hd ((told 2 zero72 0 [1, 0, 0, 0, 0, 0, 0, 0, 4]).length = 72) := ⟨told_len rfl (by omega) rfl⟩
  have l2 : Hd ((told 2 (told 2 zero72 0 [1, 0, 0, 0, 0, 0, 0, 0, 4]) 1 [1, 0, 0, 0, 0, 0, 0, 0, 7]).length = 72) := ⟨told_len l1.out (by omega) rfl⟩
  have b1 : takes 2 0 [1, 0, 0, 0, 0, 0, 0, 0, 4] = true := by decide
  have b2 : takes 2 1 [1, 0, 0, 0, 0, 0, 0, 0, 7] = true := by decide
  have b3 : takes 2 2 zero9 = false := by decide
  have HT1 := Hd.mk (fun (w' : World) (b : Nat) (h : MatIs b 2 zero72 w') => mat_TellG h rfl (by omega) 0 (r := [1, 0, 0, 0, 0, 0, 0, 0, 4]) rfl)
  rw [b1] at HT1
  generalize told 2 zero72 0 [1, 0, 0, 0, 0, 0, 0, 0, 4] = L1 at *
  have HT2 := Hd.mk (fun (w' : World) (b : Nat) (h : MatIs b 2 L1 w') => mat_TellG h l1.out (by omega) 1 (r := [1, 0, 0, 0, 0, 0, 0, 0, 7]) rfl)
  rw [b2] at HT2
  generalize told 2 L1 1 [1, 0, 0, 0, 0, 0, 0, 0, 7] = L2 at *
  have HS1 := Hd.mk (fun (w' : World) (b : Nat) (h : MatIs b 2 L1 w') => mat_Stable (n := 2) h l1.out (by omega) (by omega))
  rw [e1.out] at HS1
  have HS2 := Hd.mk (fun (w' : World) (b : Nat) (h : MatIs b 2 L2 w') => mat_Stable (n := 2) h l2.out (by omega) (by omega))
  rw [e2.out] at HS2
  have HT3 := Hd.mk (fun (w' : World) (b : Nat) (h : MatIs b 2 L2 w') => mat_Tell_off h 2 (r := zero9) rfl (Or.inl (by decide)))
  clear b1 b2 b3 e1 e2 l1 l2
  go_enter Try.func8, Try.ntmps8
  go_wp2_with fail
  refine (HN.out _).mono ?_; rintro e w1 ⟨rfl, h1⟩
  have H1 := Hd.mk (MH.new (Holds.nil w) h1)
  generalize w.heap.size = b at H1 ⊢
  clear h1 HN
  go_wp2_with (first | ((with_reducible refine gate_dst (N := 7) rfl ?_); refine wpList_build rfl _ _ rfl #[(0, .int .i64 1)] (by simp only [List.map_toArray, List.map_cons, List.map_nil]; rfl) _ (build_vec1 1 _) ?_) | ((with_reducible refine gate_dst (N := 8) rfl ?_); refine wpList_build rfl _ _ rfl #[(0, .agg (vec [1, 0, 0, 0, 0, 0, 0, 0])), (1, .int .i64 4)] (by simp only [List.map_toArray, List.map_cons, List.map_nil]; rfl) _ (build_row rfl 4 _) ?_) | ((with_reducible refine gate_dst (N := 13) rfl ?_); refine wpList_build rfl _ _ rfl #[(0, .int .i64 1)] (by simp only [List.map_toArray, List.map_cons, List.map_nil]; rfl) _ (build_vec1 1 _) ?_) | ((with_reducible refine gate_dst (N := 14) rfl ?_); refine wpList_build rfl _ _ rfl #[(0, .agg (vec [1, 0, 0, 0, 0, 0, 0, 0])), (1, .int .i64 7)] (by simp only [List.map_toArray, List.map_cons, List.map_nil]; rfl) _ (build_row rfl 7 _) ?_))
  refine (HT1.out _ _ H1.out.mat).mono ?_; rintro e w2 ⟨rfl, h2, h2'⟩
  have H2 := Hd.mk (H1.out.tell h2 h2')
  clear H1 HT1 h2 h2'
  go_wp2_with (first | ((with_reducible refine gate_dst (N := 7) rfl ?_); refine wpList_build rfl _ _ rfl #[(0, .int .i64 1)] (by simp only [List.map_toArray, List.map_cons, List.map_nil]; rfl) _ (build_vec1 1 _) ?_) | ((with_reducible refine gate_dst (N := 8) rfl ?_); refine wpList_build rfl _ _ rfl #[(0, .agg (vec [1, 0, 0, 0, 0, 0, 0, 0])), (1, .int .i64 4)] (by simp only [List.map_toArray, List.map_cons, List.map_nil]; rfl) _ (build_row rfl 4 _) ?_) | ((with_reducible refine gate_dst (N := 13) rfl ?_); refine wpList_build rfl _ _ rfl #[(0, .int .i64 1)] (by simp only [List.map_toArray, List.map_cons, List.map_nil]; rfl) _ (build_vec1 1 _) ?_) | ((with_reducible refine gate_dst (N := 14) rfl ?_); refine wpList_build rfl _ _ rfl #[(0, .agg (vec [1, 0, 0, 0, 0, 0, 0, 0])), (1, .int .i64 7)] (by simp only [List.map_toArray, List.map_cons, List.map_nil]; rfl) _ (build_row rfl 7 _) ?_))
  refine (HS1.out _ _ H2.out.mat).mono ?_; rintro e w3 ⟨rfl, h3⟩
  have H3 := Hd.mk (H2.out.call h3)
  clear H2 HS1 h3
  go_wp2_with (first | ((with_reducible refine gate_dst (N := 7) rfl ?_); refine wpList_build rfl _ _ rfl #[(0, .int .i64 1)] (by simp only [List.map_toArray, List.map_cons, List.map_nil]; rfl) _ (build_vec1 1 _) ?_) | ((with_reducible refine gate_dst (N := 8) rfl ?_); refine wpList_build rfl _ _ rfl #[(0, .agg (vec [1, 0, 0, 0, 0, 0, 0, 0])), (1, .int .i64 4)] (by simp only [List.map_toArray, List.map_cons, List.map_nil]; rfl) _ (build_row rfl 4 _) ?_) | ((with_reducible refine gate_dst (N := 13) rfl ?_); refine wpList_build rfl _ _ rfl #[(0, .int .i64 1)] (by simp only [List.map_toArray, List.map_cons, List.map_nil]; rfl) _ (build_vec1 1 _) ?_) | ((with_reducible refine gate_dst (N := 14) rfl ?_); refine wpList_build rfl _ _ rfl #[(0, .agg (vec [1, 0, 0, 0, 0, 0, 0, 0])), (1, .int .i64 7)] (by simp only [List.map_toArray, List.map_cons, List.map_nil]; rfl) _ (build_row rfl 7 _) ?_))
  refine (HT2.out _ _ H3.out.mat).mono ?_; rintro e w4 ⟨rfl, h4, h4'⟩
  have H4 := Hd.mk (H3.out.tell h4 h4')
  clear H3 HT2 h4 h4'
  go_wp2_with fail
  refine (HS2.out _ _ H4.out.mat).mono ?_; rintro e w5 ⟨rfl, h5⟩
  have H5 := Hd.mk (H4.out.call h5)
  clear H4 HS2 h5
  go_wp2_with (first | ((with_reducible refine gate_dst (N := 31) rfl ?_); refine gate_guard (by rfl) ?_; refine wpList_build rfl _ _ rfl #[] (by simp) (.agg (vec zero9)) (build_none _) ?_))
  refine (HT3.out _ _ H5.out.mat).mono ?_; rintro e w6 ⟨rfl, h6⟩
  have H6 := Hd.mk (H5.out.call h6)
  clear H5 HT3 h6
  go_wp2_with fail
  go_ret
  exact ⟨rfl, H6.out.held.2⟩
end Go.Proofs.Ytcpgfllnaiabkaa
