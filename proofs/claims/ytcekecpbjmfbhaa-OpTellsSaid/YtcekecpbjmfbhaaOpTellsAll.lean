/- Texts that belong together, in one. -/
import Derived.Test.YtcekecpbjmfbhaaOpRefSt
import Derived.Test.YtcekecpbjmfbhaaOpRefPl
import Derived.Test.YtcekecpbjmfbhaaOpRefPut
import Derived.Test.YtcekecpbjmfbhaaOpRefUses
import Derived.Test.YtcekecpbjmfbhaaMore
import Derived.Test.YtcekecpbjmfbhaaRefStamps
/- The document's Take of an operation: its walk. -/
namespace Go.Proofs.Ytcekecpbjmfbhaa
open Go.RowKit Go.Proofs.YtcekecpbjmfbhaaW.PrintWords Go.Proofs.YtcekecpbjmfbhaaW.PrintLast Go.Proofs.YtcekecpbjmfbhaaW.PrintMore Pk
set_option linter.unusedVariables false
set_option linter.unusedSimpArgs false

set_option maxRecDepth 100000 in
theorem run_alloc_op {o : Oper} {ρ : Operand → Value} {w : World} (ho : o.op = .alloc 50) :
    (execOp ρ o).run Try.prog w = .ok (.value (.pointer (some ⟨w.heap.size, 0, none⟩))) (w.alloc (.cells #[.int .i64 0, .int .i64 0, .int .i64 0, .int .i64 0, .int .i64 0, .int .i64 0, .int .i64 0, .int .i64 0, .int .i64 0, .string ⟨#[]⟩, .string ⟨#[]⟩, .int .i64 0, .string ⟨#[]⟩] 50 (0, 0))) := by
  have hz : ∀ w, (zeroValue 50).run Try.prog w = .ok (.agg #[.int .i64 0, .int .i64 0, .int .i64 0, .int .i64 0, .int .i64 0, .int .i64 0, .int .i64 0, .int .i64 0, .int .i64 0, .string ⟨#[]⟩, .string ⟨#[]⟩, .int .i64 0, .string ⟨#[]⟩]) w := fun w => by kernel_rfl
  unfold execOp
  simp only [ho]
  go_simp
set_option maxHeartbeats 8000000 in
set_option maxRecDepth 100000 in
theorem refTake_walk (o : OpV) (b z0 z4 z5 z6 z7 z8 z9 : ByteArray) (c0 c6 c7 c8 c9 : Int) (D mB : Bool) (w : World)
    (H0 : Hd (∀ w, Calls Try.prog 57 #[.string b] w fun e w' => e = .returned (.tuple #[.int .i64 o.k, .string z0, .int .i64 c0]) ∧ Below w.heap.size w w'))
    (HS : Hd (∀ w, Calls Try.prog 58 #[.string z0, .int .i64 4] w fun e w' => StRes w z4 D [(o.t, o.r), (o.a0, o.a1), (o.i0, o.i1), (o.t0, o.t1)] e w'))
    (H6 : Hd (∀ w, Calls Try.prog 43 #[.string z5, .int .i64 64] w fun e w' => e = .returned (.tuple #[.string o.nm, .string z6, .int .i64 c6]) ∧ Below w.heap.size w w'))
    (H7 : Hd (∀ w, Calls Try.prog 43 #[.string z6, .int .i64 64] w fun e w' => e = .returned (.tuple #[.string o.nw, .string z7, .int .i64 c7]) ∧ Below w.heap.size w w'))
    (H8 : Hd (∀ w, Calls Try.prog 57 #[.string z7] w fun e w' => e = .returned (.tuple #[.int .i64 o.off, .string z8, .int .i64 c8]) ∧ Below w.heap.size w w'))
    (H9 : Hd (∀ w, Calls Try.prog 43 #[.string z8, .int .i64 64] w fun e w' => e = .returned (.tuple #[.string o.dt, .string z9, .int .i64 c9]) ∧ Below w.heap.size w w'))
    (HM : Hd (∀ w, Calls Try.prog 34 #[.agg #[.int .i64 o.t, .int .i64 o.r, .int .i64 o.k, .int .i64 o.a0, .int .i64 o.a1, .int .i64 o.i0, .int .i64 o.i1, .int .i64 o.t0, .int .i64 o.t1, .string o.nm, .string o.nw, .int .i64 o.off, .string o.dt]] w fun e w' => e = .returned (.bool mB) ∧ Below w.heap.size w w'))
    (h5 : Hd (z5 = if D = true then ⟨#[]⟩ else z4)) (B : Bool) (hB : Hd (B = (((((c0 != 0 || D) || c6 != 0) || c7 != 0) || c8 != 0) || c9 != 0)))
    (V : Value) (hV0 : Hd ((B || !mB) = true → V = .tuple #[.agg #[.int .i64 0, .int .i64 0, .int .i64 0, .int .i64 0, .int .i64 0, .int .i64 0, .int .i64 0, .int .i64 0, .int .i64 0, .string ⟨#[]⟩, .string ⟨#[]⟩, .int .i64 0, .string ⟨#[]⟩], .string ⟨#[]⟩, .int .i64 2])) (hV1 : Hd ((B || !mB) = false → V = .tuple #[.agg #[.int .i64 o.t, .int .i64 o.r, .int .i64 o.k, .int .i64 o.a0, .int .i64 o.a1, .int .i64 o.i0, .int .i64 o.i1, .int .i64 o.t0, .int .i64 o.t1, .string o.nm, .string o.nw, .int .i64 o.off, .string o.dt], .string z9, .int .i64 0])) :
    Calls Try.prog 32 #[.string b] w fun e w' => e = .returned V ∧ Below w.heap.size w w' := by
  have K0 := Hd.mk (Holds.start1 w (.cells #[.int .i64 0, .int .i64 0, .int .i64 0, .int .i64 0, .int .i64 0, .int .i64 0, .int .i64 0, .int .i64 0, .int .i64 0, .string ⟨#[]⟩, .string ⟨#[]⟩, .int .i64 0, .string ⟨#[]⟩] 50 (0, 0)))
  go_enter Try.func32, Try.ntmps32
  go_wp2_with fail
  refine world_gen_calls _ K0.out (fun W hK => ?_)
  have K0 := Hd.mk hK
  clear hK
  refine (H0.out _).mono ?_; rintro e w1 ⟨rfl, hb1⟩
  have K1 := Hd.mk (K0.out.call hb1)
  clear hb1 K0 H0
  go_wp2_with fail
  refine (HS.out _).mono ?_; rintro e w2 ⟨v, rfl, hown, hb2⟩
  have K2 := Hd.mk (K1.out.call hb2)
  have HO := Hd.mk (fun h => own_base (hown h) K1.out.2.size)
  clear hown hb2 K1 HS
  rw [← h5.out]
  obtain ⟨cs, hcs⟩ : ∃ cs : Int, cs = if D = true then 2 else 0 := ⟨_, rfl⟩
  rw [← hcs]
  have HCS := Hd.mk hcs
  clear hcs
  go_wp2_with fail
  refine (H6.out _).mono ?_; rintro e w3 ⟨rfl, hb3⟩
  have K3 := Hd.mk (K2.out.call hb3)
  have HO := Hd.mk (fun h => (HO.out h).below hb3)
  clear hb3 K2 H6
  go_wp2_with fail
  refine (H7.out _).mono ?_; rintro e w4 ⟨rfl, hb4⟩
  have K4 := Hd.mk (K3.out.call hb4)
  have HO := Hd.mk (fun h => (HO.out h).below hb4)
  clear hb4 K3 H7
  go_wp2_with fail
  refine (H8.out _).mono ?_; rintro e w5 ⟨rfl, hb5⟩
  have K5 := Hd.mk (K4.out.call hb5)
  have HO := Hd.mk (fun h => (HO.out h).below hb5)
  clear hb5 K4 H8
  go_wp2_with fail
  refine (H9.out _).mono ?_; rintro e w6 ⟨rfl, hb6⟩
  have K6 := Hd.mk (K5.out.call hb6)
  have HO := Hd.mk (fun h => (HO.out h).below hb6)
  clear hb6 K5 H9
  go_upto_region 7 with (fail)
  have NB : Hd ((c0 != 0) = true ∨ D = true ∨ (c6 != 0) = true ∨ (c7 != 0) = true ∨ (c8 != 0) = true ∨ (c9 != 0) = true → (B || !mB) = true) := ⟨fun h => by rw [hB.out]; rcases h with h | h | h | h | h | h <;> rw [h] <;> simp⟩
  have NG : Hd ((c0 != 0) = false → D = false → (c6 != 0) = false → (c7 != 0) = false → (c8 != 0) = false → (c9 != 0) = false → B = false) := ⟨fun h0 h1 h2 h3 h4 h5 => by rw [hB.out, h0, h1, h2, h3, h4, h5]; rfl⟩
  have ND : Hd (D = true → (cs != 0) = true) := ⟨fun h => by rw [HCS.out, h]; rfl⟩
  have NE : Hd (D = false → (cs != 0) = false) := ⟨fun h => by rw [HCS.out, h]; rfl⟩
  clear hB h5 HCS
  cases hc0 : (c0 != 0) with
  | true =>
    have HBB := Hd.mk (hV0.out (NB.out (.inl hc0)))
    clear NB NG ND NE HM HO
    go_wp2_with (first | ((with_reducible refine gate_store (t := 50) rfl ?_); refine wpList_store_row rfl _ _ _ rfl w.heap.size #[.int .i64 0, .int .i64 0, .int .i64 0, .int .i64 0, .int .i64 0, .int .i64 0, .int .i64 0, .int .i64 0, .int .i64 0, .string ⟨#[]⟩, .string ⟨#[]⟩, .int .i64 0, .string ⟨#[]⟩] rfl rfl 50 #[.int .i64 0, .int .i64 0, .int .i64 0, .int .i64 0, .int .i64 0, .int .i64 0, .int .i64 0, .int .i64 0, .int .i64 0, .string ⟨#[]⟩, .string ⟨#[]⟩, .int .i64 0, .string ⟨#[]⟩] (K6.out.get 0 rfl) size_op13 rfl z13_one ?_))
    have hz := setRow_heap _ _ _ #[.int .i64 0, .int .i64 0, .int .i64 0, .int .i64 0, .int .i64 0, .int .i64 0, .int .i64 0, .int .i64 0, .int .i64 0, .string ⟨#[]⟩, .string ⟨#[]⟩, .int .i64 0, .string ⟨#[]⟩] _ _ (K6.out.get 0 rfl)
    have hb := below_setRow K6.out.2 (Nat.le_refl _) #[.int .i64 0, .int .i64 0, .int .i64 0, .int .i64 0, .int .i64 0, .int .i64 0, .int .i64 0, .int .i64 0, .int .i64 0, .string ⟨#[]⟩, .string ⟨#[]⟩, .int .i64 0, .string ⟨#[]⟩]
    generalize World.setRow _ w.heap.size #[.int .i64 0, .int .i64 0, .int .i64 0, .int .i64 0, .int .i64 0, .int .i64 0, .int .i64 0, .int .i64 0, .int .i64 0, .string ⟨#[]⟩, .string ⟨#[]⟩, .int .i64 0, .string ⟨#[]⟩] = WF at *
    have o0 := cell_of_row WF _ 0 _ _ _ (hz)
    have o1 := cell_of_row WF _ 1 _ _ _ (hz)
    have o2 := cell_of_row WF _ 2 _ _ _ (hz)
    have o3 := cell_of_row WF _ 3 _ _ _ (hz)
    have o4 := cell_of_row WF _ 4 _ _ _ (hz)
    have o5 := cell_of_row WF _ 5 _ _ _ (hz)
    have o6 := cell_of_row WF _ 6 _ _ _ (hz)
    have o7 := cell_of_row WF _ 7 _ _ _ (hz)
    have o8 := cell_of_row WF _ 8 _ _ _ (hz)
    have o9 := cell_of_row WF _ 9 _ _ _ (hz)
    have o10 := cell_of_row WF _ 10 _ _ _ (hz)
    have o11 := cell_of_row WF _ 11 _ _ _ (hz)
    have o12 := cell_of_row WF _ 12 _ _ _ (hz)
    exact bodyPost_ret (v := .tuple #[.agg #[.int .i64 0, .int .i64 0, .int .i64 0, .int .i64 0, .int .i64 0, .int .i64 0, .int .i64 0, .int .i64 0, .int .i64 0, .string ⟨#[]⟩, .string ⟨#[]⟩, .int .i64 0, .string ⟨#[]⟩], .string ⟨#[]⟩, .int .i64 2]) (by simp [results, Try.results32, go_sem, o0, o1, o2, o3, o4, o5, o6, o7, o8, o9, o10, o11, o12]) rfl ⟨by rw [HBB.out], hb⟩
  | false =>
    cases hD : D with
    | true =>
      have hcs := ND.out hD
      have HBB := Hd.mk (hV0.out (NB.out (.inr (.inl hD))))
      clear NB NG ND NE HM HO hD
      go_wp2_with (first | ((with_reducible refine gate_store (t := 50) rfl ?_); refine wpList_store_row rfl _ _ _ rfl w.heap.size #[.int .i64 0, .int .i64 0, .int .i64 0, .int .i64 0, .int .i64 0, .int .i64 0, .int .i64 0, .int .i64 0, .int .i64 0, .string ⟨#[]⟩, .string ⟨#[]⟩, .int .i64 0, .string ⟨#[]⟩] rfl rfl 50 #[.int .i64 0, .int .i64 0, .int .i64 0, .int .i64 0, .int .i64 0, .int .i64 0, .int .i64 0, .int .i64 0, .int .i64 0, .string ⟨#[]⟩, .string ⟨#[]⟩, .int .i64 0, .string ⟨#[]⟩] (K6.out.get 0 rfl) size_op13 rfl z13_one ?_))
      have hz := setRow_heap _ _ _ #[.int .i64 0, .int .i64 0, .int .i64 0, .int .i64 0, .int .i64 0, .int .i64 0, .int .i64 0, .int .i64 0, .int .i64 0, .string ⟨#[]⟩, .string ⟨#[]⟩, .int .i64 0, .string ⟨#[]⟩] _ _ (K6.out.get 0 rfl)
      have hb := below_setRow K6.out.2 (Nat.le_refl _) #[.int .i64 0, .int .i64 0, .int .i64 0, .int .i64 0, .int .i64 0, .int .i64 0, .int .i64 0, .int .i64 0, .int .i64 0, .string ⟨#[]⟩, .string ⟨#[]⟩, .int .i64 0, .string ⟨#[]⟩]
      generalize World.setRow _ w.heap.size #[.int .i64 0, .int .i64 0, .int .i64 0, .int .i64 0, .int .i64 0, .int .i64 0, .int .i64 0, .int .i64 0, .int .i64 0, .string ⟨#[]⟩, .string ⟨#[]⟩, .int .i64 0, .string ⟨#[]⟩] = WF at *
      have o0 := cell_of_row WF _ 0 _ _ _ (hz)
      have o1 := cell_of_row WF _ 1 _ _ _ (hz)
      have o2 := cell_of_row WF _ 2 _ _ _ (hz)
      have o3 := cell_of_row WF _ 3 _ _ _ (hz)
      have o4 := cell_of_row WF _ 4 _ _ _ (hz)
      have o5 := cell_of_row WF _ 5 _ _ _ (hz)
      have o6 := cell_of_row WF _ 6 _ _ _ (hz)
      have o7 := cell_of_row WF _ 7 _ _ _ (hz)
      have o8 := cell_of_row WF _ 8 _ _ _ (hz)
      have o9 := cell_of_row WF _ 9 _ _ _ (hz)
      have o10 := cell_of_row WF _ 10 _ _ _ (hz)
      have o11 := cell_of_row WF _ 11 _ _ _ (hz)
      have o12 := cell_of_row WF _ 12 _ _ _ (hz)
      exact bodyPost_ret (v := .tuple #[.agg #[.int .i64 0, .int .i64 0, .int .i64 0, .int .i64 0, .int .i64 0, .int .i64 0, .int .i64 0, .int .i64 0, .int .i64 0, .string ⟨#[]⟩, .string ⟨#[]⟩, .int .i64 0, .string ⟨#[]⟩], .string ⟨#[]⟩, .int .i64 2]) (by simp [results, Try.results32, go_sem, o0, o1, o2, o3, o4, o5, o6, o7, o8, o9, o10, o11, o12]) rfl ⟨by rw [HBB.out], hb⟩
    | false =>
      have hcs := NE.out hD
      cases hc6 : (c6 != 0) with
      | true =>
        have HBB := Hd.mk (hV0.out (NB.out (.inr (.inr (.inl hc6)))))
        clear NB NG ND NE HM HO
        go_wp2_with (first | ((with_reducible refine gate_store (t := 50) rfl ?_); refine wpList_store_row rfl _ _ _ rfl w.heap.size #[.int .i64 0, .int .i64 0, .int .i64 0, .int .i64 0, .int .i64 0, .int .i64 0, .int .i64 0, .int .i64 0, .int .i64 0, .string ⟨#[]⟩, .string ⟨#[]⟩, .int .i64 0, .string ⟨#[]⟩] rfl rfl 50 #[.int .i64 0, .int .i64 0, .int .i64 0, .int .i64 0, .int .i64 0, .int .i64 0, .int .i64 0, .int .i64 0, .int .i64 0, .string ⟨#[]⟩, .string ⟨#[]⟩, .int .i64 0, .string ⟨#[]⟩] (K6.out.get 0 rfl) size_op13 rfl z13_one ?_))
        have hz := setRow_heap _ _ _ #[.int .i64 0, .int .i64 0, .int .i64 0, .int .i64 0, .int .i64 0, .int .i64 0, .int .i64 0, .int .i64 0, .int .i64 0, .string ⟨#[]⟩, .string ⟨#[]⟩, .int .i64 0, .string ⟨#[]⟩] _ _ (K6.out.get 0 rfl)
        have hb := below_setRow K6.out.2 (Nat.le_refl _) #[.int .i64 0, .int .i64 0, .int .i64 0, .int .i64 0, .int .i64 0, .int .i64 0, .int .i64 0, .int .i64 0, .int .i64 0, .string ⟨#[]⟩, .string ⟨#[]⟩, .int .i64 0, .string ⟨#[]⟩]
        generalize World.setRow _ w.heap.size #[.int .i64 0, .int .i64 0, .int .i64 0, .int .i64 0, .int .i64 0, .int .i64 0, .int .i64 0, .int .i64 0, .int .i64 0, .string ⟨#[]⟩, .string ⟨#[]⟩, .int .i64 0, .string ⟨#[]⟩] = WF at *
        have o0 := cell_of_row WF _ 0 _ _ _ (hz)
        have o1 := cell_of_row WF _ 1 _ _ _ (hz)
        have o2 := cell_of_row WF _ 2 _ _ _ (hz)
        have o3 := cell_of_row WF _ 3 _ _ _ (hz)
        have o4 := cell_of_row WF _ 4 _ _ _ (hz)
        have o5 := cell_of_row WF _ 5 _ _ _ (hz)
        have o6 := cell_of_row WF _ 6 _ _ _ (hz)
        have o7 := cell_of_row WF _ 7 _ _ _ (hz)
        have o8 := cell_of_row WF _ 8 _ _ _ (hz)
        have o9 := cell_of_row WF _ 9 _ _ _ (hz)
        have o10 := cell_of_row WF _ 10 _ _ _ (hz)
        have o11 := cell_of_row WF _ 11 _ _ _ (hz)
        have o12 := cell_of_row WF _ 12 _ _ _ (hz)
        exact bodyPost_ret (v := .tuple #[.agg #[.int .i64 0, .int .i64 0, .int .i64 0, .int .i64 0, .int .i64 0, .int .i64 0, .int .i64 0, .int .i64 0, .int .i64 0, .string ⟨#[]⟩, .string ⟨#[]⟩, .int .i64 0, .string ⟨#[]⟩], .string ⟨#[]⟩, .int .i64 2]) (by simp [results, Try.results32, go_sem, o0, o1, o2, o3, o4, o5, o6, o7, o8, o9, o10, o11, o12]) rfl ⟨by rw [HBB.out], hb⟩
      | false =>
        cases hc7 : (c7 != 0) with
        | true =>
          have HBB := Hd.mk (hV0.out (NB.out (.inr (.inr (.inr (.inl hc7))))))
          clear NB NG ND NE HM HO
          go_wp2_with (first | ((with_reducible refine gate_store (t := 50) rfl ?_); refine wpList_store_row rfl _ _ _ rfl w.heap.size #[.int .i64 0, .int .i64 0, .int .i64 0, .int .i64 0, .int .i64 0, .int .i64 0, .int .i64 0, .int .i64 0, .int .i64 0, .string ⟨#[]⟩, .string ⟨#[]⟩, .int .i64 0, .string ⟨#[]⟩] rfl rfl 50 #[.int .i64 0, .int .i64 0, .int .i64 0, .int .i64 0, .int .i64 0, .int .i64 0, .int .i64 0, .int .i64 0, .int .i64 0, .string ⟨#[]⟩, .string ⟨#[]⟩, .int .i64 0, .string ⟨#[]⟩] (K6.out.get 0 rfl) size_op13 rfl z13_one ?_))
          have hz := setRow_heap _ _ _ #[.int .i64 0, .int .i64 0, .int .i64 0, .int .i64 0, .int .i64 0, .int .i64 0, .int .i64 0, .int .i64 0, .int .i64 0, .string ⟨#[]⟩, .string ⟨#[]⟩, .int .i64 0, .string ⟨#[]⟩] _ _ (K6.out.get 0 rfl)
          have hb := below_setRow K6.out.2 (Nat.le_refl _) #[.int .i64 0, .int .i64 0, .int .i64 0, .int .i64 0, .int .i64 0, .int .i64 0, .int .i64 0, .int .i64 0, .int .i64 0, .string ⟨#[]⟩, .string ⟨#[]⟩, .int .i64 0, .string ⟨#[]⟩]
          generalize World.setRow _ w.heap.size #[.int .i64 0, .int .i64 0, .int .i64 0, .int .i64 0, .int .i64 0, .int .i64 0, .int .i64 0, .int .i64 0, .int .i64 0, .string ⟨#[]⟩, .string ⟨#[]⟩, .int .i64 0, .string ⟨#[]⟩] = WF at *
          have o0 := cell_of_row WF _ 0 _ _ _ (hz)
          have o1 := cell_of_row WF _ 1 _ _ _ (hz)
          have o2 := cell_of_row WF _ 2 _ _ _ (hz)
          have o3 := cell_of_row WF _ 3 _ _ _ (hz)
          have o4 := cell_of_row WF _ 4 _ _ _ (hz)
          have o5 := cell_of_row WF _ 5 _ _ _ (hz)
          have o6 := cell_of_row WF _ 6 _ _ _ (hz)
          have o7 := cell_of_row WF _ 7 _ _ _ (hz)
          have o8 := cell_of_row WF _ 8 _ _ _ (hz)
          have o9 := cell_of_row WF _ 9 _ _ _ (hz)
          have o10 := cell_of_row WF _ 10 _ _ _ (hz)
          have o11 := cell_of_row WF _ 11 _ _ _ (hz)
          have o12 := cell_of_row WF _ 12 _ _ _ (hz)
          exact bodyPost_ret (v := .tuple #[.agg #[.int .i64 0, .int .i64 0, .int .i64 0, .int .i64 0, .int .i64 0, .int .i64 0, .int .i64 0, .int .i64 0, .int .i64 0, .string ⟨#[]⟩, .string ⟨#[]⟩, .int .i64 0, .string ⟨#[]⟩], .string ⟨#[]⟩, .int .i64 2]) (by simp [results, Try.results32, go_sem, o0, o1, o2, o3, o4, o5, o6, o7, o8, o9, o10, o11, o12]) rfl ⟨by rw [HBB.out], hb⟩
        | false =>
          cases hc8 : (c8 != 0) with
          | true =>
            have HBB := Hd.mk (hV0.out (NB.out (.inr (.inr (.inr (.inr (.inl hc8)))))))
            clear NB NG ND NE HM HO
            go_wp2_with (first | ((with_reducible refine gate_store (t := 50) rfl ?_); refine wpList_store_row rfl _ _ _ rfl w.heap.size #[.int .i64 0, .int .i64 0, .int .i64 0, .int .i64 0, .int .i64 0, .int .i64 0, .int .i64 0, .int .i64 0, .int .i64 0, .string ⟨#[]⟩, .string ⟨#[]⟩, .int .i64 0, .string ⟨#[]⟩] rfl rfl 50 #[.int .i64 0, .int .i64 0, .int .i64 0, .int .i64 0, .int .i64 0, .int .i64 0, .int .i64 0, .int .i64 0, .int .i64 0, .string ⟨#[]⟩, .string ⟨#[]⟩, .int .i64 0, .string ⟨#[]⟩] (K6.out.get 0 rfl) size_op13 rfl z13_one ?_))
            have hz := setRow_heap _ _ _ #[.int .i64 0, .int .i64 0, .int .i64 0, .int .i64 0, .int .i64 0, .int .i64 0, .int .i64 0, .int .i64 0, .int .i64 0, .string ⟨#[]⟩, .string ⟨#[]⟩, .int .i64 0, .string ⟨#[]⟩] _ _ (K6.out.get 0 rfl)
            have hb := below_setRow K6.out.2 (Nat.le_refl _) #[.int .i64 0, .int .i64 0, .int .i64 0, .int .i64 0, .int .i64 0, .int .i64 0, .int .i64 0, .int .i64 0, .int .i64 0, .string ⟨#[]⟩, .string ⟨#[]⟩, .int .i64 0, .string ⟨#[]⟩]
            generalize World.setRow _ w.heap.size #[.int .i64 0, .int .i64 0, .int .i64 0, .int .i64 0, .int .i64 0, .int .i64 0, .int .i64 0, .int .i64 0, .int .i64 0, .string ⟨#[]⟩, .string ⟨#[]⟩, .int .i64 0, .string ⟨#[]⟩] = WF at *
            have o0 := cell_of_row WF _ 0 _ _ _ (hz)
            have o1 := cell_of_row WF _ 1 _ _ _ (hz)
            have o2 := cell_of_row WF _ 2 _ _ _ (hz)
            have o3 := cell_of_row WF _ 3 _ _ _ (hz)
            have o4 := cell_of_row WF _ 4 _ _ _ (hz)
            have o5 := cell_of_row WF _ 5 _ _ _ (hz)
            have o6 := cell_of_row WF _ 6 _ _ _ (hz)
            have o7 := cell_of_row WF _ 7 _ _ _ (hz)
            have o8 := cell_of_row WF _ 8 _ _ _ (hz)
            have o9 := cell_of_row WF _ 9 _ _ _ (hz)
            have o10 := cell_of_row WF _ 10 _ _ _ (hz)
            have o11 := cell_of_row WF _ 11 _ _ _ (hz)
            have o12 := cell_of_row WF _ 12 _ _ _ (hz)
            exact bodyPost_ret (v := .tuple #[.agg #[.int .i64 0, .int .i64 0, .int .i64 0, .int .i64 0, .int .i64 0, .int .i64 0, .int .i64 0, .int .i64 0, .int .i64 0, .string ⟨#[]⟩, .string ⟨#[]⟩, .int .i64 0, .string ⟨#[]⟩], .string ⟨#[]⟩, .int .i64 2]) (by simp [results, Try.results32, go_sem, o0, o1, o2, o3, o4, o5, o6, o7, o8, o9, o10, o11, o12]) rfl ⟨by rw [HBB.out], hb⟩
          | false =>
            cases hc9 : (c9 != 0) with
            | true =>
              have HBB := Hd.mk (hV0.out (NB.out (.inr (.inr (.inr (.inr (.inr hc9)))))))
              clear NB NG ND NE HM HO
              go_wp2_with (first | ((with_reducible refine gate_store (t := 50) rfl ?_); refine wpList_store_row rfl _ _ _ rfl w.heap.size #[.int .i64 0, .int .i64 0, .int .i64 0, .int .i64 0, .int .i64 0, .int .i64 0, .int .i64 0, .int .i64 0, .int .i64 0, .string ⟨#[]⟩, .string ⟨#[]⟩, .int .i64 0, .string ⟨#[]⟩] rfl rfl 50 #[.int .i64 0, .int .i64 0, .int .i64 0, .int .i64 0, .int .i64 0, .int .i64 0, .int .i64 0, .int .i64 0, .int .i64 0, .string ⟨#[]⟩, .string ⟨#[]⟩, .int .i64 0, .string ⟨#[]⟩] (K6.out.get 0 rfl) size_op13 rfl z13_one ?_))
              have hz := setRow_heap _ _ _ #[.int .i64 0, .int .i64 0, .int .i64 0, .int .i64 0, .int .i64 0, .int .i64 0, .int .i64 0, .int .i64 0, .int .i64 0, .string ⟨#[]⟩, .string ⟨#[]⟩, .int .i64 0, .string ⟨#[]⟩] _ _ (K6.out.get 0 rfl)
              have hb := below_setRow K6.out.2 (Nat.le_refl _) #[.int .i64 0, .int .i64 0, .int .i64 0, .int .i64 0, .int .i64 0, .int .i64 0, .int .i64 0, .int .i64 0, .int .i64 0, .string ⟨#[]⟩, .string ⟨#[]⟩, .int .i64 0, .string ⟨#[]⟩]
              generalize World.setRow _ w.heap.size #[.int .i64 0, .int .i64 0, .int .i64 0, .int .i64 0, .int .i64 0, .int .i64 0, .int .i64 0, .int .i64 0, .int .i64 0, .string ⟨#[]⟩, .string ⟨#[]⟩, .int .i64 0, .string ⟨#[]⟩] = WF at *
              have o0 := cell_of_row WF _ 0 _ _ _ (hz)
              have o1 := cell_of_row WF _ 1 _ _ _ (hz)
              have o2 := cell_of_row WF _ 2 _ _ _ (hz)
              have o3 := cell_of_row WF _ 3 _ _ _ (hz)
              have o4 := cell_of_row WF _ 4 _ _ _ (hz)
              have o5 := cell_of_row WF _ 5 _ _ _ (hz)
              have o6 := cell_of_row WF _ 6 _ _ _ (hz)
              have o7 := cell_of_row WF _ 7 _ _ _ (hz)
              have o8 := cell_of_row WF _ 8 _ _ _ (hz)
              have o9 := cell_of_row WF _ 9 _ _ _ (hz)
              have o10 := cell_of_row WF _ 10 _ _ _ (hz)
              have o11 := cell_of_row WF _ 11 _ _ _ (hz)
              have o12 := cell_of_row WF _ 12 _ _ _ (hz)
              exact bodyPost_ret (v := .tuple #[.agg #[.int .i64 0, .int .i64 0, .int .i64 0, .int .i64 0, .int .i64 0, .int .i64 0, .int .i64 0, .int .i64 0, .int .i64 0, .string ⟨#[]⟩, .string ⟨#[]⟩, .int .i64 0, .string ⟨#[]⟩], .string ⟨#[]⟩, .int .i64 2]) (by simp [results, Try.results32, go_sem, o0, o1, o2, o3, o4, o5, o6, o7, o8, o9, o10, o11, o12]) rfl ⟨by rw [HBB.out], hb⟩
            | false =>
              have HBB := Hd.mk (NG.out hc0 hD hc6 hc7 hc8 hc9)
              have HL := Hd.mk (HO.out hD)
              clear NB NG ND NE HO hD
              obtain ⟨g, cap, rfl, hg, hcell⟩ := HL.out.lit (by simp)
              have s0 := hcell 0 _ rfl 0 _ rfl
              have s1 := hcell 0 _ rfl 1 _ rfl
              have s2 := hcell 1 _ rfl 0 _ rfl
              have s3 := hcell 1 _ rfl 1 _ rfl
              have s4 := hcell 2 _ rfl 0 _ rfl
              have s5 := hcell 2 _ rfl 1 _ rfl
              have s6 := hcell 3 _ rfl 0 _ rfl
              have s7 := hcell 3 _ rfl 1 _ rfl
              clear hcell HL
              dsimp only [stE, Nat.zero_mul, Nat.zero_add, Nat.one_mul, Nat.reduceMul, Nat.reduceAdd] at s0 s1 s2 s3 s4 s5 s6 s7
              go_upto_region 9 with (fail)
              have hgn : g < w6.heap.size := block_lt_of_cell s0
              refine start_ (n := 20) (S := fun W_ => Below w6.heap.size w6 W_) (ds := []) #[false, false, false, false, false, false, false, false, false, false, false, false, false, false, false, false, false, false, false, false] (by kernel_rfl) rfl rfl ((Below.refl _ _).drew) (fun hHeld => ?_)
              refine pure_ (i := 0) (N := some 83) (v := ?_) (a' := ?_) #[true, false, false, false, false, false, false, false, false, false, false, false, false, false, false, false, false, false, false, false] rfl rfl (by kernel_rfl) (fun _ _ _ h => h) (Or.inl ⟨by rfl, ?_⟩) ?_ ?_
              rotate_left
              · intro w_
                go_simp
                try with_reducible rfl
              rotate_left
              · simp only [Act.put, List.setIfInBounds_toArray, List.set_cons_zero, List.set_cons_succ]
                rfl
              refine pure_ (i := 1) (N := some 84) (v := ?_) (a' := ?_) #[true, true, false, false, false, false, false, false, false, false, false, false, false, false, false, false, false, false, false, false] rfl rfl (by kernel_rfl) (fun _ _ _ h => h) (Or.inl ⟨by rfl, ?_⟩) ?_ ?_
              rotate_left
              · intro w_
                go_simp
                try with_reducible rfl
              rotate_left
              · simp only [Act.put, List.setIfInBounds_toArray, List.set_cons_zero, List.set_cons_succ]
                rfl
              refine take_ (i := 2) (N := some 85) (v := .agg #[.int .i64 o.t, .int .i64 o.r]) (a' := ?_) #[true, true, true, false, false, false, false, false, false, false, false, false, false, false, false, false, false, false, false, false] rfl rfl (by kernel_rfl) (fun _ _ _ h => h) (Or.inl ⟨by rfl, fun w' h => by have e0 := (h.cell (p := ⟨g, 0, none⟩) hgn).trans s0; have e1 := (h.cell (p := ⟨g, 1, none⟩) hgn).trans s1; go_simp⟩) hHeld ?_ ?_
              rotate_left
              · simp only [Act.put, List.setIfInBounds_toArray, List.set_cons_zero, List.set_cons_succ]
                rfl
              refine pure_ (i := 3) (N := some 86) (v := ?_) (a' := ?_) #[true, true, true, true, false, false, false, false, false, false, false, false, false, false, false, false, false, false, false, false] rfl rfl (by kernel_rfl) (fun _ _ _ h => h) (Or.inl ⟨by rfl, ?_⟩) ?_ ?_
              rotate_left
              · intro w_
                go_simp
                try with_reducible rfl
              rotate_left
              · simp only [Act.put, List.setIfInBounds_toArray, List.set_cons_zero, List.set_cons_succ]
                rfl
              refine pure_ (i := 4) (N := some 87) (v := ?_) (a' := ?_) #[true, true, true, true, true, false, false, false, false, false, false, false, false, false, false, false, false, false, false, false] rfl rfl (by kernel_rfl) (fun _ _ _ h => h) (Or.inl ⟨by rfl, ?_⟩) ?_ ?_
              rotate_left
              · intro w_
                go_simp
                try with_reducible rfl
              rotate_left
              · simp only [Act.put, List.setIfInBounds_toArray, List.set_cons_zero, List.set_cons_succ]
                rfl
              refine pure_ (i := 5) (N := some 88) (v := ?_) (a' := ?_) #[true, true, true, true, true, true, false, false, false, false, false, false, false, false, false, false, false, false, false, false] rfl rfl (by kernel_rfl) (fun _ _ _ h => h) (Or.inl ⟨by rfl, ?_⟩) ?_ ?_
              rotate_left
              · intro w_
                go_simp
                try with_reducible rfl
              rotate_left
              · simp only [Act.put, List.setIfInBounds_toArray, List.set_cons_zero, List.set_cons_succ]
                rfl
              refine take_ (i := 6) (N := some 89) (v := .agg #[.int .i64 o.a0, .int .i64 o.a1]) (a' := ?_) #[true, true, true, true, true, true, true, false, false, false, false, false, false, false, false, false, false, false, false, false] rfl rfl (by kernel_rfl) (fun _ _ _ h => h) (Or.inl ⟨by rfl, fun w' h => by have e0 := (h.cell (p := ⟨g, 2, none⟩) hgn).trans s2; have e1 := (h.cell (p := ⟨g, 3, none⟩) hgn).trans s3; go_simp⟩) hHeld ?_ ?_
              rotate_left
              · simp only [Act.put, List.setIfInBounds_toArray, List.set_cons_zero, List.set_cons_succ]
                rfl
              refine pure_ (i := 7) (N := some 90) (v := ?_) (a' := ?_) #[true, true, true, true, true, true, true, true, false, false, false, false, false, false, false, false, false, false, false, false] rfl rfl (by kernel_rfl) (fun _ _ _ h => h) (Or.inl ⟨by rfl, ?_⟩) ?_ ?_
              rotate_left
              · intro w_
                go_simp
                try with_reducible rfl
              rotate_left
              · simp only [Act.put, List.setIfInBounds_toArray, List.set_cons_zero, List.set_cons_succ]
                rfl
              refine pure_ (i := 8) (N := some 91) (v := ?_) (a' := ?_) #[true, true, true, true, true, true, true, true, true, false, false, false, false, false, false, false, false, false, false, false] rfl rfl (by kernel_rfl) (fun _ _ _ h => h) (Or.inl ⟨by rfl, ?_⟩) ?_ ?_
              rotate_left
              · intro w_
                go_simp
                try with_reducible rfl
              rotate_left
              · simp only [Act.put, List.setIfInBounds_toArray, List.set_cons_zero, List.set_cons_succ]
                rfl
              refine take_ (i := 9) (N := some 92) (v := .agg #[.int .i64 o.i0, .int .i64 o.i1]) (a' := ?_) #[true, true, true, true, true, true, true, true, true, true, false, false, false, false, false, false, false, false, false, false] rfl rfl (by kernel_rfl) (fun _ _ _ h => h) (Or.inl ⟨by rfl, fun w' h => by have e0 := (h.cell (p := ⟨g, 4, none⟩) hgn).trans s4; have e1 := (h.cell (p := ⟨g, 5, none⟩) hgn).trans s5; go_simp⟩) hHeld ?_ ?_
              rotate_left
              · simp only [Act.put, List.setIfInBounds_toArray, List.set_cons_zero, List.set_cons_succ]
                rfl
              refine pure_ (i := 10) (N := some 93) (v := ?_) (a' := ?_) #[true, true, true, true, true, true, true, true, true, true, true, false, false, false, false, false, false, false, false, false] rfl rfl (by kernel_rfl) (fun _ _ _ h => h) (Or.inl ⟨by rfl, ?_⟩) ?_ ?_
              rotate_left
              · intro w_
                go_simp
                try with_reducible rfl
              rotate_left
              · simp only [Act.put, List.setIfInBounds_toArray, List.set_cons_zero, List.set_cons_succ]
                rfl
              refine pure_ (i := 11) (N := some 94) (v := ?_) (a' := ?_) #[true, true, true, true, true, true, true, true, true, true, true, true, false, false, false, false, false, false, false, false] rfl rfl (by kernel_rfl) (fun _ _ _ h => h) (Or.inl ⟨by rfl, ?_⟩) ?_ ?_
              rotate_left
              · intro w_
                go_simp
                try with_reducible rfl
              rotate_left
              · simp only [Act.put, List.setIfInBounds_toArray, List.set_cons_zero, List.set_cons_succ]
                rfl
              refine take_ (i := 12) (N := some 95) (v := .agg #[.int .i64 o.t0, .int .i64 o.t1]) (a' := ?_) #[true, true, true, true, true, true, true, true, true, true, true, true, true, false, false, false, false, false, false, false] rfl rfl (by kernel_rfl) (fun _ _ _ h => h) (Or.inl ⟨by rfl, fun w' h => by have e0 := (h.cell (p := ⟨g, 6, none⟩) hgn).trans s6; have e1 := (h.cell (p := ⟨g, 7, none⟩) hgn).trans s7; go_simp⟩) hHeld ?_ ?_
              rotate_left
              · simp only [Act.put, List.setIfInBounds_toArray, List.set_cons_zero, List.set_cons_succ]
                rfl
              refine pure_ (i := 13) (N := some 96) (v := ?_) (a' := ?_) #[true, true, true, true, true, true, true, true, true, true, true, true, true, true, false, false, false, false, false, false] rfl rfl (by kernel_rfl) (fun _ _ _ h => h) (Or.inl ⟨by rfl, ?_⟩) ?_ ?_
              rotate_left
              · intro w_
                go_simp
                try with_reducible rfl
              rotate_left
              · simp only [Act.put, List.setIfInBounds_toArray, List.set_cons_zero, List.set_cons_succ]
                rfl
              refine pure_ (i := 14) (N := some 97) (v := ?_) (a' := ?_) #[true, true, true, true, true, true, true, true, true, true, true, true, true, true, true, false, false, false, false, false] rfl rfl (by kernel_rfl) (fun _ _ _ h => h) (Or.inl ⟨by rfl, ?_⟩) ?_ ?_
              rotate_left
              · intro w_
                go_simp
                try with_reducible rfl
              rotate_left
              · simp only [Act.put, List.setIfInBounds_toArray, List.set_cons_zero, List.set_cons_succ]
                rfl
              refine pure_ (i := 15) (N := some 98) (v := ?_) (a' := ?_) #[true, true, true, true, true, true, true, true, true, true, true, true, true, true, true, true, false, false, false, false] rfl rfl (by kernel_rfl) (fun _ _ _ h => h) (Or.inl ⟨by rfl, ?_⟩) ?_ ?_
              rotate_left
              · intro w_
                go_simp
                try with_reducible rfl
              rotate_left
              · simp only [Act.put, List.setIfInBounds_toArray, List.set_cons_zero, List.set_cons_succ]
                rfl
              refine pure_ (i := 16) (N := some 99) (v := ?_) (a' := ?_) #[true, true, true, true, true, true, true, true, true, true, true, true, true, true, true, true, true, false, false, false] rfl rfl (by kernel_rfl) (fun _ _ _ h => h) (Or.inl ⟨by rfl, ?_⟩) ?_ ?_
              rotate_left
              · intro w_
                go_simp
                try with_reducible rfl
              rotate_left
              · simp only [Act.put, List.setIfInBounds_toArray, List.set_cons_zero, List.set_cons_succ]
                rfl
              refine pure_ (i := 17) (N := some 100) (v := ?_) (a' := ?_) #[true, true, true, true, true, true, true, true, true, true, true, true, true, true, true, true, true, true, false, false] rfl rfl (by kernel_rfl) (fun _ _ _ h => h) (Or.inl ⟨by rfl, ?_⟩) ?_ ?_
              rotate_left
              · intro w_
                go_simp
                try with_reducible rfl
              rotate_left
              · simp only [Act.put, List.setIfInBounds_toArray, List.set_cons_zero, List.set_cons_succ]
                rfl
              refine one_ (i := 18) (N := some 23) #[true, true, true, true, true, true, true, true, true, true, true, true, true, true, true, true, true, true, true, false] rfl rfl (by kernel_rfl) (by decide) (fun K hK => ?_)
              refine value_ (by rfl) rfl (run_alloc_op rfl) ?_
              refine hK.out _ _ (hHeld.alloc hHeld.size _) (fun hHeld => ?_)
              clear hK K
              refine norm_ (a' := ?_) ?_ ?_
              rotate_left
              · show Act.put _ (some 23) _ = _
                simp only [Act.put, List.setIfInBounds_toArray, List.set_cons_zero, List.set_cons_succ]
                rfl
              refine one_ (i := 19) (N := none) #[true, true, true, true, true, true, true, true, true, true, true, true, true, true, true, true, true, true, true, true] rfl rfl (by kernel_rfl) (by decide) (fun K hK => ?_)
              refine skip_ (by rfl) rfl (run_store_row _ _ _ rfl _ #[.int .i64 o.t, .int .i64 o.r, .int .i64 o.k, .int .i64 o.a0, .int .i64 o.a1, .int .i64 o.i0, .int .i64 o.i1, .int .i64 o.t0, .int .i64 o.t1, .string o.nm, .string o.nw, .int .i64 o.off, .string o.dt] rfl rfl 50 #[.int .i64 0, .int .i64 0, .int .i64 0, .int .i64 0, .int .i64 0, .int .i64 0, .int .i64 0, .int .i64 0, .int .i64 0, .string ⟨#[]⟩, .string ⟨#[]⟩, .int .i64 0, .string ⟨#[]⟩] (heap_alloc_new _ _) size_op13 rfl (cs_one o)) ?_
              refine hK.out _ _ (below_setRow hHeld (Nat.le_refl _) _) (fun hHeld => ?_)
              clear hK K
              refine done_ (by kernel_rfl) ?_
              have KA : Hd (Holds w [(w6.heap.size, .cells #[.int .i64 o.t, .int .i64 o.r, .int .i64 o.k, .int .i64 o.a0, .int .i64 o.a1, .int .i64 o.i0, .int .i64 o.i1, .int .i64 o.t0, .int .i64 o.t1, .string o.nm, .string o.nw, .int .i64 o.off, .string o.dt] 50 (0, 0)), (w.heap.size, .cells #[.int .i64 0, .int .i64 0, .int .i64 0, .int .i64 0, .int .i64 0, .int .i64 0, .int .i64 0, .int .i64 0, .int .i64 0, .string ⟨#[]⟩, .string ⟨#[]⟩, .int .i64 0, .string ⟨#[]⟩] 50 (0, 0))] _) := ⟨K6.out.drew.made #[.int .i64 0, .int .i64 0, .int .i64 0, .int .i64 0, .int .i64 0, .int .i64 0, .int .i64 0, .int .i64 0, .int .i64 0, .string ⟨#[]⟩, .string ⟨#[]⟩, .int .i64 0, .string ⟨#[]⟩] #[.int .i64 o.t, .int .i64 o.r, .int .i64 o.k, .int .i64 o.a0, .int .i64 o.a1, .int .i64 o.i0, .int .i64 o.i1, .int .i64 o.t0, .int .i64 o.t1, .string o.nm, .string o.nw, .int .i64 o.off, .string o.dt] 50⟩
              clear hHeld s0 s1 s2 s3 s4 s5 s6 s7 hgn K6
              go_upto_region 10 with (fail)
              refine world_gen _ KA.out (fun W hK => ?_)
              have KA := Hd.mk hK
              clear hK
              have g0 := cell_of_row W _ 0 _ _ _ (KA.out.get 0 rfl)
              have g1 := cell_of_row W _ 1 _ _ _ (KA.out.get 0 rfl)
              have g2 := cell_of_row W _ 2 _ _ _ (KA.out.get 0 rfl)
              have g3 := cell_of_row W _ 3 _ _ _ (KA.out.get 0 rfl)
              have g4 := cell_of_row W _ 4 _ _ _ (KA.out.get 0 rfl)
              have g5 := cell_of_row W _ 5 _ _ _ (KA.out.get 0 rfl)
              have g6 := cell_of_row W _ 6 _ _ _ (KA.out.get 0 rfl)
              have g7 := cell_of_row W _ 7 _ _ _ (KA.out.get 0 rfl)
              have g8 := cell_of_row W _ 8 _ _ _ (KA.out.get 0 rfl)
              have g9 := cell_of_row W _ 9 _ _ _ (KA.out.get 0 rfl)
              have g10 := cell_of_row W _ 10 _ _ _ (KA.out.get 0 rfl)
              have g11 := cell_of_row W _ 11 _ _ _ (KA.out.get 0 rfl)
              have g12 := cell_of_row W _ 12 _ _ _ (KA.out.get 0 rfl)
              go_wp2_with fail
              refine (HM.out _).mono ?_; rintro e w7 ⟨rfl, hb⟩
              have KM := Hd.mk (KA.out.call hb)
              clear hb KA HM
              clear g0 g1 g2 g3 g4 g5 g6 g7 g8 g9 g10 g11 g12
              cases mB with
              | true =>
                have HV := Hd.mk (hV1.out (by rw [HBB.out]; rfl))
                clear hV0 hV1 HBB
                go_wp2_with (first | ((with_reducible refine gate_load (t := 50) rfl ?_); refine wpList_load_row rfl _ _ rfl w6.heap.size rfl 50 #[.int .i64 o.t, .int .i64 o.r, .int .i64 o.k, .int .i64 o.a0, .int .i64 o.a1, .int .i64 o.i0, .int .i64 o.i1, .int .i64 o.t0, .int .i64 o.t1, .string o.nm, .string o.nw, .int .i64 o.off, .string o.dt] (0, 0) _ (KM.out.get 0 rfl) Try.underlying50 rfl size_op13 ?_) | ((with_reducible refine gate_store (t := 50) rfl ?_); refine wpList_store_row rfl _ _ _ rfl w.heap.size #[.int .i64 o.t, .int .i64 o.r, .int .i64 o.k, .int .i64 o.a0, .int .i64 o.a1, .int .i64 o.i0, .int .i64 o.i1, .int .i64 o.t0, .int .i64 o.t1, .string o.nm, .string o.nw, .int .i64 o.off, .string o.dt] rfl rfl 50 #[.int .i64 0, .int .i64 0, .int .i64 0, .int .i64 0, .int .i64 0, .int .i64 0, .int .i64 0, .int .i64 0, .int .i64 0, .string ⟨#[]⟩, .string ⟨#[]⟩, .int .i64 0, .string ⟨#[]⟩] (KM.out.get 1 rfl) size_op13 rfl (cs_one o) ?_))
                have hz := setRow_heap _ _ _ #[.int .i64 o.t, .int .i64 o.r, .int .i64 o.k, .int .i64 o.a0, .int .i64 o.a1, .int .i64 o.i0, .int .i64 o.i1, .int .i64 o.t0, .int .i64 o.t1, .string o.nm, .string o.nw, .int .i64 o.off, .string o.dt] _ _ (KM.out.get 1 rfl)
                have hb := below_setRow KM.out.2 (Nat.le_refl _) #[.int .i64 o.t, .int .i64 o.r, .int .i64 o.k, .int .i64 o.a0, .int .i64 o.a1, .int .i64 o.i0, .int .i64 o.i1, .int .i64 o.t0, .int .i64 o.t1, .string o.nm, .string o.nw, .int .i64 o.off, .string o.dt]
                generalize World.setRow _ w.heap.size #[.int .i64 o.t, .int .i64 o.r, .int .i64 o.k, .int .i64 o.a0, .int .i64 o.a1, .int .i64 o.i0, .int .i64 o.i1, .int .i64 o.t0, .int .i64 o.t1, .string o.nm, .string o.nw, .int .i64 o.off, .string o.dt] = WF at *
                have o0 := cell_of_row WF _ 0 _ _ _ (hz)
                have o1 := cell_of_row WF _ 1 _ _ _ (hz)
                have o2 := cell_of_row WF _ 2 _ _ _ (hz)
                have o3 := cell_of_row WF _ 3 _ _ _ (hz)
                have o4 := cell_of_row WF _ 4 _ _ _ (hz)
                have o5 := cell_of_row WF _ 5 _ _ _ (hz)
                have o6 := cell_of_row WF _ 6 _ _ _ (hz)
                have o7 := cell_of_row WF _ 7 _ _ _ (hz)
                have o8 := cell_of_row WF _ 8 _ _ _ (hz)
                have o9 := cell_of_row WF _ 9 _ _ _ (hz)
                have o10 := cell_of_row WF _ 10 _ _ _ (hz)
                have o11 := cell_of_row WF _ 11 _ _ _ (hz)
                have o12 := cell_of_row WF _ 12 _ _ _ (hz)
                exact bodyPost_ret (v := .tuple #[.agg #[.int .i64 o.t, .int .i64 o.r, .int .i64 o.k, .int .i64 o.a0, .int .i64 o.a1, .int .i64 o.i0, .int .i64 o.i1, .int .i64 o.t0, .int .i64 o.t1, .string o.nm, .string o.nw, .int .i64 o.off, .string o.dt], .string z9, .int .i64 0]) (by simp [results, Try.results32, go_sem, o0, o1, o2, o3, o4, o5, o6, o7, o8, o9, o10, o11, o12]) rfl ⟨by rw [HV.out], hb⟩
              | false =>
                have HV := Hd.mk (hV0.out (by rw [HBB.out]; rfl))
                clear hV0 hV1 HBB
                go_wp2_with (first | ((with_reducible refine gate_store (t := 50) rfl ?_); refine wpList_store_row rfl _ _ _ rfl w.heap.size #[.int .i64 0, .int .i64 0, .int .i64 0, .int .i64 0, .int .i64 0, .int .i64 0, .int .i64 0, .int .i64 0, .int .i64 0, .string ⟨#[]⟩, .string ⟨#[]⟩, .int .i64 0, .string ⟨#[]⟩] rfl rfl 50 #[.int .i64 0, .int .i64 0, .int .i64 0, .int .i64 0, .int .i64 0, .int .i64 0, .int .i64 0, .int .i64 0, .int .i64 0, .string ⟨#[]⟩, .string ⟨#[]⟩, .int .i64 0, .string ⟨#[]⟩] (KM.out.get 1 rfl) size_op13 rfl z13_one ?_))
                have hz := setRow_heap _ _ _ #[.int .i64 0, .int .i64 0, .int .i64 0, .int .i64 0, .int .i64 0, .int .i64 0, .int .i64 0, .int .i64 0, .int .i64 0, .string ⟨#[]⟩, .string ⟨#[]⟩, .int .i64 0, .string ⟨#[]⟩] _ _ (KM.out.get 1 rfl)
                have hb := below_setRow KM.out.2 (Nat.le_refl _) #[.int .i64 0, .int .i64 0, .int .i64 0, .int .i64 0, .int .i64 0, .int .i64 0, .int .i64 0, .int .i64 0, .int .i64 0, .string ⟨#[]⟩, .string ⟨#[]⟩, .int .i64 0, .string ⟨#[]⟩]
                generalize World.setRow _ w.heap.size #[.int .i64 0, .int .i64 0, .int .i64 0, .int .i64 0, .int .i64 0, .int .i64 0, .int .i64 0, .int .i64 0, .int .i64 0, .string ⟨#[]⟩, .string ⟨#[]⟩, .int .i64 0, .string ⟨#[]⟩] = WF at *
                have o0 := cell_of_row WF _ 0 _ _ _ (hz)
                have o1 := cell_of_row WF _ 1 _ _ _ (hz)
                have o2 := cell_of_row WF _ 2 _ _ _ (hz)
                have o3 := cell_of_row WF _ 3 _ _ _ (hz)
                have o4 := cell_of_row WF _ 4 _ _ _ (hz)
                have o5 := cell_of_row WF _ 5 _ _ _ (hz)
                have o6 := cell_of_row WF _ 6 _ _ _ (hz)
                have o7 := cell_of_row WF _ 7 _ _ _ (hz)
                have o8 := cell_of_row WF _ 8 _ _ _ (hz)
                have o9 := cell_of_row WF _ 9 _ _ _ (hz)
                have o10 := cell_of_row WF _ 10 _ _ _ (hz)
                have o11 := cell_of_row WF _ 11 _ _ _ (hz)
                have o12 := cell_of_row WF _ 12 _ _ _ (hz)
                exact bodyPost_ret (v := .tuple #[.agg #[.int .i64 0, .int .i64 0, .int .i64 0, .int .i64 0, .int .i64 0, .int .i64 0, .int .i64 0, .int .i64 0, .int .i64 0, .string ⟨#[]⟩, .string ⟨#[]⟩, .int .i64 0, .string ⟨#[]⟩], .string ⟨#[]⟩, .int .i64 2]) (by simp [results, Try.results32, go_sem, o0, o1, o2, o3, o4, o5, o6, o7, o8, o9, o10, o11, o12]) rfl ⟨by rw [HV.out], hb⟩
end Go.Proofs.Ytcekecpbjmfbhaa

/- The document's Take of an operation answers as the code's: a plain law. -/
namespace Go.Proofs.Ytcekecpbjmfbhaa
open Go.RowKit Go.Proofs.YtcekecpbjmfbhaaW.PrintWords Go.Proofs.YtcekecpbjmfbhaaW.PrintLast Go.Proofs.YtcekecpbjmfbhaaW.PrintMore Pk
set_option linter.unusedVariables false
set_option linter.unusedSimpArgs false

theorem ref_takeS (s : ByteArray) (hs : s.size ≤ 140737488355328) (w : World) : Calls Try.prog 74 #[.string s] w fun e w' => e = .returned (.tuple #[.agg #[.int .i64 (tsT s).1, .int .i64 (tsT s).2.1], .string (tsT s).2.2.1, .int .i64 (tsT s).2.2.2]) ∧ Below w.heap.size w w' := by
  have h := ref_stampTake s hs w
  unfold tsT
  cases hT : tkS s.data.toList with
  | none => rw [hT] at h; exact h
  | some p => rw [hT] at h; exact h
theorem ref_takeI (s : ByteArray) (hs : s.size ≤ 140737488355328) (w : World) : Calls Try.prog 57 #[.string s] w fun e w' => e = .returned (.tuple #[.int .i64 (tiT s).1, .string (tiT s).2.1, .int .i64 (tiT s).2.2]) ∧ Below w.heap.size w w' := by
  have h := ref_TakeInt s hs w
  unfold tiT
  cases hT : tk s.data.toList 0 0 with
  | none => rw [hT] at h; exact h
  | some p => rw [hT] at h; exact h
theorem ref_takeX (s : ByteArray) (hs : s.size ≤ 140737488355328) (w : World) : Calls Try.prog 43 #[.string s, .int .i64 64] w fun e w' => e = .returned (.tuple #[.string (txT s).1, .string (txT s).2.1, .int .i64 (txT s).2.2]) ∧ Below w.heap.size w w' := by
  have h := ref_TakeText s hs 64 (by decide) (by decide) w
  unfold txT
  cases hT : tx 64 (tk s.data.toList 0 0) with
  | none => rw [hT] at h; exact h
  | some p => rw [hT] at h; exact h
/-- The rests behind the stamps. -/
def p6 (z : ByteArray) : ByteArray := (txT z).2.1
def p7 (z : ByteArray) : ByteArray := (txT (p6 z)).2.1
def p8 (z : ByteArray) : ByteArray := (tiT (p7 z)).2.1
def p9 (z : ByteArray) : ByteArray := (txT (p8 z)).2.1
def mkO (v : OpV) (z : ByteArray) : OpV := ⟨v.t, v.r, v.k, v.a0, v.a1, v.i0, v.i1, v.t0, v.t1, (txT z).1, (txT (p6 z)).1, (tiT (p7 z)).1, (txT (p8 z)).1⟩
def tailB (A : Bool) (z : ByteArray) : Bool := (((A || (txT z).2.2 != 0) || (txT (p6 z)).2.2 != 0) || (tiT (p7 z)).2.2 != 0) || (txT (p8 z)).2.2 != 0
theorem p_sizes (z : ByteArray) : (p6 z).size ≤ z.size ∧ (p7 z).size ≤ z.size ∧ (p8 z).size ≤ z.size ∧ (txT (p8 z)).1.size ≤ 64 := by
  have h6 : (p6 z).size ≤ z.size := (txT_rest z).1
  have h7 : (p7 z).size ≤ z.size := Nat.le_trans (txT_rest (p6 z)).1 h6
  have h8 : (p8 z).size ≤ z.size := Nat.le_trans (tiT_rest (p7 z)).1 h7
  exact ⟨h6, h7, h8, (txT_rest (p8 z)).2⟩
theorem refTake_mid (v : OpV) (b z0 z4 z5 : ByteArray) (c0 : Int) (D : Bool) (hz : z5.size ≤ 140737488355328) (h5 : z5 = if D = true then ⟨#[]⟩ else z4)
    (H0 : ∀ w, Calls Try.prog 57 #[.string b] w fun e w' => e = .returned (.tuple #[.int .i64 v.k, .string z0, .int .i64 c0]) ∧ Below w.heap.size w w')
    (HS : ∀ w, Calls Try.prog 58 #[.string z0, .int .i64 4] w fun e w' => StRes w z4 D [(v.t, v.r), (v.a0, v.a1), (v.i0, v.i1), (v.t0, v.t1)] e w')
    (V : Value) (hV0 : (tailB (c0 != 0 || D) z5 || !(mkO v z5).may) = true → V = .tuple #[.agg #[.int .i64 0, .int .i64 0, .int .i64 0, .int .i64 0, .int .i64 0, .int .i64 0, .int .i64 0, .int .i64 0, .int .i64 0, .string ⟨#[]⟩, .string ⟨#[]⟩, .int .i64 0, .string ⟨#[]⟩], .string ⟨#[]⟩, .int .i64 2]) (hV1 : (tailB (c0 != 0 || D) z5 || !(mkO v z5).may) = false → V = .tuple #[.agg (mkO v z5).cells, .string (p9 z5), .int .i64 0]) (w : World) :
    Calls Try.prog 32 #[.string b] w fun e w' => e = .returned V ∧ Below w.heap.size w w' := by
  obtain ⟨s6, s7, s8, s9⟩ := p_sizes z5
  have q6 := ref_takeX z5 hz
  have q7 := ref_takeX (p6 z5) (Nat.le_trans s6 hz)
  have q8 := ref_takeI (p7 z5) (Nat.le_trans s7 hz)
  have q9 := ref_takeX (p8 z5) (Nat.le_trans s8 hz)
  have HM : ∀ w, Calls Try.prog 34 #[.agg (mkO v z5).cells] w fun e w' => e = .returned (.bool (mkO v z5).may) ∧ Below w.heap.size w w' := by
    intro w
    rw [← refMayO_eq]
    exact ref_May (mkO v z5) (le64 s9) w
  have e6 : (txT z5).2.1 = p6 z5 := rfl
  have e7 : (txT (p6 z5)).2.1 = p7 z5 := rfl
  have e8 : (tiT (p7 z5)).2.1 = p8 z5 := rfl
  have e9 : (txT (p8 z5)).2.1 = p9 z5 := rfl
  rw [e6] at q6
  rw [e7] at q7
  rw [e8] at q8
  rw [e9] at q9
  have x1 : (txT z5).1 = (mkO v z5).nm := rfl
  have x2 : (txT (p6 z5)).1 = (mkO v z5).nw := rfl
  have x3 : (tiT (p7 z5)).1 = (mkO v z5).off := rfl
  have x4 : (txT (p8 z5)).1 = (mkO v z5).dt := rfl
  rw [x1] at q6
  rw [x2] at q7
  rw [x3] at q8
  rw [x4] at q9
  have k1 : v.k = (mkO v z5).k := rfl
  have k2 : v.t = (mkO v z5).t := rfl
  have k3 : v.r = (mkO v z5).r := rfl
  have k4 : v.a0 = (mkO v z5).a0 := rfl
  have k5 : v.a1 = (mkO v z5).a1 := rfl
  have k6 : v.i0 = (mkO v z5).i0 := rfl
  have k7 : v.i1 = (mkO v z5).i1 := rfl
  have k8 : v.t0 = (mkO v z5).t0 := rfl
  have k9 : v.t1 = (mkO v z5).t1 := rfl
  rw [k1] at H0
  rw [k2, k3, k4, k5, k6, k7, k8, k9] at HS
  unfold tailB at hV0 hV1
  generalize mkO v z5 = o at *
  generalize (txT z5).2.2 = c6 at *
  generalize (txT (p6 z5)).2.2 = c7 at *
  generalize (tiT (p7 z5)).2.2 = c8 at *
  generalize (txT (p8 z5)).2.2 = c9 at *
  exact refTake_walk o b z0 z4 z5 _ _ _ _ c0 c6 c7 c8 c9 D o.may w ⟨H0⟩ ⟨HS⟩ ⟨q6⟩ ⟨q7⟩ ⟨q8⟩ ⟨q9⟩ ⟨HM⟩ ⟨h5⟩ _ ⟨rfl⟩ V ⟨hV0⟩ ⟨hV1⟩
theorem rawV_mk (b : ByteArray) : mkO (rawV b) (y5 b) = rawV b := by
  simp only [mkO, rawV, p6, p7, p8, y6, y7, y8]
theorem rawB_tail (b : ByteArray) : rawB b = tailB ((tiT b).2.2 != 0 || ((((tsT (y1 b)).2.2.2 != 0 || (tsT (y2 b)).2.2.2 != 0) || (tsT (y3 b)).2.2.2 != 0) || (tsT (y4 b)).2.2.2 != 0)) (y5 b) := by
  unfold rawB tailB
  simp only [p6, p7, p8, y6, y7, y8, Bool.false_or, Bool.or_assoc]
theorem rawB_bad (b : ByteArray) (h : ((((tsT (y1 b)).2.2.2 != 0 || (tsT (y2 b)).2.2.2 != 0) || (tsT (y3 b)).2.2.2 != 0) || (tsT (y4 b)).2.2.2 != 0) = true) : rawB b = true := by
  rw [rawB_tail, h]
  unfold tailB
  simp
set_option maxHeartbeats 1000000 in
/-- The document's Take of an operation answers as the code's. -/
theorem ref_Take (b : ByteArray) (hb : b.size ≤ 140737488355328) (w : World) : Calls Try.prog 32 #[.string b] w fun e w' => e = .returned (toV (takeO b)) ∧ Below w.heap.size w w' := by
  obtain ⟨l1, l2, l3, l4, l5, l6, l7, l8, l9⟩ := y_sizes b
  have q1 : ∀ w, Calls Try.prog 57 #[.string b] w fun e w' => e = .returned (.tuple #[.int .i64 (rawV b).k, .string (y1 b), .int .i64 (tiT b).2.2]) ∧ Below w.heap.size w w' := by
    intro w
    have h := ref_takeI b hb w
    simpa only [rawV, y1] using h
  have q2 : ∀ w, Calls Try.prog 74 #[.string (y1 b)] w fun e w' => e = .returned (.tuple #[.agg #[.int .i64 (rawV b).t, .int .i64 (rawV b).r], .string (y2 b), .int .i64 (tsT (y1 b)).2.2.2]) ∧ Below w.heap.size w w' := by
    intro w
    have h := ref_takeS (y1 b) (Nat.le_trans l1 hb) w
    simpa only [rawV, y2] using h
  have q3 : ∀ w, Calls Try.prog 74 #[.string (y2 b)] w fun e w' => e = .returned (.tuple #[.agg #[.int .i64 (rawV b).a0, .int .i64 (rawV b).a1], .string (y3 b), .int .i64 (tsT (y2 b)).2.2.2]) ∧ Below w.heap.size w w' := by
    intro w
    have h := ref_takeS (y2 b) (Nat.le_trans l2 hb) w
    simpa only [rawV, y3] using h
  have q4 : ∀ w, Calls Try.prog 74 #[.string (y3 b)] w fun e w' => e = .returned (.tuple #[.agg #[.int .i64 (rawV b).i0, .int .i64 (rawV b).i1], .string (y4 b), .int .i64 (tsT (y3 b)).2.2.2]) ∧ Below w.heap.size w w' := by
    intro w
    have h := ref_takeS (y3 b) (Nat.le_trans l3 hb) w
    simpa only [rawV, y4] using h
  have q5 : ∀ w, Calls Try.prog 74 #[.string (y4 b)] w fun e w' => e = .returned (.tuple #[.agg #[.int .i64 (rawV b).t0, .int .i64 (rawV b).t1], .string (y5 b), .int .i64 (tsT (y4 b)).2.2.2]) ∧ Below w.heap.size w w' := by
    intro w
    have h := ref_takeS (y4 b) (Nat.le_trans l4 hb) w
    simpa only [rawV, y5] using h
  have hbad := rawB_bad b
  have hbt := rawB_tail b
  have hmk := rawV_mk b
  have he9 : p9 (y5 b) = y9 b := by simp only [p6, p7, p8, p9, y6, y7, y8, y9]
  have HT : takeO b = if (rawB b || !(rawV b).may) = true then none else some (rawV b, y9 b) := rfl
  generalize (tiT b).2.2 = c0 at *
  generalize (tsT (y1 b)).2.2.2 = c1 at *
  generalize (tsT (y2 b)).2.2.2 = c2 at *
  generalize (tsT (y3 b)).2.2.2 = c3 at *
  generalize (tsT (y4 b)).2.2.2 = c4 at *
  generalize rawV b = v at *
  generalize rawB b = B at *
  generalize y9 b = z9 at *
  generalize y5 b = z4 at *
  generalize y4 b = z3 at *
  generalize y3 b = z2 at *
  generalize y2 b = z1 at *
  generalize y1 b = z0 at *
  obtain ⟨D, hD⟩ : ∃ D, D = (((c1 != 0 || c2 != 0) || c3 != 0) || c4 != 0) := ⟨_, rfl⟩
  have HST : ∀ w, Calls Try.prog 58 #[.string z0, .int .i64 4] w fun e w' => StRes w z4 D [(v.t, v.r), (v.a0, v.a1), (v.i0, v.i1), (v.t0, v.t1)] e w' :=
    fun w => refstamps_walk _ _ _ _ _ _ _ _ _ _ _ _ _ _ _ _ _ w ⟨q2⟩ ⟨q3⟩ ⟨q4⟩ ⟨q5⟩ D ⟨hD⟩
  rw [← hD] at hbad hbt
  rw [HT]
  clear HT hD q2 q3 q4 q5
  cases D with
  | true =>
    have hB := hbad rfl
    subst hB
    exact refTake_mid v b z0 z4 ⟨#[]⟩ c0 true (by decide) rfl q1 HST _ (fun _ => rfl) (fun h => by
      have := (Bool.or_eq_false_iff.1 h).1
      unfold tailB at this
      simp at this) w
  | false =>
    refine refTake_mid v b z0 z4 z4 c0 false (Nat.le_trans l5 hb) rfl q1 HST _ (fun h => ?_) (fun h => ?_) w
    · rw [← hbt, hmk] at h
      rw [if_pos h]; rfl
    · rw [← hbt, hmk] at h
      rw [if_neg (by rw [h]; decide), hmk, he9]; rfl
end Go.Proofs.Ytcekecpbjmfbhaa

/- The law OpTells: whatever comes in, each answer about an operation is the document's. -/
namespace Go.Proofs.Ytcekecpbjmfbhaa.opTells
open Go.RowKit Go.Proofs.YtcekecpbjmfbhaaW.PrintWords Go.Proofs.YtcekecpbjmfbhaaW.PrintLast Go.Proofs.YtcekecpbjmfbhaaW.PrintMore Pk
set_option linter.unusedVariables false
set_option linter.unusedSimpArgs false

theorem eqSelf (d : Nat) (w : World) (o : OpV) : (Op.equalIn (d + 3) 50 (.agg #[.int .i64 o.t, .int .i64 o.r, .int .i64 o.k, .int .i64 o.a0, .int .i64 o.a1, .int .i64 o.i0, .int .i64 o.i1, .int .i64 o.t0, .int .i64 o.t1, .string o.nm, .string o.nw, .int .i64 o.off, .string o.dt]) (.agg #[.int .i64 o.t, .int .i64 o.r, .int .i64 o.k, .int .i64 o.a0, .int .i64 o.a1, .int .i64 o.i0, .int .i64 o.i1, .int .i64 o.t0, .int .i64 o.t1, .string o.nm, .string o.nw, .int .i64 o.off, .string o.dt])).run Try.prog w = .ok true w := by
  rw [eqOpG, (eqO_iff o o).2 rfl]
attribute [local go_sem high] eqSelf
theorem size_opT : (Try.prog.info? 50).map (·.size) = some 13 := by kernel_rfl
set_option maxHeartbeats 4000000 in
set_option maxRecDepth 100000 in
/-- What is long is let go. -/
theorem tells_idle (o : OpV) (s : ByteArray) (h : 2000 < s.size ∨ 2000 < o.nm.size ∨ 2000 < o.nw.size ∨ 2000 < o.dt.size) (w : World) :
    Calls Try.prog 13 #[.agg #[.int .i64 o.t, .int .i64 o.r, .int .i64 o.k, .int .i64 o.a0, .int .i64 o.a1, .int .i64 o.i0, .int .i64 o.i1, .int .i64 o.t0, .int .i64 o.t1, .string o.nm, .string o.nw, .int .i64 o.off, .string o.dt], .string s] w fun e w' => e = .returned (.bool true) ∧ Below w.heap.size w w' := by
  have HS := Hd.mk op_shown
  have K0 := Hd.mk (Holds.start1 w (.cells #[.int .i64 o.t, .int .i64 o.r, .int .i64 o.k, .int .i64 o.a0, .int .i64 o.a1, .int .i64 o.i0, .int .i64 o.i1, .int .i64 o.t0, .int .i64 o.t1, .string o.nm, .string o.nw, .int .i64 o.off, .string o.dt] 50 (0, 0)))
  obtain ⟨ns, hns⟩ : ∃ n : Int, n = (s.size : Int) := ⟨_, rfl⟩
  by_cases h0 : 2000 < s.size
  · have d0 : (2000 : Int) < (s.size : Int) := by omega
    have e0 : decide ((2000 : Int) < (s.size : Int)) = true := decide_eq_true d0
    clear h h0 hns ns
    go_enter Try.func13, Try.ntmps13
    go_wp2_with fail
    refine world_gen_calls _ K0.out (fun W hK => ?_)
    have K0 := Hd.mk hK
    clear hK
    refine (HS.out _).mono ?_; rintro e w1 ⟨rfl, hb1⟩
    have K1 := Hd.mk (K0.out.call hb1)
    clear hb1 K0
    have g0 := cell_of_row w1 _ 0 _ _ _ (K1.out.get 0 rfl)
    have g1 := cell_of_row w1 _ 1 _ _ _ (K1.out.get 0 rfl)
    have g2 := cell_of_row w1 _ 2 _ _ _ (K1.out.get 0 rfl)
    have g3 := cell_of_row w1 _ 3 _ _ _ (K1.out.get 0 rfl)
    have g4 := cell_of_row w1 _ 4 _ _ _ (K1.out.get 0 rfl)
    have g5 := cell_of_row w1 _ 5 _ _ _ (K1.out.get 0 rfl)
    have g6 := cell_of_row w1 _ 6 _ _ _ (K1.out.get 0 rfl)
    have g7 := cell_of_row w1 _ 7 _ _ _ (K1.out.get 0 rfl)
    have g8 := cell_of_row w1 _ 8 _ _ _ (K1.out.get 0 rfl)
    have g9 := cell_of_row w1 _ 9 _ _ _ (K1.out.get 0 rfl)
    have g10 := cell_of_row w1 _ 10 _ _ _ (K1.out.get 0 rfl)
    have g11 := cell_of_row w1 _ 11 _ _ _ (K1.out.get 0 rfl)
    have g12 := cell_of_row w1 _ 12 _ _ _ (K1.out.get 0 rfl)
    go_wp2_with fail
    go_ret
    exact ⟨rfl, K1.out.2⟩
  · have d0 : ¬ (2000 : Int) < (s.size : Int) := by omega
    have e0 : decide ((2000 : Int) < (s.size : Int)) = false := decide_eq_false d0
    by_cases h1 : 2000 < o.nm.size
    · have d1 : (2000 : Int) < (o.nm.size : Int) := by omega
      have e1 : decide ((2000 : Int) < (o.nm.size : Int)) = true := decide_eq_true d1
      clear h h0 h1 hns ns
      go_enter Try.func13, Try.ntmps13
      go_wp2_with fail
      refine world_gen_calls _ K0.out (fun W hK => ?_)
      have K0 := Hd.mk hK
      clear hK
      refine (HS.out _).mono ?_; rintro e w1 ⟨rfl, hb1⟩
      have K1 := Hd.mk (K0.out.call hb1)
      clear hb1 K0
      have g0 := cell_of_row w1 _ 0 _ _ _ (K1.out.get 0 rfl)
      have g1 := cell_of_row w1 _ 1 _ _ _ (K1.out.get 0 rfl)
      have g2 := cell_of_row w1 _ 2 _ _ _ (K1.out.get 0 rfl)
      have g3 := cell_of_row w1 _ 3 _ _ _ (K1.out.get 0 rfl)
      have g4 := cell_of_row w1 _ 4 _ _ _ (K1.out.get 0 rfl)
      have g5 := cell_of_row w1 _ 5 _ _ _ (K1.out.get 0 rfl)
      have g6 := cell_of_row w1 _ 6 _ _ _ (K1.out.get 0 rfl)
      have g7 := cell_of_row w1 _ 7 _ _ _ (K1.out.get 0 rfl)
      have g8 := cell_of_row w1 _ 8 _ _ _ (K1.out.get 0 rfl)
      have g9 := cell_of_row w1 _ 9 _ _ _ (K1.out.get 0 rfl)
      have g10 := cell_of_row w1 _ 10 _ _ _ (K1.out.get 0 rfl)
      have g11 := cell_of_row w1 _ 11 _ _ _ (K1.out.get 0 rfl)
      have g12 := cell_of_row w1 _ 12 _ _ _ (K1.out.get 0 rfl)
      go_wp2_with fail
      go_ret
      exact ⟨rfl, K1.out.2⟩
    · have d1 : ¬ (2000 : Int) < (o.nm.size : Int) := by omega
      have e1 : decide ((2000 : Int) < (o.nm.size : Int)) = false := decide_eq_false d1
      by_cases h2 : 2000 < o.nw.size
      · have d2 : (2000 : Int) < (o.nw.size : Int) := by omega
        have e2 : decide ((2000 : Int) < (o.nw.size : Int)) = true := decide_eq_true d2
        clear h h0 h1 h2 hns ns
        go_enter Try.func13, Try.ntmps13
        go_wp2_with fail
        refine world_gen_calls _ K0.out (fun W hK => ?_)
        have K0 := Hd.mk hK
        clear hK
        refine (HS.out _).mono ?_; rintro e w1 ⟨rfl, hb1⟩
        have K1 := Hd.mk (K0.out.call hb1)
        clear hb1 K0
        have g0 := cell_of_row w1 _ 0 _ _ _ (K1.out.get 0 rfl)
        have g1 := cell_of_row w1 _ 1 _ _ _ (K1.out.get 0 rfl)
        have g2 := cell_of_row w1 _ 2 _ _ _ (K1.out.get 0 rfl)
        have g3 := cell_of_row w1 _ 3 _ _ _ (K1.out.get 0 rfl)
        have g4 := cell_of_row w1 _ 4 _ _ _ (K1.out.get 0 rfl)
        have g5 := cell_of_row w1 _ 5 _ _ _ (K1.out.get 0 rfl)
        have g6 := cell_of_row w1 _ 6 _ _ _ (K1.out.get 0 rfl)
        have g7 := cell_of_row w1 _ 7 _ _ _ (K1.out.get 0 rfl)
        have g8 := cell_of_row w1 _ 8 _ _ _ (K1.out.get 0 rfl)
        have g9 := cell_of_row w1 _ 9 _ _ _ (K1.out.get 0 rfl)
        have g10 := cell_of_row w1 _ 10 _ _ _ (K1.out.get 0 rfl)
        have g11 := cell_of_row w1 _ 11 _ _ _ (K1.out.get 0 rfl)
        have g12 := cell_of_row w1 _ 12 _ _ _ (K1.out.get 0 rfl)
        go_wp2_with fail
        go_ret
        exact ⟨rfl, K1.out.2⟩
      · have d2 : ¬ (2000 : Int) < (o.nw.size : Int) := by omega
        have e2 : decide ((2000 : Int) < (o.nw.size : Int)) = false := decide_eq_false d2
        have d3 : (2000 : Int) < (o.dt.size : Int) := by omega
        have e3 : decide ((2000 : Int) < (o.dt.size : Int)) = true := decide_eq_true d3
        clear h h0 h1 h2 hns ns
        go_enter Try.func13, Try.ntmps13
        go_wp2_with fail
        refine world_gen_calls _ K0.out (fun W hK => ?_)
        have K0 := Hd.mk hK
        clear hK
        refine (HS.out _).mono ?_; rintro e w1 ⟨rfl, hb1⟩
        have K1 := Hd.mk (K0.out.call hb1)
        clear hb1 K0
        have g0 := cell_of_row w1 _ 0 _ _ _ (K1.out.get 0 rfl)
        have g1 := cell_of_row w1 _ 1 _ _ _ (K1.out.get 0 rfl)
        have g2 := cell_of_row w1 _ 2 _ _ _ (K1.out.get 0 rfl)
        have g3 := cell_of_row w1 _ 3 _ _ _ (K1.out.get 0 rfl)
        have g4 := cell_of_row w1 _ 4 _ _ _ (K1.out.get 0 rfl)
        have g5 := cell_of_row w1 _ 5 _ _ _ (K1.out.get 0 rfl)
        have g6 := cell_of_row w1 _ 6 _ _ _ (K1.out.get 0 rfl)
        have g7 := cell_of_row w1 _ 7 _ _ _ (K1.out.get 0 rfl)
        have g8 := cell_of_row w1 _ 8 _ _ _ (K1.out.get 0 rfl)
        have g9 := cell_of_row w1 _ 9 _ _ _ (K1.out.get 0 rfl)
        have g10 := cell_of_row w1 _ 10 _ _ _ (K1.out.get 0 rfl)
        have g11 := cell_of_row w1 _ 11 _ _ _ (K1.out.get 0 rfl)
        have g12 := cell_of_row w1 _ 12 _ _ _ (K1.out.get 0 rfl)
        go_wp2_with fail
        go_ret
        exact ⟨rfl, K1.out.2⟩
set_option maxHeartbeats 8000000 in
set_option maxRecDepth 100000 in
theorem tells_walk (o x : OpV) (s p q : ByteArray) (c : Int) (nB mB : Bool) (mk : Int) (U : List (Int × Int)) (hU : U.length ≤ 1000000) (hs : s.size ≤ 2000) (h1 : o.nm.size ≤ 2000) (h2 : o.nw.size ≤ 2000) (h3 : o.dt.size ≤ 2000) (w : World)
    (HT1 : Hd (∀ w, Calls Try.prog 31 #[.string s] w fun e w' => e = .returned (.tuple #[.agg #[.int .i64 x.t, .int .i64 x.r, .int .i64 x.k, .int .i64 x.a0, .int .i64 x.a1, .int .i64 x.i0, .int .i64 x.i1, .int .i64 x.t0, .int .i64 x.t1, .string x.nm, .string x.nw, .int .i64 x.off, .string x.dt], .string q, .int .i64 c]) ∧ Below w.heap.size w w'))
    (HT2 : Hd (∀ w, Calls Try.prog 32 #[.string s] w fun e w' => e = .returned (.tuple #[.agg #[.int .i64 x.t, .int .i64 x.r, .int .i64 x.k, .int .i64 x.a0, .int .i64 x.a1, .int .i64 x.i0, .int .i64 x.i1, .int .i64 x.t0, .int .i64 x.t1, .string x.nm, .string x.nw, .int .i64 x.off, .string x.dt], .string q, .int .i64 c]) ∧ Below w.heap.size w w'))
    (HN1 : Hd (∀ w, Calls Try.prog 26 #[.string s] w fun e w' => e = .returned (.bool nB) ∧ Below w.heap.size w w'))
    (HN2 : Hd (∀ w, Calls Try.prog 33 #[.string s] w fun e w' => e = .returned (.bool nB) ∧ Below w.heap.size w w'))
    (HM1 : Hd (∀ w, Calls Try.prog 25 #[.agg #[.int .i64 o.t, .int .i64 o.r, .int .i64 o.k, .int .i64 o.a0, .int .i64 o.a1, .int .i64 o.i0, .int .i64 o.i1, .int .i64 o.t0, .int .i64 o.t1, .string o.nm, .string o.nw, .int .i64 o.off, .string o.dt]] w fun e w' => e = .returned (.bool mB) ∧ Below w.heap.size w w'))
    (HM2 : Hd (∀ w, Calls Try.prog 34 #[.agg #[.int .i64 o.t, .int .i64 o.r, .int .i64 o.k, .int .i64 o.a0, .int .i64 o.a1, .int .i64 o.i0, .int .i64 o.i1, .int .i64 o.t0, .int .i64 o.t1, .string o.nm, .string o.nw, .int .i64 o.off, .string o.dt]] w fun e w' => e = .returned (.bool mB) ∧ Below w.heap.size w w'))
    (HP1 : Hd (∀ w, Calls Try.prog 29 #[.agg #[.int .i64 o.t, .int .i64 o.r, .int .i64 o.k, .int .i64 o.a0, .int .i64 o.a1, .int .i64 o.i0, .int .i64 o.i1, .int .i64 o.t0, .int .i64 o.t1, .string o.nm, .string o.nw, .int .i64 o.off, .string o.dt]] w fun e w' => e = .returned (.string p) ∧ Below w.heap.size w w'))
    (HP2 : Hd (∀ w, Calls Try.prog 35 #[.agg #[.int .i64 o.t, .int .i64 o.r, .int .i64 o.k, .int .i64 o.a0, .int .i64 o.a1, .int .i64 o.i0, .int .i64 o.i1, .int .i64 o.t0, .int .i64 o.t1, .string o.nm, .string o.nw, .int .i64 o.off, .string o.dt]] w fun e w' => e = .returned (.string p) ∧ Below w.heap.size w w'))
    (HK1 : Hd (∀ w, Calls Try.prog 28 #[.agg #[.int .i64 o.t, .int .i64 o.r, .int .i64 o.k, .int .i64 o.a0, .int .i64 o.a1, .int .i64 o.i0, .int .i64 o.i1, .int .i64 o.t0, .int .i64 o.t1, .string o.nm, .string o.nw, .int .i64 o.off, .string o.dt]] w fun e w' => e = .returned (.int .i64 mk) ∧ Below w.heap.size w w'))
    (HK2 : Hd (∀ w, Calls Try.prog 36 #[.agg #[.int .i64 o.t, .int .i64 o.r, .int .i64 o.k, .int .i64 o.a0, .int .i64 o.a1, .int .i64 o.i0, .int .i64 o.i1, .int .i64 o.t0, .int .i64 o.t1, .string o.nm, .string o.nw, .int .i64 o.off, .string o.dt]] w fun e w' => e = .returned (.int .i64 mk) ∧ Below w.heap.size w w'))
    (HU1 : Hd (∀ w, Calls Try.prog 27 #[.agg #[.int .i64 o.t, .int .i64 o.r, .int .i64 o.k, .int .i64 o.a0, .int .i64 o.a1, .int .i64 o.i0, .int .i64 o.i1, .int .i64 o.t0, .int .i64 o.t1, .string o.nm, .string o.nw, .int .i64 o.off, .string o.dt]] w fun e w' => ∃ v, e = .returned v ∧ stE.Own w.heap.size w' v U ∧ Below w.heap.size w w'))
    (HU2 : Hd (∀ w, Calls Try.prog 37 #[.agg #[.int .i64 o.t, .int .i64 o.r, .int .i64 o.k, .int .i64 o.a0, .int .i64 o.a1, .int .i64 o.i0, .int .i64 o.i1, .int .i64 o.t0, .int .i64 o.t1, .string o.nm, .string o.nw, .int .i64 o.off, .string o.dt]] w fun e w' => ∃ v, e = .returned v ∧ stE.Own w.heap.size w' v U ∧ Below w.heap.size w w')) :
    Calls Try.prog 13 #[.agg #[.int .i64 o.t, .int .i64 o.r, .int .i64 o.k, .int .i64 o.a0, .int .i64 o.a1, .int .i64 o.i0, .int .i64 o.i1, .int .i64 o.t0, .int .i64 o.t1, .string o.nm, .string o.nw, .int .i64 o.off, .string o.dt], .string s] w fun e w' => e = .returned (.bool true) ∧ Below w.heap.size w w' := by
  have HS := Hd.mk op_shown
  have HST : Hd (∀ (v1 v2 : Value) (w : World), (∃ c, stE.Own c w v1 U) → (∃ c, stE.Own c w v2 U) → Calls Try.prog 30 #[v1, v2] w fun e w' => e = .returned (.bool true) ∧ Below w.heap.size w w') := ⟨fun v1 v2 w ⟨_, g1⟩ ⟨_, g2⟩ => ref_Stamps_same g1 g2 hU⟩
  have K0 := Hd.mk (Holds.start1 w (.cells #[.int .i64 o.t, .int .i64 o.r, .int .i64 o.k, .int .i64 o.a0, .int .i64 o.a1, .int .i64 o.i0, .int .i64 o.i1, .int .i64 o.t0, .int .i64 o.t1, .string o.nm, .string o.nw, .int .i64 o.off, .string o.dt] 50 (0, 0)))
  have d0 : ¬ (2000 : Int) < (s.size : Int) := by omega
  have e0 : decide ((2000 : Int) < (s.size : Int)) = false := decide_eq_false d0
  have d1 : ¬ (2000 : Int) < (o.nm.size : Int) := by omega
  have e1 : decide ((2000 : Int) < (o.nm.size : Int)) = false := decide_eq_false d1
  have d2 : ¬ (2000 : Int) < (o.nw.size : Int) := by omega
  have e2 : decide ((2000 : Int) < (o.nw.size : Int)) = false := decide_eq_false d2
  have d3 : ¬ (2000 : Int) < (o.dt.size : Int) := by omega
  have e3 : decide ((2000 : Int) < (o.dt.size : Int)) = false := decide_eq_false d3
  clear h1 h2 h3 hs hU
  go_enter Try.func13, Try.ntmps13
  go_wp2_with fail
  refine world_gen_calls _ K0.out (fun W hK => ?_)
  have K0 := Hd.mk hK
  clear hK
  refine (HS.out _).mono ?_; rintro e w1 ⟨rfl, hb1⟩
  have K1 := Hd.mk (K0.out.call hb1)
  clear hb1 K0 HS
  have g0 := cell_of_row w1 _ 0 _ _ _ (K1.out.get 0 rfl)
  have g1 := cell_of_row w1 _ 1 _ _ _ (K1.out.get 0 rfl)
  have g2 := cell_of_row w1 _ 2 _ _ _ (K1.out.get 0 rfl)
  have g3 := cell_of_row w1 _ 3 _ _ _ (K1.out.get 0 rfl)
  have g4 := cell_of_row w1 _ 4 _ _ _ (K1.out.get 0 rfl)
  have g5 := cell_of_row w1 _ 5 _ _ _ (K1.out.get 0 rfl)
  have g6 := cell_of_row w1 _ 6 _ _ _ (K1.out.get 0 rfl)
  have g7 := cell_of_row w1 _ 7 _ _ _ (K1.out.get 0 rfl)
  have g8 := cell_of_row w1 _ 8 _ _ _ (K1.out.get 0 rfl)
  have g9 := cell_of_row w1 _ 9 _ _ _ (K1.out.get 0 rfl)
  have g10 := cell_of_row w1 _ 10 _ _ _ (K1.out.get 0 rfl)
  have g11 := cell_of_row w1 _ 11 _ _ _ (K1.out.get 0 rfl)
  have g12 := cell_of_row w1 _ 12 _ _ _ (K1.out.get 0 rfl)
  go_wp2_with fail
  clear d0 d1 d2 d3 e0 e1 e2 e3
  refine (HT1.out _).mono ?_; rintro e w3 ⟨rfl, hb3⟩
  have K3 := Hd.mk (K1.out.call hb3)
  clear hb3 K1 HT1
  clear g0 g1 g2 g3 g4 g5 g6 g7 g8 g9 g10 g11 g12
  go_upto_region 5 with (fail)
  refine world_gen (fun W_ => Holds w [(w3.heap.size, .cells #[.int .i64 x.t, .int .i64 x.r, .int .i64 x.k, .int .i64 x.a0, .int .i64 x.a1, .int .i64 x.i0, .int .i64 x.i1, .int .i64 x.t0, .int .i64 x.t1, .string x.nm, .string x.nw, .int .i64 x.off, .string x.dt] 50 (0, 0)), (w.heap.size, .cells #[.int .i64 o.t, .int .i64 o.r, .int .i64 o.k, .int .i64 o.a0, .int .i64 o.a1, .int .i64 o.i0, .int .i64 o.i1, .int .i64 o.t0, .int .i64 o.t1, .string o.nm, .string o.nw, .int .i64 o.off, .string o.dt] 50 (0, 0))] W_) (K3.out.alloc _) (fun W3 hK => ?_)
  have K4 := Hd.mk hK
  clear hK K3
  generalize w3.heap.size = bx at *
  go_wp2_with fail
  refine (HT2.out _).mono ?_; rintro e w4 ⟨rfl, hb4⟩
  have K5 := Hd.mk (K4.out.call hb4)
  clear hb4 K4 HT2
  go_upto_region 6 with (fail)
  refine world_gen (fun W_ => Holds w [(w4.heap.size, .cells #[.int .i64 x.t, .int .i64 x.r, .int .i64 x.k, .int .i64 x.a0, .int .i64 x.a1, .int .i64 x.i0, .int .i64 x.i1, .int .i64 x.t0, .int .i64 x.t1, .string x.nm, .string x.nw, .int .i64 x.off, .string x.dt] 50 (0, 0)), (bx, .cells #[.int .i64 x.t, .int .i64 x.r, .int .i64 x.k, .int .i64 x.a0, .int .i64 x.a1, .int .i64 x.i0, .int .i64 x.i1, .int .i64 x.t0, .int .i64 x.t1, .string x.nm, .string x.nw, .int .i64 x.off, .string x.dt] 50 (0, 0)), (w.heap.size, .cells #[.int .i64 o.t, .int .i64 o.r, .int .i64 o.k, .int .i64 o.a0, .int .i64 o.a1, .int .i64 o.i0, .int .i64 o.i1, .int .i64 o.t0, .int .i64 o.t1, .string o.nm, .string o.nw, .int .i64 o.off, .string o.dt] 50 (0, 0))] W_) (K5.out.alloc _) (fun W5 hK => ?_)
  have K6 := Hd.mk hK
  clear hK K5
  generalize w4.heap.size = bY at *
  refine start_ (n := 27) (S := fun W_ => Holds w [(bY, .cells #[.int .i64 x.t, .int .i64 x.r, .int .i64 x.k, .int .i64 x.a0, .int .i64 x.a1, .int .i64 x.i0, .int .i64 x.i1, .int .i64 x.t0, .int .i64 x.t1, .string x.nm, .string x.nw, .int .i64 x.off, .string x.dt] 50 (0, 0)), (bx, .cells #[.int .i64 x.t, .int .i64 x.r, .int .i64 x.k, .int .i64 x.a0, .int .i64 x.a1, .int .i64 x.i0, .int .i64 x.i1, .int .i64 x.t0, .int .i64 x.t1, .string x.nm, .string x.nw, .int .i64 x.off, .string x.dt] 50 (0, 0)), (w.heap.size, .cells #[.int .i64 o.t, .int .i64 o.r, .int .i64 o.k, .int .i64 o.a0, .int .i64 o.a1, .int .i64 o.i0, .int .i64 o.i1, .int .i64 o.t0, .int .i64 o.t1, .string o.nm, .string o.nw, .int .i64 o.off, .string o.dt] 50 (0, 0))] W_) (ds := []) #[false, false, false, false, false, false, false, false, false, false, false, false, false, false, false, false, false, false, false, false, false, false, false, false, false, false, false] (by kernel_rfl) rfl rfl (K6.out.drew) (fun hHeld => ?_)
  refine pure_ (i := 0) (N := some 48) (v := ?_) (a' := ?_) #[true, false, false, false, false, false, false, false, false, false, false, false, false, false, false, false, false, false, false, false, false, false, false, false, false, false, false] rfl rfl (by kernel_rfl) (fun _ _ _ h => h) (Or.inl ⟨by rfl, ?_⟩) ?_ ?_
  rotate_left
  · intro w_
    go_simp
    try with_reducible rfl
  rotate_left
  · simp only [Act.put, List.setIfInBounds_toArray, List.set_cons_zero, List.set_cons_succ]
    rfl
  refine pure_ (i := 2) (N := some 50) (v := ?_) (a' := ?_) #[true, false, true, false, false, false, false, false, false, false, false, false, false, false, false, false, false, false, false, false, false, false, false, false, false, false, false] rfl rfl (by kernel_rfl) (fun _ _ _ h => h) (Or.inl ⟨by rfl, ?_⟩) ?_ ?_
  rotate_left
  · intro w_
    go_simp
    try with_reducible rfl
  rotate_left
  · simp only [Act.put, List.setIfInBounds_toArray, List.set_cons_zero, List.set_cons_succ]
    rfl
  refine one_ (i := 1) (N := some 49) #[true, true, true, false, false, false, false, false, false, false, false, false, false, false, false, false, false, false, false, false, false, false, false, false, false, false, false] rfl rfl (by kernel_rfl) (by decide) (fun K hK => ?_)
  refine goes_ Try.func26 (by kernel_rfl) rfl #[.string s] (by rfl) rfl rfl (by (try simp only [List.map_toArray, List.map_cons, List.map_nil]); first | done | rfl) ?_
  (with_reducible refine (HN1.out _).mono ?_)
  rintro e wr1 ⟨rfl, hr1⟩
  refine ⟨_, rfl, ?_⟩
  refine hK.out _ _ (hHeld.call hr1) (fun hHeld => ?_)
  clear hK K
  refine norm_ (a' := ?_) ?_ ?_
  rotate_left
  · show Act.put _ (some 49) _ = _
    simp only [Act.put, List.setIfInBounds_toArray, List.set_cons_zero, List.set_cons_succ]
    rfl
  refine one_ (i := 3) (N := some 51) #[true, true, true, true, false, false, false, false, false, false, false, false, false, false, false, false, false, false, false, false, false, false, false, false, false, false, false] rfl rfl (by kernel_rfl) (by decide) (fun K hK => ?_)
  refine goes_ Try.func33 (by kernel_rfl) rfl #[.string s] (by rfl) rfl rfl (by (try simp only [List.map_toArray, List.map_cons, List.map_nil]); first | done | rfl) ?_
  (with_reducible refine (HN2.out _).mono ?_)
  rintro e wr2 ⟨rfl, hr2⟩
  refine ⟨_, rfl, ?_⟩
  refine hK.out _ _ (hHeld.call hr2) (fun hHeld => ?_)
  clear hK K
  refine norm_ (a' := ?_) ?_ ?_
  rotate_left
  · show Act.put _ (some 51) _ = _
    simp only [Act.put, List.setIfInBounds_toArray, List.set_cons_zero, List.set_cons_succ]
    rfl
  refine pure_ (i := 4) (N := some 52) (v := ?_) (a' := ?_) #[true, true, true, true, true, false, false, false, false, false, false, false, false, false, false, false, false, false, false, false, false, false, false, false, false, false, false] rfl rfl (by kernel_rfl) (fun _ _ _ h => h) (Or.inl ⟨by rfl, ?_⟩) ?_ ?_
  rotate_left
  · intro w_
    go_simp
    try with_reducible rfl
  rotate_left
  · simp only [Act.put, List.setIfInBounds_toArray, List.set_cons_zero, List.set_cons_succ]
    rfl
  refine pure_ (i := 5) (N := some 53) (v := ?_) (a' := ?_) #[true, true, true, true, true, true, false, false, false, false, false, false, false, false, false, false, false, false, false, false, false, false, false, false, false, false, false] rfl rfl (by kernel_rfl) (fun _ _ _ h => h) (Or.inl ⟨by rfl, ?_⟩) ?_ ?_
  rotate_left
  · intro w_
    go_simp
    try with_reducible rfl
  rotate_left
  · simp only [Act.put, List.setIfInBounds_toArray, List.set_cons_zero, List.set_cons_succ]
    rfl
  refine take_ (i := 6) (N := some 54) (v := .agg #[.int .i64 o.t, .int .i64 o.r, .int .i64 o.k, .int .i64 o.a0, .int .i64 o.a1, .int .i64 o.i0, .int .i64 o.i1, .int .i64 o.t0, .int .i64 o.t1, .string o.nm, .string o.nw, .int .i64 o.off, .string o.dt]) (a' := ?_) #[true, true, true, true, true, true, true, false, false, false, false, false, false, false, false, false, false, false, false, false, false, false, false, false, false, false, false] rfl rfl (by kernel_rfl) (fun _ _ _ h => h) (Or.inl ⟨by rfl, fun w' h => run_load_mid 50 _ rfl w.heap.size 0 #[.int .i64 o.t, .int .i64 o.r, .int .i64 o.k, .int .i64 o.a0, .int .i64 o.a1, .int .i64 o.i0, .int .i64 o.i1, .int .i64 o.t0, .int .i64 o.t1, .string o.nm, .string o.nw, .int .i64 o.off, .string o.dt].toList rfl _ _ _ (h.get 2 rfl) (fun j v hj => by simpa using hj) _ Try.underlying50 rfl size_op13⟩) hHeld ?_ ?_
  rotate_left
  · simp only [Act.put, List.setIfInBounds_toArray, List.set_cons_zero, List.set_cons_succ]
    rfl
  refine take_ (i := 8) (N := some 56) (v := .agg #[.int .i64 o.t, .int .i64 o.r, .int .i64 o.k, .int .i64 o.a0, .int .i64 o.a1, .int .i64 o.i0, .int .i64 o.i1, .int .i64 o.t0, .int .i64 o.t1, .string o.nm, .string o.nw, .int .i64 o.off, .string o.dt]) (a' := ?_) #[true, true, true, true, true, true, true, false, true, false, false, false, false, false, false, false, false, false, false, false, false, false, false, false, false, false, false] rfl rfl (by kernel_rfl) (fun _ _ _ h => h) (Or.inl ⟨by rfl, fun w' h => run_load_mid 50 _ rfl w.heap.size 0 #[.int .i64 o.t, .int .i64 o.r, .int .i64 o.k, .int .i64 o.a0, .int .i64 o.a1, .int .i64 o.i0, .int .i64 o.i1, .int .i64 o.t0, .int .i64 o.t1, .string o.nm, .string o.nw, .int .i64 o.off, .string o.dt].toList rfl _ _ _ (h.get 2 rfl) (fun j v hj => by simpa using hj) _ Try.underlying50 rfl size_op13⟩) hHeld ?_ ?_
  rotate_left
  · simp only [Act.put, List.setIfInBounds_toArray, List.set_cons_zero, List.set_cons_succ]
    rfl
  refine one_ (i := 7) (N := some 55) #[true, true, true, true, true, true, true, true, true, false, false, false, false, false, false, false, false, false, false, false, false, false, false, false, false, false, false] rfl rfl (by kernel_rfl) (by decide) (fun K hK => ?_)
  refine goes_ Try.func25 (by kernel_rfl) rfl #[.agg #[.int .i64 o.t, .int .i64 o.r, .int .i64 o.k, .int .i64 o.a0, .int .i64 o.a1, .int .i64 o.i0, .int .i64 o.i1, .int .i64 o.t0, .int .i64 o.t1, .string o.nm, .string o.nw, .int .i64 o.off, .string o.dt]] (by rfl) rfl rfl (by (try simp only [List.map_toArray, List.map_cons, List.map_nil]); first | done | rfl) ?_
  (with_reducible refine (HM1.out _).mono ?_)
  rintro e wr3 ⟨rfl, hr3⟩
  refine ⟨_, rfl, ?_⟩
  refine hK.out _ _ (hHeld.call hr3) (fun hHeld => ?_)
  clear hK K
  refine norm_ (a' := ?_) ?_ ?_
  rotate_left
  · show Act.put _ (some 55) _ = _
    simp only [Act.put, List.setIfInBounds_toArray, List.set_cons_zero, List.set_cons_succ]
    rfl
  refine one_ (i := 9) (N := some 57) #[true, true, true, true, true, true, true, true, true, true, false, false, false, false, false, false, false, false, false, false, false, false, false, false, false, false, false] rfl rfl (by kernel_rfl) (by decide) (fun K hK => ?_)
  refine goes_ Try.func34 (by kernel_rfl) rfl #[.agg #[.int .i64 o.t, .int .i64 o.r, .int .i64 o.k, .int .i64 o.a0, .int .i64 o.a1, .int .i64 o.i0, .int .i64 o.i1, .int .i64 o.t0, .int .i64 o.t1, .string o.nm, .string o.nw, .int .i64 o.off, .string o.dt]] (by rfl) rfl rfl (by (try simp only [List.map_toArray, List.map_cons, List.map_nil]); first | done | rfl) ?_
  (with_reducible refine (HM2.out _).mono ?_)
  rintro e wr4 ⟨rfl, hr4⟩
  refine ⟨_, rfl, ?_⟩
  refine hK.out _ _ (hHeld.call hr4) (fun hHeld => ?_)
  clear hK K
  refine norm_ (a' := ?_) ?_ ?_
  rotate_left
  · show Act.put _ (some 57) _ = _
    simp only [Act.put, List.setIfInBounds_toArray, List.set_cons_zero, List.set_cons_succ]
    rfl
  refine pure_ (i := 10) (N := some 58) (v := ?_) (a' := ?_) #[true, true, true, true, true, true, true, true, true, true, true, false, false, false, false, false, false, false, false, false, false, false, false, false, false, false, false] rfl rfl (by kernel_rfl) (fun _ _ _ h => h) (Or.inl ⟨by rfl, ?_⟩) ?_ ?_
  rotate_left
  · intro w_
    go_simp
    try with_reducible rfl
  rotate_left
  · simp only [Act.put, List.setIfInBounds_toArray, List.set_cons_zero, List.set_cons_succ]
    rfl
  refine pure_ (i := 11) (N := some 59) (v := ?_) (a' := ?_) #[true, true, true, true, true, true, true, true, true, true, true, true, false, false, false, false, false, false, false, false, false, false, false, false, false, false, false] rfl rfl (by kernel_rfl) (fun _ _ _ h => h) (Or.inl ⟨by rfl, ?_⟩) ?_ ?_
  rotate_left
  · intro w_
    go_simp
    try with_reducible rfl
  rotate_left
  · simp only [Act.put, List.setIfInBounds_toArray, List.set_cons_zero, List.set_cons_succ]
    rfl
  refine pure_ (i := 12) (N := some 60) (v := ?_) (a' := ?_) #[true, true, true, true, true, true, true, true, true, true, true, true, true, false, false, false, false, false, false, false, false, false, false, false, false, false, false] rfl rfl (by kernel_rfl) (fun _ _ _ h => h) (Or.inl ⟨by rfl, ?_⟩) ?_ ?_
  rotate_left
  · intro w_
    go_simp
    try with_reducible rfl
  rotate_left
  · simp only [Act.put, List.setIfInBounds_toArray, List.set_cons_zero, List.set_cons_succ]
    rfl
  refine take_ (i := 13) (N := some 61) (v := .agg #[.int .i64 o.t, .int .i64 o.r, .int .i64 o.k, .int .i64 o.a0, .int .i64 o.a1, .int .i64 o.i0, .int .i64 o.i1, .int .i64 o.t0, .int .i64 o.t1, .string o.nm, .string o.nw, .int .i64 o.off, .string o.dt]) (a' := ?_) #[true, true, true, true, true, true, true, true, true, true, true, true, true, true, false, false, false, false, false, false, false, false, false, false, false, false, false] rfl rfl (by kernel_rfl) (fun _ _ _ h => h) (Or.inl ⟨by rfl, fun w' h => run_load_mid 50 _ rfl w.heap.size 0 #[.int .i64 o.t, .int .i64 o.r, .int .i64 o.k, .int .i64 o.a0, .int .i64 o.a1, .int .i64 o.i0, .int .i64 o.i1, .int .i64 o.t0, .int .i64 o.t1, .string o.nm, .string o.nw, .int .i64 o.off, .string o.dt].toList rfl _ _ _ (h.get 2 rfl) (fun j v hj => by simpa using hj) _ Try.underlying50 rfl size_op13⟩) hHeld ?_ ?_
  rotate_left
  · simp only [Act.put, List.setIfInBounds_toArray, List.set_cons_zero, List.set_cons_succ]
    rfl
  refine take_ (i := 15) (N := some 63) (v := .agg #[.int .i64 o.t, .int .i64 o.r, .int .i64 o.k, .int .i64 o.a0, .int .i64 o.a1, .int .i64 o.i0, .int .i64 o.i1, .int .i64 o.t0, .int .i64 o.t1, .string o.nm, .string o.nw, .int .i64 o.off, .string o.dt]) (a' := ?_) #[true, true, true, true, true, true, true, true, true, true, true, true, true, true, false, true, false, false, false, false, false, false, false, false, false, false, false] rfl rfl (by kernel_rfl) (fun _ _ _ h => h) (Or.inl ⟨by rfl, fun w' h => run_load_mid 50 _ rfl w.heap.size 0 #[.int .i64 o.t, .int .i64 o.r, .int .i64 o.k, .int .i64 o.a0, .int .i64 o.a1, .int .i64 o.i0, .int .i64 o.i1, .int .i64 o.t0, .int .i64 o.t1, .string o.nm, .string o.nw, .int .i64 o.off, .string o.dt].toList rfl _ _ _ (h.get 2 rfl) (fun j v hj => by simpa using hj) _ Try.underlying50 rfl size_op13⟩) hHeld ?_ ?_
  rotate_left
  · simp only [Act.put, List.setIfInBounds_toArray, List.set_cons_zero, List.set_cons_succ]
    rfl
  refine one_ (i := 14) (N := some 62) #[true, true, true, true, true, true, true, true, true, true, true, true, true, true, true, true, false, false, false, false, false, false, false, false, false, false, false] rfl rfl (by kernel_rfl) (by decide) (fun K hK => ?_)
  refine goes_ Try.func29 (by kernel_rfl) rfl #[.agg #[.int .i64 o.t, .int .i64 o.r, .int .i64 o.k, .int .i64 o.a0, .int .i64 o.a1, .int .i64 o.i0, .int .i64 o.i1, .int .i64 o.t0, .int .i64 o.t1, .string o.nm, .string o.nw, .int .i64 o.off, .string o.dt]] (by rfl) rfl rfl (by (try simp only [List.map_toArray, List.map_cons, List.map_nil]); first | done | rfl) ?_
  (with_reducible refine (HP1.out _).mono ?_)
  rintro e wr5 ⟨rfl, hr5⟩
  refine ⟨_, rfl, ?_⟩
  refine hK.out _ _ (hHeld.call hr5) (fun hHeld => ?_)
  clear hK K
  refine norm_ (a' := ?_) ?_ ?_
  rotate_left
  · show Act.put _ (some 62) _ = _
    simp only [Act.put, List.setIfInBounds_toArray, List.set_cons_zero, List.set_cons_succ]
    rfl
  refine one_ (i := 16) (N := some 64) #[true, true, true, true, true, true, true, true, true, true, true, true, true, true, true, true, true, false, false, false, false, false, false, false, false, false, false] rfl rfl (by kernel_rfl) (by decide) (fun K hK => ?_)
  refine goes_ Try.func35 (by kernel_rfl) rfl #[.agg #[.int .i64 o.t, .int .i64 o.r, .int .i64 o.k, .int .i64 o.a0, .int .i64 o.a1, .int .i64 o.i0, .int .i64 o.i1, .int .i64 o.t0, .int .i64 o.t1, .string o.nm, .string o.nw, .int .i64 o.off, .string o.dt]] (by rfl) rfl rfl (by (try simp only [List.map_toArray, List.map_cons, List.map_nil]); first | done | rfl) ?_
  (with_reducible refine (HP2.out _).mono ?_)
  rintro e wr6 ⟨rfl, hr6⟩
  refine ⟨_, rfl, ?_⟩
  refine hK.out _ _ (hHeld.call hr6) (fun hHeld => ?_)
  clear hK K
  refine norm_ (a' := ?_) ?_ ?_
  rotate_left
  · show Act.put _ (some 64) _ = _
    simp only [Act.put, List.setIfInBounds_toArray, List.set_cons_zero, List.set_cons_succ]
    rfl
  refine pure_ (i := 17) (N := some 65) (v := ?_) (a' := ?_) #[true, true, true, true, true, true, true, true, true, true, true, true, true, true, true, true, true, true, false, false, false, false, false, false, false, false, false] rfl rfl (by kernel_rfl) (fun _ _ _ h => h) (Or.inl ⟨by rfl, ?_⟩) ?_ ?_
  rotate_left
  · intro w_
    go_simp
    try with_reducible rfl
  rotate_left
  · simp only [Act.put, List.setIfInBounds_toArray, List.set_cons_zero, List.set_cons_succ]
    rfl
  refine pure_ (i := 18) (N := some 66) (v := ?_) (a' := ?_) #[true, true, true, true, true, true, true, true, true, true, true, true, true, true, true, true, true, true, true, false, false, false, false, false, false, false, false] rfl rfl (by kernel_rfl) (fun _ _ _ h => h) (Or.inl ⟨by rfl, ?_⟩) ?_ ?_
  rotate_left
  · intro w_
    go_simp
    try with_reducible rfl
  rotate_left
  · simp only [Act.put, List.setIfInBounds_toArray, List.set_cons_zero, List.set_cons_succ]
    rfl
  refine pure_ (i := 19) (N := some 67) (v := ?_) (a' := ?_) #[true, true, true, true, true, true, true, true, true, true, true, true, true, true, true, true, true, true, true, true, false, false, false, false, false, false, false] rfl rfl (by kernel_rfl) (fun _ _ _ h => h) (Or.inl ⟨by rfl, ?_⟩) ?_ ?_
  rotate_left
  · intro w_
    go_simp
    try with_reducible rfl
  rotate_left
  · simp only [Act.put, List.setIfInBounds_toArray, List.set_cons_zero, List.set_cons_succ]
    rfl
  refine take_ (i := 20) (N := some 68) (v := .agg #[.int .i64 o.t, .int .i64 o.r, .int .i64 o.k, .int .i64 o.a0, .int .i64 o.a1, .int .i64 o.i0, .int .i64 o.i1, .int .i64 o.t0, .int .i64 o.t1, .string o.nm, .string o.nw, .int .i64 o.off, .string o.dt]) (a' := ?_) #[true, true, true, true, true, true, true, true, true, true, true, true, true, true, true, true, true, true, true, true, true, false, false, false, false, false, false] rfl rfl (by kernel_rfl) (fun _ _ _ h => h) (Or.inl ⟨by rfl, fun w' h => run_load_mid 50 _ rfl w.heap.size 0 #[.int .i64 o.t, .int .i64 o.r, .int .i64 o.k, .int .i64 o.a0, .int .i64 o.a1, .int .i64 o.i0, .int .i64 o.i1, .int .i64 o.t0, .int .i64 o.t1, .string o.nm, .string o.nw, .int .i64 o.off, .string o.dt].toList rfl _ _ _ (h.get 2 rfl) (fun j v hj => by simpa using hj) _ Try.underlying50 rfl size_op13⟩) hHeld ?_ ?_
  rotate_left
  · simp only [Act.put, List.setIfInBounds_toArray, List.set_cons_zero, List.set_cons_succ]
    rfl
  refine take_ (i := 22) (N := some 70) (v := .agg #[.int .i64 o.t, .int .i64 o.r, .int .i64 o.k, .int .i64 o.a0, .int .i64 o.a1, .int .i64 o.i0, .int .i64 o.i1, .int .i64 o.t0, .int .i64 o.t1, .string o.nm, .string o.nw, .int .i64 o.off, .string o.dt]) (a' := ?_) #[true, true, true, true, true, true, true, true, true, true, true, true, true, true, true, true, true, true, true, true, true, false, true, false, false, false, false] rfl rfl (by kernel_rfl) (fun _ _ _ h => h) (Or.inl ⟨by rfl, fun w' h => run_load_mid 50 _ rfl w.heap.size 0 #[.int .i64 o.t, .int .i64 o.r, .int .i64 o.k, .int .i64 o.a0, .int .i64 o.a1, .int .i64 o.i0, .int .i64 o.i1, .int .i64 o.t0, .int .i64 o.t1, .string o.nm, .string o.nw, .int .i64 o.off, .string o.dt].toList rfl _ _ _ (h.get 2 rfl) (fun j v hj => by simpa using hj) _ Try.underlying50 rfl size_op13⟩) hHeld ?_ ?_
  rotate_left
  · simp only [Act.put, List.setIfInBounds_toArray, List.set_cons_zero, List.set_cons_succ]
    rfl
  refine one_ (i := 21) (N := some 69) #[true, true, true, true, true, true, true, true, true, true, true, true, true, true, true, true, true, true, true, true, true, true, true, false, false, false, false] rfl rfl (by kernel_rfl) (by decide) (fun K hK => ?_)
  refine goes_ Try.func28 (by kernel_rfl) rfl #[.agg #[.int .i64 o.t, .int .i64 o.r, .int .i64 o.k, .int .i64 o.a0, .int .i64 o.a1, .int .i64 o.i0, .int .i64 o.i1, .int .i64 o.t0, .int .i64 o.t1, .string o.nm, .string o.nw, .int .i64 o.off, .string o.dt]] (by rfl) rfl rfl (by (try simp only [List.map_toArray, List.map_cons, List.map_nil]); first | done | rfl) ?_
  (with_reducible refine (HK1.out _).mono ?_)
  rintro e wr7 ⟨rfl, hr7⟩
  refine ⟨_, rfl, ?_⟩
  refine hK.out _ _ (hHeld.call hr7) (fun hHeld => ?_)
  clear hK K
  refine norm_ (a' := ?_) ?_ ?_
  rotate_left
  · show Act.put _ (some 69) _ = _
    simp only [Act.put, List.setIfInBounds_toArray, List.set_cons_zero, List.set_cons_succ]
    rfl
  refine one_ (i := 23) (N := some 71) #[true, true, true, true, true, true, true, true, true, true, true, true, true, true, true, true, true, true, true, true, true, true, true, true, false, false, false] rfl rfl (by kernel_rfl) (by decide) (fun K hK => ?_)
  refine goes_ Try.func36 (by kernel_rfl) rfl #[.agg #[.int .i64 o.t, .int .i64 o.r, .int .i64 o.k, .int .i64 o.a0, .int .i64 o.a1, .int .i64 o.i0, .int .i64 o.i1, .int .i64 o.t0, .int .i64 o.t1, .string o.nm, .string o.nw, .int .i64 o.off, .string o.dt]] (by rfl) rfl rfl (by (try simp only [List.map_toArray, List.map_cons, List.map_nil]); first | done | rfl) ?_
  (with_reducible refine (HK2.out _).mono ?_)
  rintro e wr8 ⟨rfl, hr8⟩
  refine ⟨_, rfl, ?_⟩
  refine hK.out _ _ (hHeld.call hr8) (fun hHeld => ?_)
  clear hK K
  refine norm_ (a' := ?_) ?_ ?_
  rotate_left
  · show Act.put _ (some 71) _ = _
    simp only [Act.put, List.setIfInBounds_toArray, List.set_cons_zero, List.set_cons_succ]
    rfl
  refine pure_ (i := 24) (N := some 72) (v := ?_) (a' := ?_) #[true, true, true, true, true, true, true, true, true, true, true, true, true, true, true, true, true, true, true, true, true, true, true, true, true, false, false] rfl rfl (by kernel_rfl) (fun _ _ _ h => h) (Or.inl ⟨by rfl, ?_⟩) ?_ ?_
  rotate_left
  · intro w_
    go_simp
    try with_reducible rfl
  rotate_left
  · simp only [Act.put, List.setIfInBounds_toArray, List.set_cons_zero, List.set_cons_succ]
    rfl
  refine pure_ (i := 25) (N := some 73) (v := ?_) (a' := ?_) #[true, true, true, true, true, true, true, true, true, true, true, true, true, true, true, true, true, true, true, true, true, true, true, true, true, true, false] rfl rfl (by kernel_rfl) (fun _ _ _ h => h) (Or.inl ⟨by rfl, ?_⟩) ?_ ?_
  rotate_left
  · intro w_
    go_simp
    try with_reducible rfl
  rotate_left
  · simp only [Act.put, List.setIfInBounds_toArray, List.set_cons_zero, List.set_cons_succ]
    rfl
  refine pure_ (i := 26) (N := some 12) (v := ?_) (a' := ?_) #[true, true, true, true, true, true, true, true, true, true, true, true, true, true, true, true, true, true, true, true, true, true, true, true, true, true, true] rfl rfl (by kernel_rfl) (fun _ _ _ h => h) (Or.inl ⟨by rfl, ?_⟩) ?_ ?_
  rotate_left
  · intro w_
    go_simp
    try with_reducible rfl
  rotate_left
  · simp only [Act.put, List.setIfInBounds_toArray, List.set_cons_zero, List.set_cons_succ]
    rfl
  refine done_ (by kernel_rfl) ?_
  clear HN1 HN2 HM1 HM2 HP1 HP2 HK1 HK2 K6
  go_upto_region 7 with (fail)
  have K7 := Hd.mk hHeld
  clear hHeld
  refine start_ (n := 27) (S := fun W_ => Holds w [(bY, .cells #[.int .i64 x.t, .int .i64 x.r, .int .i64 x.k, .int .i64 x.a0, .int .i64 x.a1, .int .i64 x.i0, .int .i64 x.i1, .int .i64 x.t0, .int .i64 x.t1, .string x.nm, .string x.nw, .int .i64 x.off, .string x.dt] 50 (0, 0)), (bx, .cells #[.int .i64 x.t, .int .i64 x.r, .int .i64 x.k, .int .i64 x.a0, .int .i64 x.a1, .int .i64 x.i0, .int .i64 x.i1, .int .i64 x.t0, .int .i64 x.t1, .string x.nm, .string x.nw, .int .i64 x.off, .string x.dt] 50 (0, 0)), (w.heap.size, .cells #[.int .i64 o.t, .int .i64 o.r, .int .i64 o.k, .int .i64 o.a0, .int .i64 o.a1, .int .i64 o.i0, .int .i64 o.i1, .int .i64 o.t0, .int .i64 o.t1, .string o.nm, .string o.nw, .int .i64 o.off, .string o.dt] 50 (0, 0))] W_) (ds := []) #[false, false, false, false, false, false, false, false, false, false, false, false, false, false, false, false, false, false, false, false, false, false, false, false, false, false, false] (by kernel_rfl) rfl rfl (K7.out.drew) (fun hHeld => ?_)
  refine pure_ (i := 0) (N := some 74) (v := ?_) (a' := ?_) #[true, false, false, false, false, false, false, false, false, false, false, false, false, false, false, false, false, false, false, false, false, false, false, false, false, false, false] rfl rfl (by kernel_rfl) (fun _ _ _ h => h) (Or.inl ⟨by rfl, ?_⟩) ?_ ?_
  rotate_left
  · intro w_
    go_simp
    try with_reducible rfl
  rotate_left
  · simp only [Act.put, List.setIfInBounds_toArray, List.set_cons_zero, List.set_cons_succ]
    rfl
  refine pure_ (i := 1) (N := some 75) (v := ?_) (a' := ?_) #[true, true, false, false, false, false, false, false, false, false, false, false, false, false, false, false, false, false, false, false, false, false, false, false, false, false, false] rfl rfl (by kernel_rfl) (fun _ _ _ h => h) (Or.inl ⟨by rfl, ?_⟩) ?_ ?_
  rotate_left
  · intro w_
    go_simp
    try with_reducible rfl
  rotate_left
  · simp only [Act.put, List.setIfInBounds_toArray, List.set_cons_zero, List.set_cons_succ]
    rfl
  refine pure_ (i := 2) (N := some 76) (v := ?_) (a' := ?_) #[true, true, true, false, false, false, false, false, false, false, false, false, false, false, false, false, false, false, false, false, false, false, false, false, false, false, false] rfl rfl (by kernel_rfl) (fun _ _ _ h => h) (Or.inl ⟨by rfl, ?_⟩) ?_ ?_
  rotate_left
  · intro w_
    go_simp
    try with_reducible rfl
  rotate_left
  · simp only [Act.put, List.setIfInBounds_toArray, List.set_cons_zero, List.set_cons_succ]
    rfl
  refine pure_ (i := 3) (N := some 77) (v := ?_) (a' := ?_) #[true, true, true, true, false, false, false, false, false, false, false, false, false, false, false, false, false, false, false, false, false, false, false, false, false, false, false] rfl rfl (by kernel_rfl) (fun _ _ _ h => h) (Or.inl ⟨by rfl, ?_⟩) ?_ ?_
  rotate_left
  · intro w_
    go_simp
    try with_reducible rfl
  rotate_left
  · simp only [Act.put, List.setIfInBounds_toArray, List.set_cons_zero, List.set_cons_succ]
    rfl
  refine pure_ (i := 4) (N := some 78) (v := ?_) (a' := ?_) #[true, true, true, true, true, false, false, false, false, false, false, false, false, false, false, false, false, false, false, false, false, false, false, false, false, false, false] rfl rfl (by kernel_rfl) (fun _ _ _ h => h) (Or.inl ⟨by rfl, ?_⟩) ?_ ?_
  rotate_left
  · intro w_
    go_simp
    try with_reducible rfl
  rotate_left
  · simp only [Act.put, List.setIfInBounds_toArray, List.set_cons_zero, List.set_cons_succ]
    rfl
  refine take_ (i := 5) (N := some 79) (v := .agg #[.int .i64 o.t, .int .i64 o.r, .int .i64 o.k, .int .i64 o.a0, .int .i64 o.a1, .int .i64 o.i0, .int .i64 o.i1, .int .i64 o.t0, .int .i64 o.t1, .string o.nm, .string o.nw, .int .i64 o.off, .string o.dt]) (a' := ?_) #[true, true, true, true, true, true, false, false, false, false, false, false, false, false, false, false, false, false, false, false, false, false, false, false, false, false, false] rfl rfl (by kernel_rfl) (fun _ _ _ h => h) (Or.inl ⟨by rfl, fun w' h => run_load_mid 50 _ rfl w.heap.size 0 #[.int .i64 o.t, .int .i64 o.r, .int .i64 o.k, .int .i64 o.a0, .int .i64 o.a1, .int .i64 o.i0, .int .i64 o.i1, .int .i64 o.t0, .int .i64 o.t1, .string o.nm, .string o.nw, .int .i64 o.off, .string o.dt].toList rfl _ _ _ (h.get 2 rfl) (fun j v hj => by simpa using hj) _ Try.underlying50 rfl size_op13⟩) hHeld ?_ ?_
  rotate_left
  · simp only [Act.put, List.setIfInBounds_toArray, List.set_cons_zero, List.set_cons_succ]
    rfl
  refine take_ (i := 7) (N := some 81) (v := .agg #[.int .i64 o.t, .int .i64 o.r, .int .i64 o.k, .int .i64 o.a0, .int .i64 o.a1, .int .i64 o.i0, .int .i64 o.i1, .int .i64 o.t0, .int .i64 o.t1, .string o.nm, .string o.nw, .int .i64 o.off, .string o.dt]) (a' := ?_) #[true, true, true, true, true, true, false, true, false, false, false, false, false, false, false, false, false, false, false, false, false, false, false, false, false, false, false] rfl rfl (by kernel_rfl) (fun _ _ _ h => h) (Or.inl ⟨by rfl, fun w' h => run_load_mid 50 _ rfl w.heap.size 0 #[.int .i64 o.t, .int .i64 o.r, .int .i64 o.k, .int .i64 o.a0, .int .i64 o.a1, .int .i64 o.i0, .int .i64 o.i1, .int .i64 o.t0, .int .i64 o.t1, .string o.nm, .string o.nw, .int .i64 o.off, .string o.dt].toList rfl _ _ _ (h.get 2 rfl) (fun j v hj => by simpa using hj) _ Try.underlying50 rfl size_op13⟩) hHeld ?_ ?_
  rotate_left
  · simp only [Act.put, List.setIfInBounds_toArray, List.set_cons_zero, List.set_cons_succ]
    rfl
  refine one_ (i := 6) (N := some 80) #[true, true, true, true, true, true, true, true, false, false, false, false, false, false, false, false, false, false, false, false, false, false, false, false, false, false, false] rfl rfl (by kernel_rfl) (by decide) (fun K hK => ?_)
  refine goes_ Try.func27 (by kernel_rfl) rfl #[.agg #[.int .i64 o.t, .int .i64 o.r, .int .i64 o.k, .int .i64 o.a0, .int .i64 o.a1, .int .i64 o.i0, .int .i64 o.i1, .int .i64 o.t0, .int .i64 o.t1, .string o.nm, .string o.nw, .int .i64 o.off, .string o.dt]] (by rfl) rfl rfl (by (try simp only [List.map_toArray, List.map_cons, List.map_nil]); first | done | rfl) ?_
  (with_reducible refine (HU1.out _).mono ?_)
  rintro e wr9 ⟨v1, rfl, ho1, hr9⟩
  refine ⟨_, rfl, ?_⟩
  refine hK.out _ _ (hHeld.call hr9) (fun hHeld => ?_)
  clear hK K
  refine more_ (fun W_ => (Holds w [(bY, .cells #[.int .i64 x.t, .int .i64 x.r, .int .i64 x.k, .int .i64 x.a0, .int .i64 x.a1, .int .i64 x.i0, .int .i64 x.i1, .int .i64 x.t0, .int .i64 x.t1, .string x.nm, .string x.nw, .int .i64 x.off, .string x.dt] 50 (0, 0)), (bx, .cells #[.int .i64 x.t, .int .i64 x.r, .int .i64 x.k, .int .i64 x.a0, .int .i64 x.a1, .int .i64 x.i0, .int .i64 x.i1, .int .i64 x.t0, .int .i64 x.t1, .string x.nm, .string x.nw, .int .i64 x.off, .string x.dt] 50 (0, 0)), (w.heap.size, .cells #[.int .i64 o.t, .int .i64 o.r, .int .i64 o.k, .int .i64 o.a0, .int .i64 o.a1, .int .i64 o.i0, .int .i64 o.i1, .int .i64 o.t0, .int .i64 o.t1, .string o.nm, .string o.nw, .int .i64 o.off, .string o.dt] 50 (0, 0))] W_) ∧ (∃ c, stE.Own c W_ v1 U)) (fun _ h => h.1) ⟨hHeld, ⟨_, ho1⟩⟩ (fun hHeld => ?_)
  refine norm_ (a' := ?_) ?_ ?_
  rotate_left
  · show Act.put _ (some 80) _ = _
    simp only [Act.put, List.setIfInBounds_toArray, List.set_cons_zero, List.set_cons_succ]
    rfl
  refine one_ (i := 8) (N := some 82) #[true, true, true, true, true, true, true, true, true, false, false, false, false, false, false, false, false, false, false, false, false, false, false, false, false, false, false] rfl rfl (by kernel_rfl) (by decide) (fun K hK => ?_)
  refine goes_ Try.func37 (by kernel_rfl) rfl #[.agg #[.int .i64 o.t, .int .i64 o.r, .int .i64 o.k, .int .i64 o.a0, .int .i64 o.a1, .int .i64 o.i0, .int .i64 o.i1, .int .i64 o.t0, .int .i64 o.t1, .string o.nm, .string o.nw, .int .i64 o.off, .string o.dt]] (by rfl) rfl rfl (by (try simp only [List.map_toArray, List.map_cons, List.map_nil]); first | done | rfl) ?_
  (with_reducible refine (HU2.out _).mono ?_)
  rintro e wr10 ⟨v2, rfl, ho2, hr10⟩
  refine ⟨_, rfl, ?_⟩
  refine hK.out _ _ (⟨hHeld.1.call hr10, hHeld.2.imp fun _ h => h.below hr10⟩) (fun hHeld => ?_)
  clear hK K
  refine more_ (fun W_ => ((Holds w [(bY, .cells #[.int .i64 x.t, .int .i64 x.r, .int .i64 x.k, .int .i64 x.a0, .int .i64 x.a1, .int .i64 x.i0, .int .i64 x.i1, .int .i64 x.t0, .int .i64 x.t1, .string x.nm, .string x.nw, .int .i64 x.off, .string x.dt] 50 (0, 0)), (bx, .cells #[.int .i64 x.t, .int .i64 x.r, .int .i64 x.k, .int .i64 x.a0, .int .i64 x.a1, .int .i64 x.i0, .int .i64 x.i1, .int .i64 x.t0, .int .i64 x.t1, .string x.nm, .string x.nw, .int .i64 x.off, .string x.dt] 50 (0, 0)), (w.heap.size, .cells #[.int .i64 o.t, .int .i64 o.r, .int .i64 o.k, .int .i64 o.a0, .int .i64 o.a1, .int .i64 o.i0, .int .i64 o.i1, .int .i64 o.t0, .int .i64 o.t1, .string o.nm, .string o.nw, .int .i64 o.off, .string o.dt] 50 (0, 0))] W_) ∧ (∃ c, stE.Own c W_ v1 U)) ∧ (∃ c, stE.Own c W_ v2 U)) (fun _ h => h.1) ⟨hHeld, ⟨_, ho2⟩⟩ (fun hHeld => ?_)
  refine norm_ (a' := ?_) ?_ ?_
  rotate_left
  · show Act.put _ (some 82) _ = _
    simp only [Act.put, List.setIfInBounds_toArray, List.set_cons_zero, List.set_cons_succ]
    rfl
  refine one_ (i := 9) (N := some 83) #[true, true, true, true, true, true, true, true, true, true, false, false, false, false, false, false, false, false, false, false, false, false, false, false, false, false, false] rfl rfl (by kernel_rfl) (by decide) (fun K hK => ?_)
  refine goes_ Try.func30 (by kernel_rfl) rfl #[v1, v2] (by rfl) rfl rfl (by (try simp only [List.map_toArray, List.map_cons, List.map_nil]); first | done | rfl) ?_
  (with_reducible refine ((HST.out v1 v2 _ hHeld.1.2 hHeld.2)).mono ?_)
  rintro e wr11 ⟨rfl, hr11⟩
  refine ⟨_, rfl, ?_⟩
  refine hK.out _ _ (⟨⟨hHeld.1.1.call hr11, hHeld.1.2.imp fun _ h => h.below hr11⟩, hHeld.2.imp fun _ h => h.below hr11⟩) (fun hHeld => ?_)
  clear hK K
  refine norm_ (a' := ?_) ?_ ?_
  rotate_left
  · show Act.put _ (some 83) _ = _
    simp only [Act.put, List.setIfInBounds_toArray, List.set_cons_zero, List.set_cons_succ]
    rfl
  refine pure_ (i := 10) (N := some 84) (v := ?_) (a' := ?_) #[true, true, true, true, true, true, true, true, true, true, true, false, false, false, false, false, false, false, false, false, false, false, false, false, false, false, false] rfl rfl (by kernel_rfl) (fun _ _ _ h => h) (Or.inl ⟨by rfl, ?_⟩) ?_ ?_
  rotate_left
  · intro w_
    go_simp
    try with_reducible rfl
  rotate_left
  · simp only [Act.put, List.setIfInBounds_toArray, List.set_cons_zero, List.set_cons_succ]
    rfl
  refine pure_ (i := 11) (N := some 85) (v := ?_) (a' := ?_) #[true, true, true, true, true, true, true, true, true, true, true, true, false, false, false, false, false, false, false, false, false, false, false, false, false, false, false] rfl rfl (by kernel_rfl) (fun _ _ _ h => h) (Or.inl ⟨by rfl, ?_⟩) ?_ ?_
  rotate_left
  · intro w_
    go_simp
    try with_reducible rfl
  rotate_left
  · simp only [Act.put, List.setIfInBounds_toArray, List.set_cons_zero, List.set_cons_succ]
    rfl
  refine take_ (i := 12) (N := some 86) (v := .agg #[.int .i64 x.t, .int .i64 x.r, .int .i64 x.k, .int .i64 x.a0, .int .i64 x.a1, .int .i64 x.i0, .int .i64 x.i1, .int .i64 x.t0, .int .i64 x.t1, .string x.nm, .string x.nw, .int .i64 x.off, .string x.dt]) (a' := ?_) #[true, true, true, true, true, true, true, true, true, true, true, true, true, false, false, false, false, false, false, false, false, false, false, false, false, false, false] rfl rfl (by kernel_rfl) (fun _ _ _ h => h) (Or.inl ⟨by rfl, fun w' h => run_load_mid 50 _ rfl bx 0 #[.int .i64 x.t, .int .i64 x.r, .int .i64 x.k, .int .i64 x.a0, .int .i64 x.a1, .int .i64 x.i0, .int .i64 x.i1, .int .i64 x.t0, .int .i64 x.t1, .string x.nm, .string x.nw, .int .i64 x.off, .string x.dt].toList rfl _ _ _ (h.1.1.get 1 rfl) (fun j v hj => by simpa using hj) _ Try.underlying50 rfl size_op13⟩) hHeld ?_ ?_
  rotate_left
  · simp only [Act.put, List.setIfInBounds_toArray, List.set_cons_zero, List.set_cons_succ]
    rfl
  refine take_ (i := 13) (N := some 87) (v := .agg #[.int .i64 x.t, .int .i64 x.r, .int .i64 x.k, .int .i64 x.a0, .int .i64 x.a1, .int .i64 x.i0, .int .i64 x.i1, .int .i64 x.t0, .int .i64 x.t1, .string x.nm, .string x.nw, .int .i64 x.off, .string x.dt]) (a' := ?_) #[true, true, true, true, true, true, true, true, true, true, true, true, true, true, false, false, false, false, false, false, false, false, false, false, false, false, false] rfl rfl (by kernel_rfl) (fun _ _ _ h => h) (Or.inl ⟨by rfl, fun w' h => run_load_mid 50 _ rfl bY 0 #[.int .i64 x.t, .int .i64 x.r, .int .i64 x.k, .int .i64 x.a0, .int .i64 x.a1, .int .i64 x.i0, .int .i64 x.i1, .int .i64 x.t0, .int .i64 x.t1, .string x.nm, .string x.nw, .int .i64 x.off, .string x.dt].toList rfl _ _ _ (h.1.1.get 0 rfl) (fun j v hj => by simpa using hj) _ Try.underlying50 rfl size_op13⟩) hHeld ?_ ?_
  rotate_left
  · simp only [Act.put, List.setIfInBounds_toArray, List.set_cons_zero, List.set_cons_succ]
    rfl
  refine pure_ (i := 14) (N := some 88) (v := ?_) (a' := ?_) #[true, true, true, true, true, true, true, true, true, true, true, true, true, true, true, false, false, false, false, false, false, false, false, false, false, false, false] rfl rfl (by kernel_rfl) (fun _ _ _ h => h) (Or.inl ⟨by rfl, ?_⟩) ?_ ?_
  rotate_left
  · intro w_
    go_simp
    try with_reducible rfl
  rotate_left
  · simp only [Act.put, List.setIfInBounds_toArray, List.set_cons_zero, List.set_cons_succ]
    rfl
  refine pure_ (i := 15) (N := some 89) (v := ?_) (a' := ?_) #[true, true, true, true, true, true, true, true, true, true, true, true, true, true, true, true, false, false, false, false, false, false, false, false, false, false, false] rfl rfl (by kernel_rfl) (fun _ _ _ h => h) (Or.inl ⟨by rfl, ?_⟩) ?_ ?_
  rotate_left
  · intro w_
    go_simp
    try with_reducible rfl
  rotate_left
  · simp only [Act.put, List.setIfInBounds_toArray, List.set_cons_zero, List.set_cons_succ]
    rfl
  refine pure_ (i := 16) (N := some 90) (v := ?_) (a' := ?_) #[true, true, true, true, true, true, true, true, true, true, true, true, true, true, true, true, true, false, false, false, false, false, false, false, false, false, false] rfl rfl (by kernel_rfl) (fun _ _ _ h => h) (Or.inl ⟨by rfl, ?_⟩) ?_ ?_
  rotate_left
  · intro w_
    go_simp
    try with_reducible rfl
  rotate_left
  · simp only [Act.put, List.setIfInBounds_toArray, List.set_cons_zero, List.set_cons_succ]
    rfl
  refine pure_ (i := 17) (N := some 91) (v := ?_) (a' := ?_) #[true, true, true, true, true, true, true, true, true, true, true, true, true, true, true, true, true, true, false, false, false, false, false, false, false, false, false] rfl rfl (by kernel_rfl) (fun _ _ _ h => h) (Or.inl ⟨by rfl, ?_⟩) ?_ ?_
  rotate_left
  · intro w_
    go_simp
    try with_reducible rfl
  rotate_left
  · simp only [Act.put, List.setIfInBounds_toArray, List.set_cons_zero, List.set_cons_succ]
    rfl
  refine pure_ (i := 18) (N := some 92) (v := ?_) (a' := ?_) #[true, true, true, true, true, true, true, true, true, true, true, true, true, true, true, true, true, true, true, false, false, false, false, false, false, false, false] rfl rfl (by kernel_rfl) (fun _ _ _ h => h) (Or.inl ⟨by rfl, ?_⟩) ?_ ?_
  rotate_left
  · intro w_
    go_simp
    try with_reducible rfl
  rotate_left
  · simp only [Act.put, List.setIfInBounds_toArray, List.set_cons_zero, List.set_cons_succ]
    rfl
  refine pure_ (i := 19) (N := some 93) (v := ?_) (a' := ?_) #[true, true, true, true, true, true, true, true, true, true, true, true, true, true, true, true, true, true, true, true, false, false, false, false, false, false, false] rfl rfl (by kernel_rfl) (fun _ _ _ h => h) (Or.inl ⟨by rfl, ?_⟩) ?_ ?_
  rotate_left
  · intro w_
    go_simp
    try with_reducible rfl
  rotate_left
  · simp only [Act.put, List.setIfInBounds_toArray, List.set_cons_zero, List.set_cons_succ]
    rfl
  refine pure_ (i := 20) (N := some 94) (v := ?_) (a' := ?_) #[true, true, true, true, true, true, true, true, true, true, true, true, true, true, true, true, true, true, true, true, true, false, false, false, false, false, false] rfl rfl (by kernel_rfl) (fun _ _ _ h => h) (Or.inl ⟨by rfl, ?_⟩) ?_ ?_
  rotate_left
  · intro w_
    go_simp
    try with_reducible rfl
  rotate_left
  · simp only [Act.put, List.setIfInBounds_toArray, List.set_cons_zero, List.set_cons_succ]
    rfl
  refine pure_ (i := 21) (N := some 95) (v := ?_) (a' := ?_) #[true, true, true, true, true, true, true, true, true, true, true, true, true, true, true, true, true, true, true, true, true, true, false, false, false, false, false] rfl rfl (by kernel_rfl) (fun _ _ _ h => h) (Or.inl ⟨by rfl, ?_⟩) ?_ ?_
  rotate_left
  · intro w_
    go_simp
    try with_reducible rfl
  rotate_left
  · simp only [Act.put, List.setIfInBounds_toArray, List.set_cons_zero, List.set_cons_succ]
    rfl
  refine pure_ (i := 22) (N := some 96) (v := ?_) (a' := ?_) #[true, true, true, true, true, true, true, true, true, true, true, true, true, true, true, true, true, true, true, true, true, true, true, false, false, false, false] rfl rfl (by kernel_rfl) (fun _ _ _ h => h) (Or.inl ⟨by rfl, ?_⟩) ?_ ?_
  rotate_left
  · intro w_
    go_simp
    try with_reducible rfl
  rotate_left
  · simp only [Act.put, List.setIfInBounds_toArray, List.set_cons_zero, List.set_cons_succ]
    rfl
  refine pure_ (i := 23) (N := some 97) (v := ?_) (a' := ?_) #[true, true, true, true, true, true, true, true, true, true, true, true, true, true, true, true, true, true, true, true, true, true, true, true, false, false, false] rfl rfl (by kernel_rfl) (fun _ _ _ h => h) (Or.inl ⟨by rfl, ?_⟩) ?_ ?_
  rotate_left
  · intro w_
    go_simp
    try with_reducible rfl
  rotate_left
  · simp only [Act.put, List.setIfInBounds_toArray, List.set_cons_zero, List.set_cons_succ]
    rfl
  refine pure_ (i := 24) (N := some 98) (v := ?_) (a' := ?_) #[true, true, true, true, true, true, true, true, true, true, true, true, true, true, true, true, true, true, true, true, true, true, true, true, true, false, false] rfl rfl (by kernel_rfl) (fun _ _ _ h => h) (Or.inl ⟨by rfl, ?_⟩) ?_ ?_
  rotate_left
  · intro w_
    go_simp
    try with_reducible rfl
  rotate_left
  · simp only [Act.put, List.setIfInBounds_toArray, List.set_cons_zero, List.set_cons_succ]
    rfl
  refine pure_ (i := 25) (N := some 99) (v := ?_) (a' := ?_) #[true, true, true, true, true, true, true, true, true, true, true, true, true, true, true, true, true, true, true, true, true, true, true, true, true, true, false] rfl rfl (by kernel_rfl) (fun _ _ _ h => h) (Or.inl ⟨by rfl, ?_⟩) ?_ ?_
  rotate_left
  · intro w_
    go_simp
    try with_reducible rfl
  rotate_left
  · simp only [Act.put, List.setIfInBounds_toArray, List.set_cons_zero, List.set_cons_succ]
    rfl
  refine pure_ (i := 26) (N := some 4) (v := ?_) (a' := ?_) #[true, true, true, true, true, true, true, true, true, true, true, true, true, true, true, true, true, true, true, true, true, true, true, true, true, true, true] rfl rfl (by kernel_rfl) (fun _ _ _ h => h) (Or.inl ⟨by rfl, ?_⟩) ?_ ?_
  rotate_left
  · intro w_
    go_simp
    try with_reducible rfl
  rotate_left
  · simp only [Act.put, List.setIfInBounds_toArray, List.set_cons_zero, List.set_cons_succ]
    rfl
  refine done_ (by kernel_rfl) ?_
  go_wp2_with fail
  go_ret
  exact ⟨rfl, hHeld.1.1.2⟩
theorem law_OpTells {v : Value} {t r k a0 a1 i0 i1 t0 t1 : Int} {nm nw : ByteArray} {off : Int} {dt : ByteArray} (hv : IsOp v t r k a0 a1 i0 i1 t0 t1 nm nw off dt) (s : ByteArray) (hs : s.size ≤ 140737488351232) (w : World) :
    Calls Try.prog 13 #[v, .string s] w fun e w' => e = .returned (.bool true) ∧ Below w.heap.size w w' := by
  obtain ⟨rfl, ⟨hr, hn1, hn2⟩, -, hn3⟩ := hv
  let o : OpV := ⟨t, r, k, a0, a1, i0, i1, t0, t1, nm, nw, off, dt⟩
  by_cases h : 2000 < s.size ∨ 2000 < nm.size ∨ 2000 < nw.size ∨ 2000 < dt.size
  · exact tells_idle o s h w
  · have z0 : s.size ≤ 2000 := by omega
    have z1 : nm.size ≤ 2000 := by omega
    have z2 : nw.size ≤ 2000 := by omega
    have z3 : dt.size ≤ 2000 := by omega
    have E1 := op_Take s (by omega)
    have E2 := ref_Take s (by omega)
    have hu : (usesO k a0 a1 i0 i1 t0 t1).length ≤ 1000000 := by have := usesAt_len (fieldsN k) (a0, a1) (i0, i1) (t0, t1) 3; unfold usesO; omega
    have HM2 : ∀ w, Calls Try.prog 34 #[.agg #[.int .i64 o.t, .int .i64 o.r, .int .i64 o.k, .int .i64 o.a0, .int .i64 o.a1, .int .i64 o.i0, .int .i64 o.i1, .int .i64 o.t0, .int .i64 o.t1, .string o.nm, .string o.nw, .int .i64 o.off, .string o.dt]] w fun e w' => e = .returned (.bool o.may) ∧ Below w.heap.size w w' := by
      rw [← refMayO_eq]; exact ref_May o hn3
    have first : ∃ (x : OpV) (c : Int) (q : ByteArray), (∀ w, Calls Try.prog 31 #[.string s] w fun e w' => e = .returned (.tuple #[.agg #[.int .i64 x.t, .int .i64 x.r, .int .i64 x.k, .int .i64 x.a0, .int .i64 x.a1, .int .i64 x.i0, .int .i64 x.i1, .int .i64 x.t0, .int .i64 x.t1, .string x.nm, .string x.nw, .int .i64 x.off, .string x.dt], .string q, .int .i64 c]) ∧ Below w.heap.size w w') ∧ (∀ w, Calls Try.prog 32 #[.string s] w fun e w' => e = .returned (.tuple #[.agg #[.int .i64 x.t, .int .i64 x.r, .int .i64 x.k, .int .i64 x.a0, .int .i64 x.a1, .int .i64 x.i0, .int .i64 x.i1, .int .i64 x.t0, .int .i64 x.t1, .string x.nm, .string x.nw, .int .i64 x.off, .string x.dt], .string q, .int .i64 c]) ∧ Below w.heap.size w w') := by
      cases hT : takeO s with
      | none => rw [hT] at E1 E2; exact ⟨OpV.zero, 2, ⟨#[]⟩, E1, E2⟩
      | some u => obtain ⟨y, q⟩ := u; rw [hT] at E1 E2; exact ⟨y, 0, q, E1, E2⟩
    obtain ⟨x, c, q, H1, H2⟩ := first
    exact tells_walk o x s _ q c _ o.may _ _ hu z0 z1 z2 z3 w ⟨H1⟩ ⟨H2⟩ ⟨op_Name s⟩ ⟨ref_Name s⟩ ⟨op_May _ _ _ _ _ _ _ _ _ _ _ _ _ hn3⟩ ⟨HM2⟩ ⟨op_Put hr hn1 hn2 hn3⟩ ⟨ref_Put hr hn1 hn2 hn3⟩ ⟨op_Makes _ _ _ _ _ _ _ _ _ _ _ _ _⟩ ⟨ref_Makes _ _ _ _ _ _ _ _ _ _ _ _ _⟩ ⟨op_Uses _ _ _ _ _ _ _ _ _ _ _ _ _⟩ ⟨ref_Uses _ _ _ _ _ _ _ _ _ _ _ _ _⟩
end Go.Proofs.Ytcekecpbjmfbhaa.opTells
