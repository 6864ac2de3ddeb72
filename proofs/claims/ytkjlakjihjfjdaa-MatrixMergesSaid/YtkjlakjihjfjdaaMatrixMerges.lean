/- The law MatrixMerges: the walk. -/
import Derived.Test.YtkjlakjihjfjdaaMatLaw
import Derived.Test.YtkjlakjihjfjdaaRowOpen
namespace Go.Proofs.Ytkjlakjihjfjdaa.matrixMerges
open Go.RowKit Go.Proofs.YtkjlakjihjfjdaaW.PrintWords Go.Proofs.YtkjlakjihjfjdaaW.PrintLast Go.Proofs.YtkjlakjihjfjdaaW.PrintMore
set_option linter.unusedVariables false
set_option linter.unusedSimpArgs false

theorem run_alloc_row {o : Oper} {ρ : Operand → Value} {w : World} (ho : o.op = .alloc 46) : (execOp ρ o).run Try.prog w = .ok (.value (.pointer (some ⟨w.heap.size, 0, none⟩))) (w.alloc (.cells (vec zero9) 46)) := by
  have hz := zeroRow w
  unfold execOp
  simp only [ho]
  go_simp
theorem run_store_rowM {P : Program} {o : Oper} {ρ : Operand → Value} {w : World} (ty : TypeId) (x y : Operand) (ho : o.op = .store ty x y)
    (g : Nat) (cells : Array Value) (hx : ρ x = .pointer (some ⟨g, 0, none⟩)) (hy : ρ y = .agg cells)
    (t : TypeId) (old : Array Value) (hg : w.heap[g]? = some (.cells old t (0, 0))) (hi : (P.info? ty).map (·.size) = some cells.size)
    (hold : old.size = cells.size) (h1 : cells.all (·.oneCell') = true) : (execOp ρ o).run P w = .ok .skip (w.setRow g cells) := by
  unfold execOp
  simp only [ho, hx, hy, Instr.storeAt, Instr.sureAddr, Sem.run_bind, Sem.run_pure, Result.andThen_ok, run_storeVar_row w g t ty old cells hg hi hold h1]
theorem MH.made {w : World} {l : List (Nat × Obj)} {b : Nat} {n : Int} {L : List Int} {W : World} (h : MH w l b n L W) (old cs : Array Value) (t : TypeId) : MH w ((W.heap.size, .cells cs t (0, 0)) :: l) b n L ((W.alloc (.cells old t (0, 0))).setRow W.heap.size cs) := by
  have hb := (Array.getElem?_eq_some_iff.1 h.mat).1
  refine ⟨(h.held.fresh (.cells old t (0, 0))).set cs, (setRow_other _ _ _ _ (by omega)).trans ((heap_alloc_old _ _ hb).trans h.mat), ?_, h.out⟩
  intro p hp
  rcases List.mem_cons.1 hp with rfl | hp
  · show W.heap.size ≠ b
    omega
  · exact h.ne p hp

set_option maxHeartbeats 8000000 in
set_option maxRecDepth 100000 in
theorem arm11 (a b c : List Int) (ha : a.length = 9) (hb : b.length = 9) (hc : c.length = 9) (pa : mayV a = true) (pb : mayV b = true) (w : World) :
    Calls Try.prog 7 #[.agg (vec a), .agg (vec b), .agg (vec c)] w fun e w' => e = .returned (.bool true) ∧ Below w.heap.size w w' := by
  have HS := Hd.mk mat_shown
  have H0 := Hd.mk (Holds.start3 w (.cells (vec a) 55) (.cells (vec b) 55) (.cells (vec c) 55))
  have MA := Hd.mk (row_made a ha)
  have MB := Hd.mk (row_made b hb)
  have MC := Hd.mk (row_made c hc)
  have j9 := join9 ha hb
  have G1 := Hd.mk (row_Merge a b ha hb)
  have G2 := Hd.mk (row_Merge (joinL a b) c j9 hc)
  have G3 := Hd.mk (row_Merge b a hb ha)
  have G4 := Hd.mk (row_Merge c (joinL b a) hc (join9 hb ha))
  rw [← merge3] at G4
  have GA := Hd.mk (row_Merge a a ha ha)
  rw [joinS] at GA
  have x9 := Hd.mk (join9 j9 hc)
  have Sa := Hd.mk (show (Try.prog.info? 55).map (·.size) = some (vec a).size by rw [vec_size, ha]; exact size_rrow)
  have Sb := Hd.mk (show (Try.prog.info? 55).map (·.size) = some (vec b).size by rw [vec_size, hb]; exact size_rrow)
  have Sc := Hd.mk (show (Try.prog.info? 55).map (·.size) = some (vec c).size by rw [vec_size, hc]; exact size_rrow)
  obtain ⟨l1, l2, l3, e1, e2, e3⟩ := merges_law ha hb
  have HN := Hd.mk (mat_New 2 (by omega) (by omega))
  have HT1 := Hd.mk (fun (w' : World) (m : Nat) (h : MatIs m 2 zero72 w') => mat_TellG h rfl (by omega) 0 ha)
  have HT2 := Hd.mk (fun (w' : World) (m : Nat) (h : MatIs m 2 (told 2 zero72 0 a) w') => mat_TellG h l1 (by omega) 0 hb)
  have HT3 := Hd.mk (fun (w' : World) (m : Nat) (h : MatIs m 2 (told 2 (told 2 zero72 0 a) 0 b) w') => mat_TellG h l2 (by omega) 0 ha)
  have HR0 := Hd.mk (fun (w' : World) (m : Nat) (h : MatIs m 2 (told 2 (told 2 zero72 0 a) 0 b) w') => mat_Row h l2 0 (by omega) (by omega))
  have HR1 := Hd.mk (fun (w' : World) (m : Nat) (h : MatIs m 2 (told 2 (told 2 (told 2 zero72 0 a) 0 b) 0 a) w') => mat_Row h l3 0 (by omega) (by omega))
  have HR2 := Hd.mk (fun (w' : World) (m : Nat) (h : MatIs m 2 (told 2 (told 2 (told 2 zero72 0 a) 0 b) 0 a) w') => mat_Row h l3 1 (by omega) (by omega))
  rw [e1] at HR1
  rw [e2] at HR2
  rw [takes0, pa] at HT1 HT3
  rw [takes0, pb] at HT2
  simp only [show ((0 : Nat) : Int) = 0 from rfl, show ((1 : Nat) : Int) = 1 from rfl] at HR0 HR1 HR2
  have o9 := Hd.mk (rowM_len l2 (k := 0) (by omega))
  have HEa := Hd.mk (fun w => eqRow 9997 ha ha w)
  have HEx := Hd.mk (fun w => eqRow 9997 x9.out x9.out w)
  have HEo := Hd.mk (fun w => eqRow 9997 o9.out o9.out w)
  have HEz := Hd.mk (fun w => eqRow 9997 (a := zero9) (b := zero9) rfl rfl w)
  rw [eqV_refl] at HEa HEx HEo HEz
  have e3' : rowM (told 2 (told 2 zero72 0 a) 0 b) 0 = joinL a b := e3 pa pb
  have Sx := Hd.mk (show (Try.prog.info? 46).map (·.size) = some (vec (joinL (joinL a b) c)).size by rw [vec_size, x9.out]; exact size_row)
  have So := Hd.mk (show (Try.prog.info? 46).map (·.size) = some (vec (rowM (told 2 (told 2 zero72 0 a) 0 b) 0)).size by rw [vec_size, o9.out]; exact size_row)
  have Zx := Hd.mk (show (vec zero9).size = (vec (joinL (joinL a b) c)).size by rw [vec_size, vec_size, x9.out]; rfl)
  have Zo := Hd.mk (show (vec zero9).size = (vec (rowM (told 2 (told 2 zero72 0 a) 0 b) 0)).size by rw [vec_size, vec_size, o9.out]; rfl)
  clear l1 l2 l3 e1 e2 e3 j9 x9 o9 ha hb hc pa pb
  generalize told 2 (told 2 (told 2 zero72 0 a) 0 b) 0 a = L3 at *
  rw [e3'] at HR0 HR1 HEo So Zo
  
  clear e3'
  generalize told 2 (told 2 zero72 0 a) 0 b = L2 at *
  generalize told 2 zero72 0 a = L1 at *
  generalize joinL (joinL a b) c = x at *
  generalize joinL a b = o at *
  generalize joinL b a = j2 at *
  go_enter Try.func7, Try.ntmps7
  go_upto_region 1 with (fail)
  generalize ((w.alloc (.cells (vec a) 55)).alloc (.cells (vec b) 55)).alloc (.cells (vec c) 55) = W at *
  go_wp2_with fail
  refine (HS.out _).mono ?_; rintro e w1 ⟨rfl, h1⟩
  have H1 := Hd.mk (H0.out.call h1)
  clear H0 h1 HS
  go_upto_region 2 with (fail)
  refine start_ (n := 10) (S := fun W_ => Holds w [(w.heap.size + 1 + 1, .cells (vec c) 55 (0, 0)), (w.heap.size + 1, .cells (vec b) 55 (0, 0)), (w.heap.size, .cells (vec a) 55 (0, 0))] W_) (ds := [9]) #[false, false, false, false, false, false, false, false, false, false] (by kernel_rfl) rfl rfl (H1.out.drew) (fun hHeld => ?_)
  refine take_ (i := 0) (N := some 15) (v := .agg (vec a)) (a' := ?_) #[true, false, false, false, false, false, false, false, false, false] rfl rfl (by kernel_rfl) (fun _ _ _ h => h) (Or.inl ⟨by rfl, fun w' h => run_load_row 55 _ rfl w.heap.size rfl 55 _ _ _ (h.get 2 rfl) Try.underlying55 rfl Sa.out⟩) hHeld ?_ ?_
  rotate_left
  · simp only [Act.put, List.setIfInBounds_toArray, List.set_cons_zero, List.set_cons_succ]
    rfl
  refine take_ (i := 2) (N := some 17) (v := .agg (vec b)) (a' := ?_) #[true, false, true, false, false, false, false, false, false, false] rfl rfl (by kernel_rfl) (fun _ _ _ h => h) (Or.inl ⟨by rfl, fun w' h => run_load_row 55 _ rfl (w.heap.size + 1) rfl 55 _ _ _ (h.get 1 rfl) Try.underlying55 rfl Sb.out⟩) hHeld ?_ ?_
  rotate_left
  · simp only [Act.put, List.setIfInBounds_toArray, List.set_cons_zero, List.set_cons_succ]
    rfl
  refine take_ (i := 5) (N := some 20) (v := .agg (vec c)) (a' := ?_) #[true, false, true, false, false, true, false, false, false, false] rfl rfl (by kernel_rfl) (fun _ _ _ h => h) (Or.inl ⟨by rfl, fun w' h => run_load_row 55 _ rfl (w.heap.size + 1 + 1) rfl 55 _ _ _ (h.get 0 rfl) Try.underlying55 rfl Sc.out⟩) hHeld ?_ ?_
  rotate_left
  · simp only [Act.put, List.setIfInBounds_toArray, List.set_cons_zero, List.set_cons_succ]
    rfl
  refine join_ (σ := Nat) 1 #[true, true, true, true, true, true, true, true, true, false] (fun q => [(16, .agg (vec a)), (18, .agg (vec b)), (19, .agg (vec o)), (21, .agg (vec c)), (22, .agg (vec x)), (8, .pointer (some ⟨q, 0, none⟩))]) (fun q w_ => NewHolds w q (.cells (vec zero9) 46 (0, 0)) ([(w.heap.size + 1 + 1, .cells (vec c) 55 (0, 0)), (w.heap.size + 1, .cells (vec b) 55 (0, 0)), (w.heap.size, .cells (vec a) 55 (0, 0))]) w_) ?_ (fun hcont => ?_)
  rotate_left
  · skip
    refine two_ (i := 1) (j := 8) (Ni := some 16) (Nj := some 8) #[true, true, true, false, false, true, false, false, false, false] #[true, false, true, false, false, true, false, false, true, false] rfl rfl rfl rfl (by kernel_rfl) (by decide) (by decide) (fun K hK => ?_) (fun K hK => ?_)
    · skip
      refine goes_ Try.func30 (by kernel_rfl) rfl #[.agg (vec a)] (by rfl) rfl rfl (by (try simp only [List.map_toArray, List.map_cons, List.map_nil]); first | done | rfl) ?_
      (with_reducible refine (MA.out _).mono ?_)
      rintro e wq1 ⟨rfl, hq1⟩
      refine ⟨_, rfl, ?_⟩
      refine hK.out _ _ (hHeld.call hq1) (fun hHeld => ?_)
      clear hK K
      refine norm_ (a' := ?_) ?_ ?_
      rotate_left
      · show Act.put _ (some 16) _ = _
        simp only [Act.put, List.setIfInBounds_toArray, List.set_cons_zero, List.set_cons_succ]
        rfl
      refine two_ (i := 3) (j := 8) (Ni := some 18) (Nj := some 8) #[true, true, true, true, false, true, false, false, false, false] #[true, true, true, false, false, true, false, false, true, false] rfl rfl rfl rfl (by kernel_rfl) (by decide) (by decide) (fun K hK => ?_) (fun K hK => ?_)
      · skip
        refine goes_ Try.func30 (by kernel_rfl) rfl #[.agg (vec b)] (by rfl) rfl rfl (by (try simp only [List.map_toArray, List.map_cons, List.map_nil]); first | done | rfl) ?_
        (with_reducible refine (MB.out _).mono ?_)
        rintro e wq2 ⟨rfl, hq2⟩
        refine ⟨_, rfl, ?_⟩
        refine hK.out _ _ (hHeld.call hq2) (fun hHeld => ?_)
        clear hK K
        refine norm_ (a' := ?_) ?_ ?_
        rotate_left
        · show Act.put _ (some 18) _ = _
          simp only [Act.put, List.setIfInBounds_toArray, List.set_cons_zero, List.set_cons_succ]
          rfl
        refine two_ (i := 4) (j := 8) (Ni := some 19) (Nj := some 8) #[true, true, true, true, true, true, false, false, false, false] #[true, true, true, true, false, true, false, false, true, false] rfl rfl rfl rfl (by kernel_rfl) (by decide) (by decide) (fun K hK => ?_) (fun K hK => ?_)
        · skip
          refine goes_ Try.func29 (by kernel_rfl) rfl #[.agg (vec a), .agg (vec b)] (by rfl) rfl rfl (by (try simp only [List.map_toArray, List.map_cons, List.map_nil]); first | done | rfl) ?_
          (with_reducible refine (G1.out _).mono ?_)
          rintro e wq3 ⟨rfl, hq3⟩
          refine ⟨_, rfl, ?_⟩
          refine hK.out _ _ (hHeld.call hq3) (fun hHeld => ?_)
          clear hK K
          refine norm_ (a' := ?_) ?_ ?_
          rotate_left
          · show Act.put _ (some 19) _ = _
            simp only [Act.put, List.setIfInBounds_toArray, List.set_cons_zero, List.set_cons_succ]
            rfl
          refine two_ (i := 6) (j := 8) (Ni := some 21) (Nj := some 8) #[true, true, true, true, true, true, true, false, false, false] #[true, true, true, true, true, true, false, false, true, false] rfl rfl rfl rfl (by kernel_rfl) (by decide) (by decide) (fun K hK => ?_) (fun K hK => ?_)
          · skip
            refine goes_ Try.func30 (by kernel_rfl) rfl #[.agg (vec c)] (by rfl) rfl rfl (by (try simp only [List.map_toArray, List.map_cons, List.map_nil]); first | done | rfl) ?_
            (with_reducible refine (MC.out _).mono ?_)
            rintro e wq4 ⟨rfl, hq4⟩
            refine ⟨_, rfl, ?_⟩
            refine hK.out _ _ (hHeld.call hq4) (fun hHeld => ?_)
            clear hK K
            refine norm_ (a' := ?_) ?_ ?_
            rotate_left
            · show Act.put _ (some 21) _ = _
              simp only [Act.put, List.setIfInBounds_toArray, List.set_cons_zero, List.set_cons_succ]
              rfl
            refine two_ (i := 7) (j := 8) (Ni := some 22) (Nj := some 8) #[true, true, true, true, true, true, true, true, false, false] #[true, true, true, true, true, true, true, false, true, false] rfl rfl rfl rfl (by kernel_rfl) (by decide) (by decide) (fun K hK => ?_) (fun K hK => ?_)
            · skip
              refine goes_ Try.func29 (by kernel_rfl) rfl #[.agg (vec o), .agg (vec c)] (by rfl) rfl rfl (by (try simp only [List.map_toArray, List.map_cons, List.map_nil]); first | done | rfl) ?_
              (with_reducible refine (G2.out _).mono ?_)
              rintro e wq5 ⟨rfl, hq5⟩
              refine ⟨_, rfl, ?_⟩
              refine hK.out _ _ (hHeld.call hq5) (fun hHeld => ?_)
              clear hK K
              refine norm_ (a' := ?_) ?_ ?_
              rotate_left
              · show Act.put _ (some 22) _ = _
                simp only [Act.put, List.setIfInBounds_toArray, List.set_cons_zero, List.set_cons_succ]
                rfl
              refine one_ (i := 8) (N := some 8) #[true, true, true, true, true, true, true, true, true, false] rfl rfl (by kernel_rfl) (by decide) (fun K hK => ?_)
              refine value_ (by rfl) rfl (run_alloc_row rfl) ?_
              have HQ := hHeld.fresh (.cells (vec zero9) 46 (0, 0))
              refine hK.out _ _ HQ.tail (fun hHeld => ?_)
              clear hK K
              refine norm_ (a' := ?_) ?_ ?_
              rotate_left
              · show Act.put _ (some 8) _ = _
                simp only [Act.put, List.setIfInBounds_toArray, List.set_cons_zero, List.set_cons_succ]
                rfl
              have fin := hcont _ _ HQ
              simp only [putAll, Act.put, List.setIfInBounds_toArray, List.set_cons_zero, List.set_cons_succ] at fin
              exact fin
            · skip
              refine value_ (by rfl) rfl (run_alloc_row rfl) ?_
              have HQ := hHeld.fresh (.cells (vec zero9) 46 (0, 0))
              refine hK.out _ _ HQ.tail (fun hHeld => ?_)
              clear hK K
              refine norm_ (a' := ?_) ?_ ?_
              rotate_left
              · show Act.put _ (some 8) _ = _
                simp only [Act.put, List.setIfInBounds_toArray, List.set_cons_zero, List.set_cons_succ]
                rfl
              refine one_ (i := 7) (N := some 22) #[true, true, true, true, true, true, true, true, true, false] rfl rfl (by kernel_rfl) (by decide) (fun K hK => ?_)
              refine goes_ Try.func29 (by kernel_rfl) rfl #[.agg (vec o), .agg (vec c)] (by rfl) rfl rfl (by (try simp only [List.map_toArray, List.map_cons, List.map_nil]); first | done | rfl) ?_
              (with_reducible refine (G2.out _).mono ?_)
              rintro e wq6 ⟨rfl, hq6⟩
              refine ⟨_, rfl, ?_⟩
              refine hK.out _ _ (hHeld.call hq6) (fun hHeld => ?_)
              clear hK K
              replace HQ := HQ.call hq6
              refine norm_ (a' := ?_) ?_ ?_
              rotate_left
              · show Act.put _ (some 22) _ = _
                simp only [Act.put, List.setIfInBounds_toArray, List.set_cons_zero, List.set_cons_succ]
                rfl
              have fin := hcont _ _ HQ
              simp only [putAll, Act.put, List.setIfInBounds_toArray, List.set_cons_zero, List.set_cons_succ] at fin
              exact fin
          · skip
            refine value_ (by rfl) rfl (run_alloc_row rfl) ?_
            have HQ := hHeld.fresh (.cells (vec zero9) 46 (0, 0))
            refine hK.out _ _ HQ.tail (fun hHeld => ?_)
            clear hK K
            refine norm_ (a' := ?_) ?_ ?_
            rotate_left
            · show Act.put _ (some 8) _ = _
              simp only [Act.put, List.setIfInBounds_toArray, List.set_cons_zero, List.set_cons_succ]
              rfl
            refine one_ (i := 6) (N := some 21) #[true, true, true, true, true, true, true, false, true, false] rfl rfl (by kernel_rfl) (by decide) (fun K hK => ?_)
            refine goes_ Try.func30 (by kernel_rfl) rfl #[.agg (vec c)] (by rfl) rfl rfl (by (try simp only [List.map_toArray, List.map_cons, List.map_nil]); first | done | rfl) ?_
            (with_reducible refine (MC.out _).mono ?_)
            rintro e wq7 ⟨rfl, hq7⟩
            refine ⟨_, rfl, ?_⟩
            refine hK.out _ _ (hHeld.call hq7) (fun hHeld => ?_)
            clear hK K
            replace HQ := HQ.call hq7
            refine norm_ (a' := ?_) ?_ ?_
            rotate_left
            · show Act.put _ (some 21) _ = _
              simp only [Act.put, List.setIfInBounds_toArray, List.set_cons_zero, List.set_cons_succ]
              rfl
            refine one_ (i := 7) (N := some 22) #[true, true, true, true, true, true, true, true, true, false] rfl rfl (by kernel_rfl) (by decide) (fun K hK => ?_)
            refine goes_ Try.func29 (by kernel_rfl) rfl #[.agg (vec o), .agg (vec c)] (by rfl) rfl rfl (by (try simp only [List.map_toArray, List.map_cons, List.map_nil]); first | done | rfl) ?_
            (with_reducible refine (G2.out _).mono ?_)
            rintro e wq8 ⟨rfl, hq8⟩
            refine ⟨_, rfl, ?_⟩
            refine hK.out _ _ (hHeld.call hq8) (fun hHeld => ?_)
            clear hK K
            replace HQ := HQ.call hq8
            refine norm_ (a' := ?_) ?_ ?_
            rotate_left
            · show Act.put _ (some 22) _ = _
              simp only [Act.put, List.setIfInBounds_toArray, List.set_cons_zero, List.set_cons_succ]
              rfl
            have fin := hcont _ _ HQ
            simp only [putAll, Act.put, List.setIfInBounds_toArray, List.set_cons_zero, List.set_cons_succ] at fin
            exact fin
        · skip
          refine value_ (by rfl) rfl (run_alloc_row rfl) ?_
          have HQ := hHeld.fresh (.cells (vec zero9) 46 (0, 0))
          refine hK.out _ _ HQ.tail (fun hHeld => ?_)
          clear hK K
          refine norm_ (a' := ?_) ?_ ?_
          rotate_left
          · show Act.put _ (some 8) _ = _
            simp only [Act.put, List.setIfInBounds_toArray, List.set_cons_zero, List.set_cons_succ]
            rfl
          refine one_ (i := 4) (N := some 19) #[true, true, true, true, true, true, false, false, true, false] rfl rfl (by kernel_rfl) (by decide) (fun K hK => ?_)
          refine goes_ Try.func29 (by kernel_rfl) rfl #[.agg (vec a), .agg (vec b)] (by rfl) rfl rfl (by (try simp only [List.map_toArray, List.map_cons, List.map_nil]); first | done | rfl) ?_
          (with_reducible refine (G1.out _).mono ?_)
          rintro e wq9 ⟨rfl, hq9⟩
          refine ⟨_, rfl, ?_⟩
          refine hK.out _ _ (hHeld.call hq9) (fun hHeld => ?_)
          clear hK K
          replace HQ := HQ.call hq9
          refine norm_ (a' := ?_) ?_ ?_
          rotate_left
          · show Act.put _ (some 19) _ = _
            simp only [Act.put, List.setIfInBounds_toArray, List.set_cons_zero, List.set_cons_succ]
            rfl
          refine one_ (i := 6) (N := some 21) #[true, true, true, true, true, true, true, false, true, false] rfl rfl (by kernel_rfl) (by decide) (fun K hK => ?_)
          refine goes_ Try.func30 (by kernel_rfl) rfl #[.agg (vec c)] (by rfl) rfl rfl (by (try simp only [List.map_toArray, List.map_cons, List.map_nil]); first | done | rfl) ?_
          (with_reducible refine (MC.out _).mono ?_)
          rintro e wq10 ⟨rfl, hq10⟩
          refine ⟨_, rfl, ?_⟩
          refine hK.out _ _ (hHeld.call hq10) (fun hHeld => ?_)
          clear hK K
          replace HQ := HQ.call hq10
          refine norm_ (a' := ?_) ?_ ?_
          rotate_left
          · show Act.put _ (some 21) _ = _
            simp only [Act.put, List.setIfInBounds_toArray, List.set_cons_zero, List.set_cons_succ]
            rfl
          refine one_ (i := 7) (N := some 22) #[true, true, true, true, true, true, true, true, true, false] rfl rfl (by kernel_rfl) (by decide) (fun K hK => ?_)
          refine goes_ Try.func29 (by kernel_rfl) rfl #[.agg (vec o), .agg (vec c)] (by rfl) rfl rfl (by (try simp only [List.map_toArray, List.map_cons, List.map_nil]); first | done | rfl) ?_
          (with_reducible refine (G2.out _).mono ?_)
          rintro e wq11 ⟨rfl, hq11⟩
          refine ⟨_, rfl, ?_⟩
          refine hK.out _ _ (hHeld.call hq11) (fun hHeld => ?_)
          clear hK K
          replace HQ := HQ.call hq11
          refine norm_ (a' := ?_) ?_ ?_
          rotate_left
          · show Act.put _ (some 22) _ = _
            simp only [Act.put, List.setIfInBounds_toArray, List.set_cons_zero, List.set_cons_succ]
            rfl
          have fin := hcont _ _ HQ
          simp only [putAll, Act.put, List.setIfInBounds_toArray, List.set_cons_zero, List.set_cons_succ] at fin
          exact fin
      · skip
        refine value_ (by rfl) rfl (run_alloc_row rfl) ?_
        have HQ := hHeld.fresh (.cells (vec zero9) 46 (0, 0))
        refine hK.out _ _ HQ.tail (fun hHeld => ?_)
        clear hK K
        refine norm_ (a' := ?_) ?_ ?_
        rotate_left
        · show Act.put _ (some 8) _ = _
          simp only [Act.put, List.setIfInBounds_toArray, List.set_cons_zero, List.set_cons_succ]
          rfl
        refine one_ (i := 3) (N := some 18) #[true, true, true, true, false, true, false, false, true, false] rfl rfl (by kernel_rfl) (by decide) (fun K hK => ?_)
        refine goes_ Try.func30 (by kernel_rfl) rfl #[.agg (vec b)] (by rfl) rfl rfl (by (try simp only [List.map_toArray, List.map_cons, List.map_nil]); first | done | rfl) ?_
        (with_reducible refine (MB.out _).mono ?_)
        rintro e wq12 ⟨rfl, hq12⟩
        refine ⟨_, rfl, ?_⟩
        refine hK.out _ _ (hHeld.call hq12) (fun hHeld => ?_)
        clear hK K
        replace HQ := HQ.call hq12
        refine norm_ (a' := ?_) ?_ ?_
        rotate_left
        · show Act.put _ (some 18) _ = _
          simp only [Act.put, List.setIfInBounds_toArray, List.set_cons_zero, List.set_cons_succ]
          rfl
        refine one_ (i := 4) (N := some 19) #[true, true, true, true, true, true, false, false, true, false] rfl rfl (by kernel_rfl) (by decide) (fun K hK => ?_)
        refine goes_ Try.func29 (by kernel_rfl) rfl #[.agg (vec a), .agg (vec b)] (by rfl) rfl rfl (by (try simp only [List.map_toArray, List.map_cons, List.map_nil]); first | done | rfl) ?_
        (with_reducible refine (G1.out _).mono ?_)
        rintro e wq13 ⟨rfl, hq13⟩
        refine ⟨_, rfl, ?_⟩
        refine hK.out _ _ (hHeld.call hq13) (fun hHeld => ?_)
        clear hK K
        replace HQ := HQ.call hq13
        refine norm_ (a' := ?_) ?_ ?_
        rotate_left
        · show Act.put _ (some 19) _ = _
          simp only [Act.put, List.setIfInBounds_toArray, List.set_cons_zero, List.set_cons_succ]
          rfl
        refine one_ (i := 6) (N := some 21) #[true, true, true, true, true, true, true, false, true, false] rfl rfl (by kernel_rfl) (by decide) (fun K hK => ?_)
        refine goes_ Try.func30 (by kernel_rfl) rfl #[.agg (vec c)] (by rfl) rfl rfl (by (try simp only [List.map_toArray, List.map_cons, List.map_nil]); first | done | rfl) ?_
        (with_reducible refine (MC.out _).mono ?_)
        rintro e wq14 ⟨rfl, hq14⟩
        refine ⟨_, rfl, ?_⟩
        refine hK.out _ _ (hHeld.call hq14) (fun hHeld => ?_)
        clear hK K
        replace HQ := HQ.call hq14
        refine norm_ (a' := ?_) ?_ ?_
        rotate_left
        · show Act.put _ (some 21) _ = _
          simp only [Act.put, List.setIfInBounds_toArray, List.set_cons_zero, List.set_cons_succ]
          rfl
        refine one_ (i := 7) (N := some 22) #[true, true, true, true, true, true, true, true, true, false] rfl rfl (by kernel_rfl) (by decide) (fun K hK => ?_)
        refine goes_ Try.func29 (by kernel_rfl) rfl #[.agg (vec o), .agg (vec c)] (by rfl) rfl rfl (by (try simp only [List.map_toArray, List.map_cons, List.map_nil]); first | done | rfl) ?_
        (with_reducible refine (G2.out _).mono ?_)
        rintro e wq15 ⟨rfl, hq15⟩
        refine ⟨_, rfl, ?_⟩
        refine hK.out _ _ (hHeld.call hq15) (fun hHeld => ?_)
        clear hK K
        replace HQ := HQ.call hq15
        refine norm_ (a' := ?_) ?_ ?_
        rotate_left
        · show Act.put _ (some 22) _ = _
          simp only [Act.put, List.setIfInBounds_toArray, List.set_cons_zero, List.set_cons_succ]
          rfl
        have fin := hcont _ _ HQ
        simp only [putAll, Act.put, List.setIfInBounds_toArray, List.set_cons_zero, List.set_cons_succ] at fin
        exact fin
    · skip
      refine value_ (by rfl) rfl (run_alloc_row rfl) ?_
      have HQ := hHeld.fresh (.cells (vec zero9) 46 (0, 0))
      refine hK.out _ _ HQ.tail (fun hHeld => ?_)
      clear hK K
      refine norm_ (a' := ?_) ?_ ?_
      rotate_left
      · show Act.put _ (some 8) _ = _
        simp only [Act.put, List.setIfInBounds_toArray, List.set_cons_zero, List.set_cons_succ]
        rfl
      refine one_ (i := 1) (N := some 16) #[true, true, true, false, false, true, false, false, true, false] rfl rfl (by kernel_rfl) (by decide) (fun K hK => ?_)
      refine goes_ Try.func30 (by kernel_rfl) rfl #[.agg (vec a)] (by rfl) rfl rfl (by (try simp only [List.map_toArray, List.map_cons, List.map_nil]); first | done | rfl) ?_
      (with_reducible refine (MA.out _).mono ?_)
      rintro e wq16 ⟨rfl, hq16⟩
      refine ⟨_, rfl, ?_⟩
      refine hK.out _ _ (hHeld.call hq16) (fun hHeld => ?_)
      clear hK K
      replace HQ := HQ.call hq16
      refine norm_ (a' := ?_) ?_ ?_
      rotate_left
      · show Act.put _ (some 16) _ = _
        simp only [Act.put, List.setIfInBounds_toArray, List.set_cons_zero, List.set_cons_succ]
        rfl
      refine one_ (i := 3) (N := some 18) #[true, true, true, true, false, true, false, false, true, false] rfl rfl (by kernel_rfl) (by decide) (fun K hK => ?_)
      refine goes_ Try.func30 (by kernel_rfl) rfl #[.agg (vec b)] (by rfl) rfl rfl (by (try simp only [List.map_toArray, List.map_cons, List.map_nil]); first | done | rfl) ?_
      (with_reducible refine (MB.out _).mono ?_)
      rintro e wq17 ⟨rfl, hq17⟩
      refine ⟨_, rfl, ?_⟩
      refine hK.out _ _ (hHeld.call hq17) (fun hHeld => ?_)
      clear hK K
      replace HQ := HQ.call hq17
      refine norm_ (a' := ?_) ?_ ?_
      rotate_left
      · show Act.put _ (some 18) _ = _
        simp only [Act.put, List.setIfInBounds_toArray, List.set_cons_zero, List.set_cons_succ]
        rfl
      refine one_ (i := 4) (N := some 19) #[true, true, true, true, true, true, false, false, true, false] rfl rfl (by kernel_rfl) (by decide) (fun K hK => ?_)
      refine goes_ Try.func29 (by kernel_rfl) rfl #[.agg (vec a), .agg (vec b)] (by rfl) rfl rfl (by (try simp only [List.map_toArray, List.map_cons, List.map_nil]); first | done | rfl) ?_
      (with_reducible refine (G1.out _).mono ?_)
      rintro e wq18 ⟨rfl, hq18⟩
      refine ⟨_, rfl, ?_⟩
      refine hK.out _ _ (hHeld.call hq18) (fun hHeld => ?_)
      clear hK K
      replace HQ := HQ.call hq18
      refine norm_ (a' := ?_) ?_ ?_
      rotate_left
      · show Act.put _ (some 19) _ = _
        simp only [Act.put, List.setIfInBounds_toArray, List.set_cons_zero, List.set_cons_succ]
        rfl
      refine one_ (i := 6) (N := some 21) #[true, true, true, true, true, true, true, false, true, false] rfl rfl (by kernel_rfl) (by decide) (fun K hK => ?_)
      refine goes_ Try.func30 (by kernel_rfl) rfl #[.agg (vec c)] (by rfl) rfl rfl (by (try simp only [List.map_toArray, List.map_cons, List.map_nil]); first | done | rfl) ?_
      (with_reducible refine (MC.out _).mono ?_)
      rintro e wq19 ⟨rfl, hq19⟩
      refine ⟨_, rfl, ?_⟩
      refine hK.out _ _ (hHeld.call hq19) (fun hHeld => ?_)
      clear hK K
      replace HQ := HQ.call hq19
      refine norm_ (a' := ?_) ?_ ?_
      rotate_left
      · show Act.put _ (some 21) _ = _
        simp only [Act.put, List.setIfInBounds_toArray, List.set_cons_zero, List.set_cons_succ]
        rfl
      refine one_ (i := 7) (N := some 22) #[true, true, true, true, true, true, true, true, true, false] rfl rfl (by kernel_rfl) (by decide) (fun K hK => ?_)
      refine goes_ Try.func29 (by kernel_rfl) rfl #[.agg (vec o), .agg (vec c)] (by rfl) rfl rfl (by (try simp only [List.map_toArray, List.map_cons, List.map_nil]); first | done | rfl) ?_
      (with_reducible refine (G2.out _).mono ?_)
      rintro e wq20 ⟨rfl, hq20⟩
      refine ⟨_, rfl, ?_⟩
      refine hK.out _ _ (hHeld.call hq20) (fun hHeld => ?_)
      clear hK K
      replace HQ := HQ.call hq20
      refine norm_ (a' := ?_) ?_ ?_
      rotate_left
      · show Act.put _ (some 22) _ = _
        simp only [Act.put, List.setIfInBounds_toArray, List.set_cons_zero, List.set_cons_succ]
        rfl
      have fin := hcont _ _ HQ
      simp only [putAll, Act.put, List.setIfInBounds_toArray, List.set_cons_zero, List.set_cons_succ] at fin
      exact fin
  intro q wq HQ
  simp only [putAll, Act.put, List.setIfInBounds_toArray, List.set_cons_zero, List.set_cons_succ]
  refine last_ (i := 9) (N := none) #[true, true, true, true, true, true, true, true, true, true] rfl rfl (by kernel_rfl) (by decide) (fun K hK => ?_)
  refine skip_ (by rfl) rfl (run_store_rowM _ _ _ rfl q (vec x) rfl rfl 46 (vec zero9) (HQ.1.get 0 rfl) Sx.out Zx.out (vec_one _)) ?_
  refine hK.out _ _ ?_
  clear hK K
  refine done_ (by kernel_rfl) ?_
  have H2 := Hd.mk (HQ.set (vec x))
  clear HQ hHeld H1
  generalize wq.setRow q (vec x) = W2 at *
  generalize q = bx at *
  go_upto_region 3 with (fail)
  refine start_ (n := 10) (S := fun W_ => Holds w [(bx, .cells (vec x) 46 (0, 0)), (w.heap.size + 1 + 1, .cells (vec c) 55 (0, 0)), (w.heap.size + 1, .cells (vec b) 55 (0, 0)), (w.heap.size, .cells (vec a) 55 (0, 0))] W_) (ds := [9]) #[false, false, false, false, false, false, false, false, false, false] (by kernel_rfl) rfl rfl (H2.out.drew) (fun hHeld => ?_)
  refine take_ (i := 0) (N := some 23) (v := .agg (vec c)) (a' := ?_) #[true, false, false, false, false, false, false, false, false, false] rfl rfl (by kernel_rfl) (fun _ _ _ h => h) (Or.inl ⟨by rfl, fun w' h => run_load_row 55 _ rfl (w.heap.size + 1 + 1) rfl 55 _ _ _ (h.get 1 rfl) Try.underlying55 rfl Sc.out⟩) hHeld ?_ ?_
  rotate_left
  · simp only [Act.put, List.setIfInBounds_toArray, List.set_cons_zero, List.set_cons_succ]
    rfl
  refine take_ (i := 2) (N := some 25) (v := .agg (vec b)) (a' := ?_) #[true, false, true, false, false, false, false, false, false, false] rfl rfl (by kernel_rfl) (fun _ _ _ h => h) (Or.inl ⟨by rfl, fun w' h => run_load_row 55 _ rfl (w.heap.size + 1) rfl 55 _ _ _ (h.get 2 rfl) Try.underlying55 rfl Sb.out⟩) hHeld ?_ ?_
  rotate_left
  · simp only [Act.put, List.setIfInBounds_toArray, List.set_cons_zero, List.set_cons_succ]
    rfl
  refine take_ (i := 4) (N := some 27) (v := .agg (vec a)) (a' := ?_) #[true, false, true, false, true, false, false, false, false, false] rfl rfl (by kernel_rfl) (fun _ _ _ h => h) (Or.inl ⟨by rfl, fun w' h => run_load_row 55 _ rfl w.heap.size rfl 55 _ _ _ (h.get 3 rfl) Try.underlying55 rfl Sa.out⟩) hHeld ?_ ?_
  rotate_left
  · simp only [Act.put, List.setIfInBounds_toArray, List.set_cons_zero, List.set_cons_succ]
    rfl
  refine join_ (σ := Nat) 1 #[true, true, true, true, true, true, true, true, true, false] (fun q => [(24, .agg (vec c)), (26, .agg (vec b)), (28, .agg (vec a)), (29, .agg (vec j2)), (30, .agg (vec x)), (9, .pointer (some ⟨q, 0, none⟩))]) (fun q w_ => NewHolds w q (.cells (vec zero9) 46 (0, 0)) ([(bx, .cells (vec x) 46 (0, 0)), (w.heap.size + 1 + 1, .cells (vec c) 55 (0, 0)), (w.heap.size + 1, .cells (vec b) 55 (0, 0)), (w.heap.size, .cells (vec a) 55 (0, 0))]) w_) ?_ (fun hcont => ?_)
  rotate_left
  · skip
    refine two_ (i := 1) (j := 8) (Ni := some 24) (Nj := some 9) #[true, true, true, false, true, false, false, false, false, false] #[true, false, true, false, true, false, false, false, true, false] rfl rfl rfl rfl (by kernel_rfl) (by decide) (by decide) (fun K hK => ?_) (fun K hK => ?_)
    · skip
      refine goes_ Try.func30 (by kernel_rfl) rfl #[.agg (vec c)] (by rfl) rfl rfl (by (try simp only [List.map_toArray, List.map_cons, List.map_nil]); first | done | rfl) ?_
      (with_reducible refine (MC.out _).mono ?_)
      rintro e wq1 ⟨rfl, hq1⟩
      refine ⟨_, rfl, ?_⟩
      refine hK.out _ _ (hHeld.call hq1) (fun hHeld => ?_)
      clear hK K
      refine norm_ (a' := ?_) ?_ ?_
      rotate_left
      · show Act.put _ (some 24) _ = _
        simp only [Act.put, List.setIfInBounds_toArray, List.set_cons_zero, List.set_cons_succ]
        rfl
      refine two_ (i := 3) (j := 8) (Ni := some 26) (Nj := some 9) #[true, true, true, true, true, false, false, false, false, false] #[true, true, true, false, true, false, false, false, true, false] rfl rfl rfl rfl (by kernel_rfl) (by decide) (by decide) (fun K hK => ?_) (fun K hK => ?_)
      · skip
        refine goes_ Try.func30 (by kernel_rfl) rfl #[.agg (vec b)] (by rfl) rfl rfl (by (try simp only [List.map_toArray, List.map_cons, List.map_nil]); first | done | rfl) ?_
        (with_reducible refine (MB.out _).mono ?_)
        rintro e wq2 ⟨rfl, hq2⟩
        refine ⟨_, rfl, ?_⟩
        refine hK.out _ _ (hHeld.call hq2) (fun hHeld => ?_)
        clear hK K
        refine norm_ (a' := ?_) ?_ ?_
        rotate_left
        · show Act.put _ (some 26) _ = _
          simp only [Act.put, List.setIfInBounds_toArray, List.set_cons_zero, List.set_cons_succ]
          rfl
        refine two_ (i := 5) (j := 8) (Ni := some 28) (Nj := some 9) #[true, true, true, true, true, true, false, false, false, false] #[true, true, true, true, true, false, false, false, true, false] rfl rfl rfl rfl (by kernel_rfl) (by decide) (by decide) (fun K hK => ?_) (fun K hK => ?_)
        · skip
          refine goes_ Try.func30 (by kernel_rfl) rfl #[.agg (vec a)] (by rfl) rfl rfl (by (try simp only [List.map_toArray, List.map_cons, List.map_nil]); first | done | rfl) ?_
          (with_reducible refine (MA.out _).mono ?_)
          rintro e wq3 ⟨rfl, hq3⟩
          refine ⟨_, rfl, ?_⟩
          refine hK.out _ _ (hHeld.call hq3) (fun hHeld => ?_)
          clear hK K
          refine norm_ (a' := ?_) ?_ ?_
          rotate_left
          · show Act.put _ (some 28) _ = _
            simp only [Act.put, List.setIfInBounds_toArray, List.set_cons_zero, List.set_cons_succ]
            rfl
          refine two_ (i := 6) (j := 8) (Ni := some 29) (Nj := some 9) #[true, true, true, true, true, true, true, false, false, false] #[true, true, true, true, true, true, false, false, true, false] rfl rfl rfl rfl (by kernel_rfl) (by decide) (by decide) (fun K hK => ?_) (fun K hK => ?_)
          · skip
            refine goes_ Try.func29 (by kernel_rfl) rfl #[.agg (vec b), .agg (vec a)] (by rfl) rfl rfl (by (try simp only [List.map_toArray, List.map_cons, List.map_nil]); first | done | rfl) ?_
            (with_reducible refine (G3.out _).mono ?_)
            rintro e wq4 ⟨rfl, hq4⟩
            refine ⟨_, rfl, ?_⟩
            refine hK.out _ _ (hHeld.call hq4) (fun hHeld => ?_)
            clear hK K
            refine norm_ (a' := ?_) ?_ ?_
            rotate_left
            · show Act.put _ (some 29) _ = _
              simp only [Act.put, List.setIfInBounds_toArray, List.set_cons_zero, List.set_cons_succ]
              rfl
            refine two_ (i := 7) (j := 8) (Ni := some 30) (Nj := some 9) #[true, true, true, true, true, true, true, true, false, false] #[true, true, true, true, true, true, true, false, true, false] rfl rfl rfl rfl (by kernel_rfl) (by decide) (by decide) (fun K hK => ?_) (fun K hK => ?_)
            · skip
              refine goes_ Try.func29 (by kernel_rfl) rfl #[.agg (vec c), .agg (vec j2)] (by rfl) rfl rfl (by (try simp only [List.map_toArray, List.map_cons, List.map_nil]); first | done | rfl) ?_
              (with_reducible refine (G4.out _).mono ?_)
              rintro e wq5 ⟨rfl, hq5⟩
              refine ⟨_, rfl, ?_⟩
              refine hK.out _ _ (hHeld.call hq5) (fun hHeld => ?_)
              clear hK K
              refine norm_ (a' := ?_) ?_ ?_
              rotate_left
              · show Act.put _ (some 30) _ = _
                simp only [Act.put, List.setIfInBounds_toArray, List.set_cons_zero, List.set_cons_succ]
                rfl
              refine one_ (i := 8) (N := some 9) #[true, true, true, true, true, true, true, true, true, false] rfl rfl (by kernel_rfl) (by decide) (fun K hK => ?_)
              refine value_ (by rfl) rfl (run_alloc_row rfl) ?_
              have HQ := hHeld.fresh (.cells (vec zero9) 46 (0, 0))
              refine hK.out _ _ HQ.tail (fun hHeld => ?_)
              clear hK K
              refine norm_ (a' := ?_) ?_ ?_
              rotate_left
              · show Act.put _ (some 9) _ = _
                simp only [Act.put, List.setIfInBounds_toArray, List.set_cons_zero, List.set_cons_succ]
                rfl
              have fin := hcont _ _ HQ
              simp only [putAll, Act.put, List.setIfInBounds_toArray, List.set_cons_zero, List.set_cons_succ] at fin
              exact fin
            · skip
              refine value_ (by rfl) rfl (run_alloc_row rfl) ?_
              have HQ := hHeld.fresh (.cells (vec zero9) 46 (0, 0))
              refine hK.out _ _ HQ.tail (fun hHeld => ?_)
              clear hK K
              refine norm_ (a' := ?_) ?_ ?_
              rotate_left
              · show Act.put _ (some 9) _ = _
                simp only [Act.put, List.setIfInBounds_toArray, List.set_cons_zero, List.set_cons_succ]
                rfl
              refine one_ (i := 7) (N := some 30) #[true, true, true, true, true, true, true, true, true, false] rfl rfl (by kernel_rfl) (by decide) (fun K hK => ?_)
              refine goes_ Try.func29 (by kernel_rfl) rfl #[.agg (vec c), .agg (vec j2)] (by rfl) rfl rfl (by (try simp only [List.map_toArray, List.map_cons, List.map_nil]); first | done | rfl) ?_
              (with_reducible refine (G4.out _).mono ?_)
              rintro e wq6 ⟨rfl, hq6⟩
              refine ⟨_, rfl, ?_⟩
              refine hK.out _ _ (hHeld.call hq6) (fun hHeld => ?_)
              clear hK K
              replace HQ := HQ.call hq6
              refine norm_ (a' := ?_) ?_ ?_
              rotate_left
              · show Act.put _ (some 30) _ = _
                simp only [Act.put, List.setIfInBounds_toArray, List.set_cons_zero, List.set_cons_succ]
                rfl
              have fin := hcont _ _ HQ
              simp only [putAll, Act.put, List.setIfInBounds_toArray, List.set_cons_zero, List.set_cons_succ] at fin
              exact fin
          · skip
            refine value_ (by rfl) rfl (run_alloc_row rfl) ?_
            have HQ := hHeld.fresh (.cells (vec zero9) 46 (0, 0))
            refine hK.out _ _ HQ.tail (fun hHeld => ?_)
            clear hK K
            refine norm_ (a' := ?_) ?_ ?_
            rotate_left
            · show Act.put _ (some 9) _ = _
              simp only [Act.put, List.setIfInBounds_toArray, List.set_cons_zero, List.set_cons_succ]
              rfl
            refine one_ (i := 6) (N := some 29) #[true, true, true, true, true, true, true, false, true, false] rfl rfl (by kernel_rfl) (by decide) (fun K hK => ?_)
            refine goes_ Try.func29 (by kernel_rfl) rfl #[.agg (vec b), .agg (vec a)] (by rfl) rfl rfl (by (try simp only [List.map_toArray, List.map_cons, List.map_nil]); first | done | rfl) ?_
            (with_reducible refine (G3.out _).mono ?_)
            rintro e wq7 ⟨rfl, hq7⟩
            refine ⟨_, rfl, ?_⟩
            refine hK.out _ _ (hHeld.call hq7) (fun hHeld => ?_)
            clear hK K
            replace HQ := HQ.call hq7
            refine norm_ (a' := ?_) ?_ ?_
            rotate_left
            · show Act.put _ (some 29) _ = _
              simp only [Act.put, List.setIfInBounds_toArray, List.set_cons_zero, List.set_cons_succ]
              rfl
            refine one_ (i := 7) (N := some 30) #[true, true, true, true, true, true, true, true, true, false] rfl rfl (by kernel_rfl) (by decide) (fun K hK => ?_)
            refine goes_ Try.func29 (by kernel_rfl) rfl #[.agg (vec c), .agg (vec j2)] (by rfl) rfl rfl (by (try simp only [List.map_toArray, List.map_cons, List.map_nil]); first | done | rfl) ?_
            (with_reducible refine (G4.out _).mono ?_)
            rintro e wq8 ⟨rfl, hq8⟩
            refine ⟨_, rfl, ?_⟩
            refine hK.out _ _ (hHeld.call hq8) (fun hHeld => ?_)
            clear hK K
            replace HQ := HQ.call hq8
            refine norm_ (a' := ?_) ?_ ?_
            rotate_left
            · show Act.put _ (some 30) _ = _
              simp only [Act.put, List.setIfInBounds_toArray, List.set_cons_zero, List.set_cons_succ]
              rfl
            have fin := hcont _ _ HQ
            simp only [putAll, Act.put, List.setIfInBounds_toArray, List.set_cons_zero, List.set_cons_succ] at fin
            exact fin
        · skip
          refine value_ (by rfl) rfl (run_alloc_row rfl) ?_
          have HQ := hHeld.fresh (.cells (vec zero9) 46 (0, 0))
          refine hK.out _ _ HQ.tail (fun hHeld => ?_)
          clear hK K
          refine norm_ (a' := ?_) ?_ ?_
          rotate_left
          · show Act.put _ (some 9) _ = _
            simp only [Act.put, List.setIfInBounds_toArray, List.set_cons_zero, List.set_cons_succ]
            rfl
          refine one_ (i := 5) (N := some 28) #[true, true, true, true, true, true, false, false, true, false] rfl rfl (by kernel_rfl) (by decide) (fun K hK => ?_)
          refine goes_ Try.func30 (by kernel_rfl) rfl #[.agg (vec a)] (by rfl) rfl rfl (by (try simp only [List.map_toArray, List.map_cons, List.map_nil]); first | done | rfl) ?_
          (with_reducible refine (MA.out _).mono ?_)
          rintro e wq9 ⟨rfl, hq9⟩
          refine ⟨_, rfl, ?_⟩
          refine hK.out _ _ (hHeld.call hq9) (fun hHeld => ?_)
          clear hK K
          replace HQ := HQ.call hq9
          refine norm_ (a' := ?_) ?_ ?_
          rotate_left
          · show Act.put _ (some 28) _ = _
            simp only [Act.put, List.setIfInBounds_toArray, List.set_cons_zero, List.set_cons_succ]
            rfl
          refine one_ (i := 6) (N := some 29) #[true, true, true, true, true, true, true, false, true, false] rfl rfl (by kernel_rfl) (by decide) (fun K hK => ?_)
          refine goes_ Try.func29 (by kernel_rfl) rfl #[.agg (vec b), .agg (vec a)] (by rfl) rfl rfl (by (try simp only [List.map_toArray, List.map_cons, List.map_nil]); first | done | rfl) ?_
          (with_reducible refine (G3.out _).mono ?_)
          rintro e wq10 ⟨rfl, hq10⟩
          refine ⟨_, rfl, ?_⟩
          refine hK.out _ _ (hHeld.call hq10) (fun hHeld => ?_)
          clear hK K
          replace HQ := HQ.call hq10
          refine norm_ (a' := ?_) ?_ ?_
          rotate_left
          · show Act.put _ (some 29) _ = _
            simp only [Act.put, List.setIfInBounds_toArray, List.set_cons_zero, List.set_cons_succ]
            rfl
          refine one_ (i := 7) (N := some 30) #[true, true, true, true, true, true, true, true, true, false] rfl rfl (by kernel_rfl) (by decide) (fun K hK => ?_)
          refine goes_ Try.func29 (by kernel_rfl) rfl #[.agg (vec c), .agg (vec j2)] (by rfl) rfl rfl (by (try simp only [List.map_toArray, List.map_cons, List.map_nil]); first | done | rfl) ?_
          (with_reducible refine (G4.out _).mono ?_)
          rintro e wq11 ⟨rfl, hq11⟩
          refine ⟨_, rfl, ?_⟩
          refine hK.out _ _ (hHeld.call hq11) (fun hHeld => ?_)
          clear hK K
          replace HQ := HQ.call hq11
          refine norm_ (a' := ?_) ?_ ?_
          rotate_left
          · show Act.put _ (some 30) _ = _
            simp only [Act.put, List.setIfInBounds_toArray, List.set_cons_zero, List.set_cons_succ]
            rfl
          have fin := hcont _ _ HQ
          simp only [putAll, Act.put, List.setIfInBounds_toArray, List.set_cons_zero, List.set_cons_succ] at fin
          exact fin
      · skip
        refine value_ (by rfl) rfl (run_alloc_row rfl) ?_
        have HQ := hHeld.fresh (.cells (vec zero9) 46 (0, 0))
        refine hK.out _ _ HQ.tail (fun hHeld => ?_)
        clear hK K
        refine norm_ (a' := ?_) ?_ ?_
        rotate_left
        · show Act.put _ (some 9) _ = _
          simp only [Act.put, List.setIfInBounds_toArray, List.set_cons_zero, List.set_cons_succ]
          rfl
        refine one_ (i := 3) (N := some 26) #[true, true, true, true, true, false, false, false, true, false] rfl rfl (by kernel_rfl) (by decide) (fun K hK => ?_)
        refine goes_ Try.func30 (by kernel_rfl) rfl #[.agg (vec b)] (by rfl) rfl rfl (by (try simp only [List.map_toArray, List.map_cons, List.map_nil]); first | done | rfl) ?_
        (with_reducible refine (MB.out _).mono ?_)
        rintro e wq12 ⟨rfl, hq12⟩
        refine ⟨_, rfl, ?_⟩
        refine hK.out _ _ (hHeld.call hq12) (fun hHeld => ?_)
        clear hK K
        replace HQ := HQ.call hq12
        refine norm_ (a' := ?_) ?_ ?_
        rotate_left
        · show Act.put _ (some 26) _ = _
          simp only [Act.put, List.setIfInBounds_toArray, List.set_cons_zero, List.set_cons_succ]
          rfl
        refine one_ (i := 5) (N := some 28) #[true, true, true, true, true, true, false, false, true, false] rfl rfl (by kernel_rfl) (by decide) (fun K hK => ?_)
        refine goes_ Try.func30 (by kernel_rfl) rfl #[.agg (vec a)] (by rfl) rfl rfl (by (try simp only [List.map_toArray, List.map_cons, List.map_nil]); first | done | rfl) ?_
        (with_reducible refine (MA.out _).mono ?_)
        rintro e wq13 ⟨rfl, hq13⟩
        refine ⟨_, rfl, ?_⟩
        refine hK.out _ _ (hHeld.call hq13) (fun hHeld => ?_)
        clear hK K
        replace HQ := HQ.call hq13
        refine norm_ (a' := ?_) ?_ ?_
        rotate_left
        · show Act.put _ (some 28) _ = _
          simp only [Act.put, List.setIfInBounds_toArray, List.set_cons_zero, List.set_cons_succ]
          rfl
        refine one_ (i := 6) (N := some 29) #[true, true, true, true, true, true, true, false, true, false] rfl rfl (by kernel_rfl) (by decide) (fun K hK => ?_)
        refine goes_ Try.func29 (by kernel_rfl) rfl #[.agg (vec b), .agg (vec a)] (by rfl) rfl rfl (by (try simp only [List.map_toArray, List.map_cons, List.map_nil]); first | done | rfl) ?_
        (with_reducible refine (G3.out _).mono ?_)
        rintro e wq14 ⟨rfl, hq14⟩
        refine ⟨_, rfl, ?_⟩
        refine hK.out _ _ (hHeld.call hq14) (fun hHeld => ?_)
        clear hK K
        replace HQ := HQ.call hq14
        refine norm_ (a' := ?_) ?_ ?_
        rotate_left
        · show Act.put _ (some 29) _ = _
          simp only [Act.put, List.setIfInBounds_toArray, List.set_cons_zero, List.set_cons_succ]
          rfl
        refine one_ (i := 7) (N := some 30) #[true, true, true, true, true, true, true, true, true, false] rfl rfl (by kernel_rfl) (by decide) (fun K hK => ?_)
        refine goes_ Try.func29 (by kernel_rfl) rfl #[.agg (vec c), .agg (vec j2)] (by rfl) rfl rfl (by (try simp only [List.map_toArray, List.map_cons, List.map_nil]); first | done | rfl) ?_
        (with_reducible refine (G4.out _).mono ?_)
        rintro e wq15 ⟨rfl, hq15⟩
        refine ⟨_, rfl, ?_⟩
        refine hK.out _ _ (hHeld.call hq15) (fun hHeld => ?_)
        clear hK K
        replace HQ := HQ.call hq15
        refine norm_ (a' := ?_) ?_ ?_
        rotate_left
        · show Act.put _ (some 30) _ = _
          simp only [Act.put, List.setIfInBounds_toArray, List.set_cons_zero, List.set_cons_succ]
          rfl
        have fin := hcont _ _ HQ
        simp only [putAll, Act.put, List.setIfInBounds_toArray, List.set_cons_zero, List.set_cons_succ] at fin
        exact fin
    · skip
      refine value_ (by rfl) rfl (run_alloc_row rfl) ?_
      have HQ := hHeld.fresh (.cells (vec zero9) 46 (0, 0))
      refine hK.out _ _ HQ.tail (fun hHeld => ?_)
      clear hK K
      refine norm_ (a' := ?_) ?_ ?_
      rotate_left
      · show Act.put _ (some 9) _ = _
        simp only [Act.put, List.setIfInBounds_toArray, List.set_cons_zero, List.set_cons_succ]
        rfl
      refine one_ (i := 1) (N := some 24) #[true, true, true, false, true, false, false, false, true, false] rfl rfl (by kernel_rfl) (by decide) (fun K hK => ?_)
      refine goes_ Try.func30 (by kernel_rfl) rfl #[.agg (vec c)] (by rfl) rfl rfl (by (try simp only [List.map_toArray, List.map_cons, List.map_nil]); first | done | rfl) ?_
      (with_reducible refine (MC.out _).mono ?_)
      rintro e wq16 ⟨rfl, hq16⟩
      refine ⟨_, rfl, ?_⟩
      refine hK.out _ _ (hHeld.call hq16) (fun hHeld => ?_)
      clear hK K
      replace HQ := HQ.call hq16
      refine norm_ (a' := ?_) ?_ ?_
      rotate_left
      · show Act.put _ (some 24) _ = _
        simp only [Act.put, List.setIfInBounds_toArray, List.set_cons_zero, List.set_cons_succ]
        rfl
      refine one_ (i := 3) (N := some 26) #[true, true, true, true, true, false, false, false, true, false] rfl rfl (by kernel_rfl) (by decide) (fun K hK => ?_)
      refine goes_ Try.func30 (by kernel_rfl) rfl #[.agg (vec b)] (by rfl) rfl rfl (by (try simp only [List.map_toArray, List.map_cons, List.map_nil]); first | done | rfl) ?_
      (with_reducible refine (MB.out _).mono ?_)
      rintro e wq17 ⟨rfl, hq17⟩
      refine ⟨_, rfl, ?_⟩
      refine hK.out _ _ (hHeld.call hq17) (fun hHeld => ?_)
      clear hK K
      replace HQ := HQ.call hq17
      refine norm_ (a' := ?_) ?_ ?_
      rotate_left
      · show Act.put _ (some 26) _ = _
        simp only [Act.put, List.setIfInBounds_toArray, List.set_cons_zero, List.set_cons_succ]
        rfl
      refine one_ (i := 5) (N := some 28) #[true, true, true, true, true, true, false, false, true, false] rfl rfl (by kernel_rfl) (by decide) (fun K hK => ?_)
      refine goes_ Try.func30 (by kernel_rfl) rfl #[.agg (vec a)] (by rfl) rfl rfl (by (try simp only [List.map_toArray, List.map_cons, List.map_nil]); first | done | rfl) ?_
      (with_reducible refine (MA.out _).mono ?_)
      rintro e wq18 ⟨rfl, hq18⟩
      refine ⟨_, rfl, ?_⟩
      refine hK.out _ _ (hHeld.call hq18) (fun hHeld => ?_)
      clear hK K
      replace HQ := HQ.call hq18
      refine norm_ (a' := ?_) ?_ ?_
      rotate_left
      · show Act.put _ (some 28) _ = _
        simp only [Act.put, List.setIfInBounds_toArray, List.set_cons_zero, List.set_cons_succ]
        rfl
      refine one_ (i := 6) (N := some 29) #[true, true, true, true, true, true, true, false, true, false] rfl rfl (by kernel_rfl) (by decide) (fun K hK => ?_)
      refine goes_ Try.func29 (by kernel_rfl) rfl #[.agg (vec b), .agg (vec a)] (by rfl) rfl rfl (by (try simp only [List.map_toArray, List.map_cons, List.map_nil]); first | done | rfl) ?_
      (with_reducible refine (G3.out _).mono ?_)
      rintro e wq19 ⟨rfl, hq19⟩
      refine ⟨_, rfl, ?_⟩
      refine hK.out _ _ (hHeld.call hq19) (fun hHeld => ?_)
      clear hK K
      replace HQ := HQ.call hq19
      refine norm_ (a' := ?_) ?_ ?_
      rotate_left
      · show Act.put _ (some 29) _ = _
        simp only [Act.put, List.setIfInBounds_toArray, List.set_cons_zero, List.set_cons_succ]
        rfl
      refine one_ (i := 7) (N := some 30) #[true, true, true, true, true, true, true, true, true, false] rfl rfl (by kernel_rfl) (by decide) (fun K hK => ?_)
      refine goes_ Try.func29 (by kernel_rfl) rfl #[.agg (vec c), .agg (vec j2)] (by rfl) rfl rfl (by (try simp only [List.map_toArray, List.map_cons, List.map_nil]); first | done | rfl) ?_
      (with_reducible refine (G4.out _).mono ?_)
      rintro e wq20 ⟨rfl, hq20⟩
      refine ⟨_, rfl, ?_⟩
      refine hK.out _ _ (hHeld.call hq20) (fun hHeld => ?_)
      clear hK K
      replace HQ := HQ.call hq20
      refine norm_ (a' := ?_) ?_ ?_
      rotate_left
      · show Act.put _ (some 30) _ = _
        simp only [Act.put, List.setIfInBounds_toArray, List.set_cons_zero, List.set_cons_succ]
        rfl
      have fin := hcont _ _ HQ
      simp only [putAll, Act.put, List.setIfInBounds_toArray, List.set_cons_zero, List.set_cons_succ] at fin
      exact fin
  intro q wq HQ
  simp only [putAll, Act.put, List.setIfInBounds_toArray, List.set_cons_zero, List.set_cons_succ]
  refine last_ (i := 9) (N := none) #[true, true, true, true, true, true, true, true, true, true] rfl rfl (by kernel_rfl) (by decide) (fun K hK => ?_)
  refine skip_ (by rfl) rfl (run_store_rowM _ _ _ rfl q (vec x) rfl rfl 46 (vec zero9) (HQ.1.get 0 rfl) Sx.out Zx.out (vec_one _)) ?_
  refine hK.out _ _ ?_
  clear hK K
  refine done_ (by kernel_rfl) ?_
  have H3 := Hd.mk (HQ.set (vec x))
  clear HQ hHeld H2
  generalize wq.setRow q (vec x) = W3 at *
  generalize q = by_ at *
  go_wp2_with fail
  refine (HN.out _).mono ?_; rintro e w4 ⟨rfl, h4⟩
  have H4 := Hd.mk (MH.new H3.out h4)
  clear h4 H3 HN
  generalize W3.heap.size = bm at H4 ⊢
  go_wp2_with (first | ((with_reducible refine gate_dst (N := 33) rfl ?_); refine wpList_load_row rfl 55 _ rfl w.heap.size rfl 55 (vec a) (0, 0) _ (H4.out.held.get 4 rfl) Try.underlying55 rfl Sa.out ?_))
  refine (MA.out _).mono ?_; rintro e w5 ⟨rfl, h5⟩
  have H5 := Hd.mk (H4.out.call h5)
  clear H4 h5
  go_wp2_with fail
  refine (HT1.out _ _ H5.out.mat).mono ?_; rintro e w6 ⟨rfl, h6, h6'⟩
  have H6 := Hd.mk (H5.out.tell h6 h6')
  clear H5 HT1 h6 h6'
  go_wp2_with (first | ((with_reducible refine gate_dst (N := 37) rfl ?_); refine wpList_load_row rfl 55 _ rfl (w.heap.size + 1) rfl 55 (vec b) (0, 0) _ (H6.out.held.get 3 rfl) Try.underlying55 rfl Sb.out ?_))
  refine (MB.out _).mono ?_; rintro e w7 ⟨rfl, h7⟩
  have H7 := Hd.mk (H6.out.call h7)
  clear H6 h7
  go_wp2_with fail
  refine (HT2.out _ _ H7.out.mat).mono ?_; rintro e w8 ⟨rfl, h8, h8'⟩
  have H8 := Hd.mk (H7.out.tell h8 h8')
  clear H7 HT2 h8 h8'
  go_wp2_with fail
  refine (HR0.out _ _ H8.out.mat).mono ?_; rintro e w9 ⟨rfl, h9⟩
  have H9 := Hd.mk (H8.out.call h9)
  have HTT := Hd.mk (MH.made H9.out (vec zero9) (vec o) 46)
  have hz := zeroRow
  clear H8 HR0 h9 H9
  go_upto_region 8 with (first | ((with_reducible refine gate_store (t := 46) rfl ?_); refine wpList_store_row rfl _ _ _ rfl w9.heap.size (vec o) rfl rfl 46 (vec zero9) (heap_alloc_new _ _) So.out Zo.out (vec_one _) ?_; generalize ((w9.alloc (.cells (vec zero9) 46 (0, 0))).setRow w9.heap.size (vec o)) = Wa at HTT ⊢))
  clear hz
  generalize w9.heap.size = bo at HTT ⊢
  go_wp2_with (first | ((with_reducible refine gate_dst (N := 43) rfl ?_); refine wpList_load_row rfl 55 _ rfl w.heap.size rfl 55 (vec a) (0, 0) _ (HTT.out.held.get 5 rfl) Try.underlying55 rfl Sa.out ?_))
  refine (MA.out _).mono ?_; rintro e wb ⟨rfl, hb⟩
  have Hb := Hd.mk (HTT.out.call hb)
  clear HTT hb
  go_wp2_with fail
  refine (HT3.out _ _ Hb.out.mat).mono ?_; rintro e wc ⟨rfl, hc, hc'⟩
  have Hc := Hd.mk (Hb.out.tell hc hc')
  clear Hb HT3 hc hc'
  have HR1 := Hd.mk (fun (w' : World) (h : MH w [(bo, .cells (vec o) 46 (0, 0)), (by_, .cells (vec x) 46 (0, 0)), (bx, .cells (vec x) 46 (0, 0)), (w.heap.size + 1 + 1, .cells (vec c) 55 (0, 0)), (w.heap.size + 1, .cells (vec b) 55 (0, 0)), (w.heap.size, .cells (vec a) 55 (0, 0))] bm 2 L3 w') => HR1.out w' bm h.mat)
  have HR2 := Hd.mk (fun (w' : World) (h : MH w [(bo, .cells (vec o) 46 (0, 0)), (by_, .cells (vec x) 46 (0, 0)), (bx, .cells (vec x) 46 (0, 0)), (w.heap.size + 1 + 1, .cells (vec c) 55 (0, 0)), (w.heap.size + 1, .cells (vec b) 55 (0, 0)), (w.heap.size, .cells (vec a) 55 (0, 0))] bm 2 L3 w') => HR2.out w' bm h.mat)
  go_upto_region 9 with (fail)
  refine start_ (n := 46) (S := fun W_ => MH w [(bo, .cells (vec o) 46 (0, 0)), (by_, .cells (vec x) 46 (0, 0)), (bx, .cells (vec x) 46 (0, 0)), (w.heap.size + 1 + 1, .cells (vec c) 55 (0, 0)), (w.heap.size + 1, .cells (vec b) 55 (0, 0)), (w.heap.size, .cells (vec a) 55 (0, 0))] bm 2 L3 W_) (ds := []) #[false, false, false, false, false, false, false, false, false, false, false, false, false, false, false, false, false, false, false, false, false, false, false, false, false, false, false, false, false, false, false, false, false, false, false, false, false, false, false, false, false, false, false, false, false, false] (by kernel_rfl) rfl rfl (Hc.out.drew) (fun hHeld => ?_)
  refine pure_ (i := 0) (N := some 46) (v := ?_) (a' := ?_) #[true, false, false, false, false, false, false, false, false, false, false, false, false, false, false, false, false, false, false, false, false, false, false, false, false, false, false, false, false, false, false, false, false, false, false, false, false, false, false, false, false, false, false, false, false, false] rfl rfl (by kernel_rfl) (fun _ _ _ h => h) (Or.inl ⟨by rfl, ?_⟩) ?_ ?_
  rotate_left
  · intro w_
    go_simp
    try with_reducible rfl
  rotate_left
  · simp only [Act.put, List.setIfInBounds_toArray, List.set_cons_zero, List.set_cons_succ]
    rfl
  refine pure_ (i := 1) (N := some 47) (v := ?_) (a' := ?_) #[true, true, false, false, false, false, false, false, false, false, false, false, false, false, false, false, false, false, false, false, false, false, false, false, false, false, false, false, false, false, false, false, false, false, false, false, false, false, false, false, false, false, false, false, false, false] rfl rfl (by kernel_rfl) (fun _ _ _ h => h) (Or.inl ⟨by rfl, ?_⟩) ?_ ?_
  rotate_left
  · intro w_
    go_simp
    try with_reducible rfl
  rotate_left
  · simp only [Act.put, List.setIfInBounds_toArray, List.set_cons_zero, List.set_cons_succ]
    rfl
  refine take_ (i := 2) (N := some 48) (v := .agg (vec x)) (a' := ?_) #[true, true, true, false, false, false, false, false, false, false, false, false, false, false, false, false, false, false, false, false, false, false, false, false, false, false, false, false, false, false, false, false, false, false, false, false, false, false, false, false, false, false, false, false, false, false] rfl rfl (by kernel_rfl) (fun _ _ _ h => h) (Or.inl ⟨by rfl, fun w' h => run_load_row 46 _ rfl bx rfl 46 _ _ _ (h.held.get 2 rfl) Try.underlying46 rfl Sx.out⟩) hHeld ?_ ?_
  rotate_left
  · simp only [Act.put, List.setIfInBounds_toArray, List.set_cons_zero, List.set_cons_succ]
    rfl
  refine take_ (i := 3) (N := some 49) (v := .agg (vec x)) (a' := ?_) #[true, true, true, true, false, false, false, false, false, false, false, false, false, false, false, false, false, false, false, false, false, false, false, false, false, false, false, false, false, false, false, false, false, false, false, false, false, false, false, false, false, false, false, false, false, false] rfl rfl (by kernel_rfl) (fun _ _ _ h => h) (Or.inl ⟨by rfl, fun w' h => run_load_row 46 _ rfl by_ rfl 46 _ _ _ (h.held.get 1 rfl) Try.underlying46 rfl Sx.out⟩) hHeld ?_ ?_
  rotate_left
  · simp only [Act.put, List.setIfInBounds_toArray, List.set_cons_zero, List.set_cons_succ]
    rfl
  refine take_ (i := 4) (N := some 50) (v := .bool true) (a' := ?_) #[true, true, true, true, true, false, false, false, false, false, false, false, false, false, false, false, false, false, false, false, false, false, false, false, false, false, false, false, false, false, false, false, false, false, false, false, false, false, false, false, false, false, false, false, false, false] rfl rfl (by kernel_rfl) (fun _ _ _ h => h) (Or.inl ⟨by rfl, fun w' h => by have heq := HEx.out; go_simp⟩) hHeld ?_ ?_
  rotate_left
  · simp only [Act.put, List.setIfInBounds_toArray, List.set_cons_zero, List.set_cons_succ]
    rfl
  refine pure_ (i := 5) (N := some 51) (v := ?_) (a' := ?_) #[true, true, true, true, true, true, false, false, false, false, false, false, false, false, false, false, false, false, false, false, false, false, false, false, false, false, false, false, false, false, false, false, false, false, false, false, false, false, false, false, false, false, false, false, false, false] rfl rfl (by kernel_rfl) (fun _ _ _ h => h) (Or.inl ⟨by rfl, ?_⟩) ?_ ?_
  rotate_left
  · intro w_
    go_simp
    try with_reducible rfl
  rotate_left
  · simp only [Act.put, List.setIfInBounds_toArray, List.set_cons_zero, List.set_cons_succ]
    rfl
  refine pure_ (i := 6) (N := some 52) (v := ?_) (a' := ?_) #[true, true, true, true, true, true, true, false, false, false, false, false, false, false, false, false, false, false, false, false, false, false, false, false, false, false, false, false, false, false, false, false, false, false, false, false, false, false, false, false, false, false, false, false, false, false] rfl rfl (by kernel_rfl) (fun _ _ _ h => h) (Or.inl ⟨by rfl, ?_⟩) ?_ ?_
  rotate_left
  · intro w_
    go_simp
    try with_reducible rfl
  rotate_left
  · simp only [Act.put, List.setIfInBounds_toArray, List.set_cons_zero, List.set_cons_succ]
    rfl
  refine take_ (i := 7) (N := some 53) (v := .agg (vec a)) (a' := ?_) #[true, true, true, true, true, true, true, true, false, false, false, false, false, false, false, false, false, false, false, false, false, false, false, false, false, false, false, false, false, false, false, false, false, false, false, false, false, false, false, false, false, false, false, false, false, false] rfl rfl (by kernel_rfl) (fun _ _ _ h => h) (Or.inl ⟨by rfl, fun w' h => run_load_row 55 _ rfl w.heap.size rfl 55 _ _ _ (h.held.get 5 rfl) Try.underlying55 rfl Sa.out⟩) hHeld ?_ ?_
  rotate_left
  · simp only [Act.put, List.setIfInBounds_toArray, List.set_cons_zero, List.set_cons_succ]
    rfl
  refine take_ (i := 9) (N := some 55) (v := .agg (vec a)) (a' := ?_) #[true, true, true, true, true, true, true, true, false, true, false, false, false, false, false, false, false, false, false, false, false, false, false, false, false, false, false, false, false, false, false, false, false, false, false, false, false, false, false, false, false, false, false, false, false, false] rfl rfl (by kernel_rfl) (fun _ _ _ h => h) (Or.inl ⟨by rfl, fun w' h => run_load_row 55 _ rfl w.heap.size rfl 55 _ _ _ (h.held.get 5 rfl) Try.underlying55 rfl Sa.out⟩) hHeld ?_ ?_
  rotate_left
  · simp only [Act.put, List.setIfInBounds_toArray, List.set_cons_zero, List.set_cons_succ]
    rfl
  refine take_ (i := 12) (N := some 58) (v := .agg (vec a)) (a' := ?_) #[true, true, true, true, true, true, true, true, false, true, false, false, true, false, false, false, false, false, false, false, false, false, false, false, false, false, false, false, false, false, false, false, false, false, false, false, false, false, false, false, false, false, false, false, false, false] rfl rfl (by kernel_rfl) (fun _ _ _ h => h) (Or.inl ⟨by rfl, fun w' h => run_load_row 55 _ rfl w.heap.size rfl 55 _ _ _ (h.held.get 5 rfl) Try.underlying55 rfl Sa.out⟩) hHeld ?_ ?_
  rotate_left
  · simp only [Act.put, List.setIfInBounds_toArray, List.set_cons_zero, List.set_cons_succ]
    rfl
  refine one_ (i := 8) (N := some 54) #[true, true, true, true, true, true, true, true, true, true, false, false, true, false, false, false, false, false, false, false, false, false, false, false, false, false, false, false, false, false, false, false, false, false, false, false, false, false, false, false, false, false, false, false, false, false] rfl rfl (by kernel_rfl) (by decide) (fun K hK => ?_)
  refine goes_ Try.func30 (by kernel_rfl) rfl #[.agg (vec a)] (by rfl) rfl rfl (by (try simp only [List.map_toArray, List.map_cons, List.map_nil]); first | done | rfl) ?_
  (with_reducible refine (MA.out _).mono ?_)
  rintro e wr1 ⟨rfl, hr1⟩
  refine ⟨_, rfl, ?_⟩
  refine hK.out _ _ (hHeld.call hr1) (fun hHeld => ?_)
  clear hK K
  refine norm_ (a' := ?_) ?_ ?_
  rotate_left
  · show Act.put _ (some 54) _ = _
    simp only [Act.put, List.setIfInBounds_toArray, List.set_cons_zero, List.set_cons_succ]
    rfl
  refine one_ (i := 10) (N := some 56) #[true, true, true, true, true, true, true, true, true, true, true, false, true, false, false, false, false, false, false, false, false, false, false, false, false, false, false, false, false, false, false, false, false, false, false, false, false, false, false, false, false, false, false, false, false, false] rfl rfl (by kernel_rfl) (by decide) (fun K hK => ?_)
  refine goes_ Try.func30 (by kernel_rfl) rfl #[.agg (vec a)] (by rfl) rfl rfl (by (try simp only [List.map_toArray, List.map_cons, List.map_nil]); first | done | rfl) ?_
  (with_reducible refine (MA.out _).mono ?_)
  rintro e wr2 ⟨rfl, hr2⟩
  refine ⟨_, rfl, ?_⟩
  refine hK.out _ _ (hHeld.call hr2) (fun hHeld => ?_)
  clear hK K
  refine norm_ (a' := ?_) ?_ ?_
  rotate_left
  · show Act.put _ (some 56) _ = _
    simp only [Act.put, List.setIfInBounds_toArray, List.set_cons_zero, List.set_cons_succ]
    rfl
  refine one_ (i := 11) (N := some 57) #[true, true, true, true, true, true, true, true, true, true, true, true, true, false, false, false, false, false, false, false, false, false, false, false, false, false, false, false, false, false, false, false, false, false, false, false, false, false, false, false, false, false, false, false, false, false] rfl rfl (by kernel_rfl) (by decide) (fun K hK => ?_)
  refine goes_ Try.func29 (by kernel_rfl) rfl #[.agg (vec a), .agg (vec a)] (by rfl) rfl rfl (by (try simp only [List.map_toArray, List.map_cons, List.map_nil]); first | done | rfl) ?_
  (with_reducible refine (GA.out _).mono ?_)
  rintro e wr3 ⟨rfl, hr3⟩
  refine ⟨_, rfl, ?_⟩
  refine hK.out _ _ (hHeld.call hr3) (fun hHeld => ?_)
  clear hK K
  refine norm_ (a' := ?_) ?_ ?_
  rotate_left
  · show Act.put _ (some 57) _ = _
    simp only [Act.put, List.setIfInBounds_toArray, List.set_cons_zero, List.set_cons_succ]
    rfl
  refine one_ (i := 13) (N := some 59) #[true, true, true, true, true, true, true, true, true, true, true, true, true, true, false, false, false, false, false, false, false, false, false, false, false, false, false, false, false, false, false, false, false, false, false, false, false, false, false, false, false, false, false, false, false, false] rfl rfl (by kernel_rfl) (by decide) (fun K hK => ?_)
  refine goes_ Try.func30 (by kernel_rfl) rfl #[.agg (vec a)] (by rfl) rfl rfl (by (try simp only [List.map_toArray, List.map_cons, List.map_nil]); first | done | rfl) ?_
  (with_reducible refine (MA.out _).mono ?_)
  rintro e wr4 ⟨rfl, hr4⟩
  refine ⟨_, rfl, ?_⟩
  refine hK.out _ _ (hHeld.call hr4) (fun hHeld => ?_)
  clear hK K
  refine norm_ (a' := ?_) ?_ ?_
  rotate_left
  · show Act.put _ (some 59) _ = _
    simp only [Act.put, List.setIfInBounds_toArray, List.set_cons_zero, List.set_cons_succ]
    rfl
  refine take_ (i := 14) (N := some 60) (v := .bool true) (a' := ?_) #[true, true, true, true, true, true, true, true, true, true, true, true, true, true, true, false, false, false, false, false, false, false, false, false, false, false, false, false, false, false, false, false, false, false, false, false, false, false, false, false, false, false, false, false, false, false] rfl rfl (by kernel_rfl) (fun _ _ _ h => h) (Or.inl ⟨by rfl, fun w' h => by have heq := HEa.out; go_simp⟩) hHeld ?_ ?_
  rotate_left
  · simp only [Act.put, List.setIfInBounds_toArray, List.set_cons_zero, List.set_cons_succ]
    rfl
  refine pure_ (i := 15) (N := some 61) (v := ?_) (a' := ?_) #[true, true, true, true, true, true, true, true, true, true, true, true, true, true, true, true, false, false, false, false, false, false, false, false, false, false, false, false, false, false, false, false, false, false, false, false, false, false, false, false, false, false, false, false, false, false] rfl rfl (by kernel_rfl) (fun _ _ _ h => h) (Or.inl ⟨by rfl, ?_⟩) ?_ ?_
  rotate_left
  · intro w_
    go_simp
    try with_reducible rfl
  rotate_left
  · simp only [Act.put, List.setIfInBounds_toArray, List.set_cons_zero, List.set_cons_succ]
    rfl
  refine pure_ (i := 16) (N := some 62) (v := ?_) (a' := ?_) #[true, true, true, true, true, true, true, true, true, true, true, true, true, true, true, true, true, false, false, false, false, false, false, false, false, false, false, false, false, false, false, false, false, false, false, false, false, false, false, false, false, false, false, false, false, false] rfl rfl (by kernel_rfl) (fun _ _ _ h => h) (Or.inl ⟨by rfl, ?_⟩) ?_ ?_
  rotate_left
  · intro w_
    go_simp
    try with_reducible rfl
  rotate_left
  · simp only [Act.put, List.setIfInBounds_toArray, List.set_cons_zero, List.set_cons_succ]
    rfl
  refine pure_ (i := 17) (N := some 63) (v := ?_) (a' := ?_) #[true, true, true, true, true, true, true, true, true, true, true, true, true, true, true, true, true, true, false, false, false, false, false, false, false, false, false, false, false, false, false, false, false, false, false, false, false, false, false, false, false, false, false, false, false, false] rfl rfl (by kernel_rfl) (fun _ _ _ h => h) (Or.inl ⟨by rfl, ?_⟩) ?_ ?_
  rotate_left
  · intro w_
    go_simp
    try with_reducible rfl
  rotate_left
  · simp only [Act.put, List.setIfInBounds_toArray, List.set_cons_zero, List.set_cons_succ]
    rfl
  refine take_ (i := 19) (N := some 65) (v := .agg (vec o)) (a' := ?_) #[true, true, true, true, true, true, true, true, true, true, true, true, true, true, true, true, true, true, false, true, false, false, false, false, false, false, false, false, false, false, false, false, false, false, false, false, false, false, false, false, false, false, false, false, false, false] rfl rfl (by kernel_rfl) (fun _ _ _ h => h) (Or.inl ⟨by rfl, fun w' h => run_load_row 46 _ rfl bo rfl 46 _ _ _ (h.held.get 0 rfl) Try.underlying46 rfl So.out⟩) hHeld ?_ ?_
  rotate_left
  · simp only [Act.put, List.setIfInBounds_toArray, List.set_cons_zero, List.set_cons_succ]
    rfl
  refine one_ (i := 18) (N := some 64) #[true, true, true, true, true, true, true, true, true, true, true, true, true, true, true, true, true, true, true, true, false, false, false, false, false, false, false, false, false, false, false, false, false, false, false, false, false, false, false, false, false, false, false, false, false, false] rfl rfl (by kernel_rfl) (by decide) (fun K hK => ?_)
  refine goes_ Try.func31 (by kernel_rfl) rfl #[.pointer (some ⟨bm, 0, none⟩), .int .i64 0] (by rfl) rfl rfl (by (try simp only [List.map_toArray, List.map_cons, List.map_nil]); first | done | rfl) ?_
  (with_reducible refine (HR1.out _ hHeld).mono ?_)
  rintro e wr5 ⟨rfl, hr5⟩
  refine ⟨_, rfl, ?_⟩
  refine hK.out _ _ (hHeld.call hr5) (fun hHeld => ?_)
  clear hK K
  refine norm_ (a' := ?_) ?_ ?_
  rotate_left
  · show Act.put _ (some 64) _ = _
    simp only [Act.put, List.setIfInBounds_toArray, List.set_cons_zero, List.set_cons_succ]
    rfl
  refine take_ (i := 20) (N := some 66) (v := .bool true) (a' := ?_) #[true, true, true, true, true, true, true, true, true, true, true, true, true, true, true, true, true, true, true, true, true, false, false, false, false, false, false, false, false, false, false, false, false, false, false, false, false, false, false, false, false, false, false, false, false, false] rfl rfl (by kernel_rfl) (fun _ _ _ h => h) (Or.inl ⟨by rfl, fun w' h => by have heq := HEo.out; go_simp⟩) hHeld ?_ ?_
  rotate_left
  · simp only [Act.put, List.setIfInBounds_toArray, List.set_cons_zero, List.set_cons_succ]
    rfl
  refine pure_ (i := 21) (N := some 67) (v := ?_) (a' := ?_) #[true, true, true, true, true, true, true, true, true, true, true, true, true, true, true, true, true, true, true, true, true, true, false, false, false, false, false, false, false, false, false, false, false, false, false, false, false, false, false, false, false, false, false, false, false, false] rfl rfl (by kernel_rfl) (fun _ _ _ h => h) (Or.inl ⟨by rfl, ?_⟩) ?_ ?_
  rotate_left
  · intro w_
    go_simp
    try with_reducible rfl
  rotate_left
  · simp only [Act.put, List.setIfInBounds_toArray, List.set_cons_zero, List.set_cons_succ]
    rfl
  refine pure_ (i := 22) (N := some 68) (v := ?_) (a' := ?_) #[true, true, true, true, true, true, true, true, true, true, true, true, true, true, true, true, true, true, true, true, true, true, true, false, false, false, false, false, false, false, false, false, false, false, false, false, false, false, false, false, false, false, false, false, false, false] rfl rfl (by kernel_rfl) (fun _ _ _ h => h) (Or.inl ⟨by rfl, ?_⟩) ?_ ?_
  rotate_left
  · intro w_
    go_simp
    try with_reducible rfl
  rotate_left
  · simp only [Act.put, List.setIfInBounds_toArray, List.set_cons_zero, List.set_cons_succ]
    rfl
  refine pure_ (i := 23) (N := some 69) (v := ?_) (a' := ?_) #[true, true, true, true, true, true, true, true, true, true, true, true, true, true, true, true, true, true, true, true, true, true, true, true, false, false, false, false, false, false, false, false, false, false, false, false, false, false, false, false, false, false, false, false, false, false] rfl rfl (by kernel_rfl) (fun _ _ _ h => h) (Or.inl ⟨by rfl, ?_⟩) ?_ ?_
  rotate_left
  · intro w_
    go_simp
    try with_reducible rfl
  rotate_left
  · simp only [Act.put, List.setIfInBounds_toArray, List.set_cons_zero, List.set_cons_succ]
    rfl
  refine take_ (i := 25) (N := some 71) (v := .agg (vec zero9)) (a' := ?_) #[true, true, true, true, true, true, true, true, true, true, true, true, true, true, true, true, true, true, true, true, true, true, true, true, false, true, false, false, false, false, false, false, false, false, false, false, false, false, false, false, false, false, false, false, false, false] rfl rfl (by kernel_rfl) (fun _ _ _ h => h) (Or.inl ⟨by rfl, fun w' h => by have hb := build_none w'; unfold execOp; simp only [Act.eval]; simp [hb]⟩) hHeld ?_ ?_
  rotate_left
  · simp only [Act.put, List.setIfInBounds_toArray, List.set_cons_zero, List.set_cons_succ]
    rfl
  refine one_ (i := 24) (N := some 70) #[true, true, true, true, true, true, true, true, true, true, true, true, true, true, true, true, true, true, true, true, true, true, true, true, true, true, false, false, false, false, false, false, false, false, false, false, false, false, false, false, false, false, false, false, false, false] rfl rfl (by kernel_rfl) (by decide) (fun K hK => ?_)
  refine goes_ Try.func31 (by kernel_rfl) rfl #[.pointer (some ⟨bm, 0, none⟩), .int .i64 1] (by rfl) rfl rfl (by (try simp only [List.map_toArray, List.map_cons, List.map_nil]); first | done | rfl) ?_
  (with_reducible refine (HR2.out _ hHeld).mono ?_)
  rintro e wr6 ⟨rfl, hr6⟩
  refine ⟨_, rfl, ?_⟩
  refine hK.out _ _ (hHeld.call hr6) (fun hHeld => ?_)
  clear hK K
  refine norm_ (a' := ?_) ?_ ?_
  rotate_left
  · show Act.put _ (some 70) _ = _
    simp only [Act.put, List.setIfInBounds_toArray, List.set_cons_zero, List.set_cons_succ]
    rfl
  refine take_ (i := 26) (N := some 72) (v := .bool true) (a' := ?_) #[true, true, true, true, true, true, true, true, true, true, true, true, true, true, true, true, true, true, true, true, true, true, true, true, true, true, true, false, false, false, false, false, false, false, false, false, false, false, false, false, false, false, false, false, false, false] rfl rfl (by kernel_rfl) (fun _ _ _ h => h) (Or.inl ⟨by rfl, fun w' h => by have heq := HEz.out; go_simp⟩) hHeld ?_ ?_
  rotate_left
  · simp only [Act.put, List.setIfInBounds_toArray, List.set_cons_zero, List.set_cons_succ]
    rfl
  refine pure_ (i := 27) (N := some 73) (v := ?_) (a' := ?_) #[true, true, true, true, true, true, true, true, true, true, true, true, true, true, true, true, true, true, true, true, true, true, true, true, true, true, true, true, false, false, false, false, false, false, false, false, false, false, false, false, false, false, false, false, false, false] rfl rfl (by kernel_rfl) (fun _ _ _ h => h) (Or.inl ⟨by rfl, ?_⟩) ?_ ?_
  rotate_left
  · intro w_
    go_simp
    try with_reducible rfl
  rotate_left
  · simp only [Act.put, List.setIfInBounds_toArray, List.set_cons_zero, List.set_cons_succ]
    rfl
  refine pure_ (i := 28) (N := some 74) (v := ?_) (a' := ?_) #[true, true, true, true, true, true, true, true, true, true, true, true, true, true, true, true, true, true, true, true, true, true, true, true, true, true, true, true, true, false, false, false, false, false, false, false, false, false, false, false, false, false, false, false, false, false] rfl rfl (by kernel_rfl) (fun _ _ _ h => h) (Or.inl ⟨by rfl, ?_⟩) ?_ ?_
  rotate_left
  · intro w_
    go_simp
    try with_reducible rfl
  rotate_left
  · simp only [Act.put, List.setIfInBounds_toArray, List.set_cons_zero, List.set_cons_succ]
    rfl
  refine pure_ (i := 29) (N := some 75) (v := ?_) (a' := ?_) #[true, true, true, true, true, true, true, true, true, true, true, true, true, true, true, true, true, true, true, true, true, true, true, true, true, true, true, true, true, true, false, false, false, false, false, false, false, false, false, false, false, false, false, false, false, false] rfl rfl (by kernel_rfl) (fun _ _ _ h => h) (Or.inl ⟨by rfl, ?_⟩) ?_ ?_
  rotate_left
  · intro w_
    go_simp
    try with_reducible rfl
  rotate_left
  · simp only [Act.put, List.setIfInBounds_toArray, List.set_cons_zero, List.set_cons_succ]
    rfl
  refine pure_ (i := 30) (N := some 76) (v := ?_) (a' := ?_) #[true, true, true, true, true, true, true, true, true, true, true, true, true, true, true, true, true, true, true, true, true, true, true, true, true, true, true, true, true, true, true, false, false, false, false, false, false, false, false, false, false, false, false, false, false, false] rfl rfl (by kernel_rfl) (fun _ _ _ h => h) (Or.inl ⟨by rfl, ?_⟩) ?_ ?_
  rotate_left
  · intro w_
    go_simp
    try with_reducible rfl
  rotate_left
  · simp only [Act.put, List.setIfInBounds_toArray, List.set_cons_zero, List.set_cons_succ]
    rfl
  refine pure_ (i := 31) (N := some 77) (v := ?_) (a' := ?_) #[true, true, true, true, true, true, true, true, true, true, true, true, true, true, true, true, true, true, true, true, true, true, true, true, true, true, true, true, true, true, true, true, false, false, false, false, false, false, false, false, false, false, false, false, false, false] rfl rfl (by kernel_rfl) (fun _ _ _ h => h) (Or.inl ⟨by rfl, ?_⟩) ?_ ?_
  rotate_left
  · intro w_
    go_simp
    try with_reducible rfl
  rotate_left
  · simp only [Act.put, List.setIfInBounds_toArray, List.set_cons_zero, List.set_cons_succ]
    rfl
  refine pure_ (i := 32) (N := some 78) (v := ?_) (a' := ?_) #[true, true, true, true, true, true, true, true, true, true, true, true, true, true, true, true, true, true, true, true, true, true, true, true, true, true, true, true, true, true, true, true, true, false, false, false, false, false, false, false, false, false, false, false, false, false] rfl rfl (by kernel_rfl) (fun _ _ _ h => h) (Or.inl ⟨by rfl, ?_⟩) ?_ ?_
  rotate_left
  · intro w_
    go_simp
    try with_reducible rfl
  rotate_left
  · simp only [Act.put, List.setIfInBounds_toArray, List.set_cons_zero, List.set_cons_succ]
    rfl
  refine pure_ (i := 33) (N := some 79) (v := ?_) (a' := ?_) #[true, true, true, true, true, true, true, true, true, true, true, true, true, true, true, true, true, true, true, true, true, true, true, true, true, true, true, true, true, true, true, true, true, true, false, false, false, false, false, false, false, false, false, false, false, false] rfl rfl (by kernel_rfl) (fun _ _ _ h => h) (Or.inl ⟨by rfl, ?_⟩) ?_ ?_
  rotate_left
  · intro w_
    go_simp
    try with_reducible rfl
  rotate_left
  · simp only [Act.put, List.setIfInBounds_toArray, List.set_cons_zero, List.set_cons_succ]
    rfl
  refine pure_ (i := 34) (N := some 80) (v := ?_) (a' := ?_) #[true, true, true, true, true, true, true, true, true, true, true, true, true, true, true, true, true, true, true, true, true, true, true, true, true, true, true, true, true, true, true, true, true, true, true, false, false, false, false, false, false, false, false, false, false, false] rfl rfl (by kernel_rfl) (fun _ _ _ h => h) (Or.inl ⟨by rfl, ?_⟩) ?_ ?_
  rotate_left
  · intro w_
    go_simp
    try with_reducible rfl
  rotate_left
  · simp only [Act.put, List.setIfInBounds_toArray, List.set_cons_zero, List.set_cons_succ]
    rfl
  refine pure_ (i := 35) (N := some 81) (v := ?_) (a' := ?_) #[true, true, true, true, true, true, true, true, true, true, true, true, true, true, true, true, true, true, true, true, true, true, true, true, true, true, true, true, true, true, true, true, true, true, true, true, false, false, false, false, false, false, false, false, false, false] rfl rfl (by kernel_rfl) (fun _ _ _ h => h) (Or.inl ⟨by rfl, ?_⟩) ?_ ?_
  rotate_left
  · intro w_
    go_simp
    try with_reducible rfl
  rotate_left
  · simp only [Act.put, List.setIfInBounds_toArray, List.set_cons_zero, List.set_cons_succ]
    rfl
  refine take_ (i := 36) (N := some 82) (v := .agg (vec o)) (a' := ?_) #[true, true, true, true, true, true, true, true, true, true, true, true, true, true, true, true, true, true, true, true, true, true, true, true, true, true, true, true, true, true, true, true, true, true, true, true, true, false, false, false, false, false, false, false, false, false] rfl rfl (by kernel_rfl) (fun _ _ _ h => h) (Or.inl ⟨by rfl, fun w' h => run_load_row 46 _ rfl bo rfl 46 _ _ _ (h.held.get 0 rfl) Try.underlying46 rfl So.out⟩) hHeld ?_ ?_
  rotate_left
  · simp only [Act.put, List.setIfInBounds_toArray, List.set_cons_zero, List.set_cons_succ]
    rfl
  refine take_ (i := 37) (N := some 83) (v := .agg (vec a)) (a' := ?_) #[true, true, true, true, true, true, true, true, true, true, true, true, true, true, true, true, true, true, true, true, true, true, true, true, true, true, true, true, true, true, true, true, true, true, true, true, true, true, false, false, false, false, false, false, false, false] rfl rfl (by kernel_rfl) (fun _ _ _ h => h) (Or.inl ⟨by rfl, fun w' h => run_load_row 55 _ rfl w.heap.size rfl 55 _ _ _ (h.held.get 5 rfl) Try.underlying55 rfl Sa.out⟩) hHeld ?_ ?_
  rotate_left
  · simp only [Act.put, List.setIfInBounds_toArray, List.set_cons_zero, List.set_cons_succ]
    rfl
  refine take_ (i := 39) (N := some 85) (v := .agg (vec b)) (a' := ?_) #[true, true, true, true, true, true, true, true, true, true, true, true, true, true, true, true, true, true, true, true, true, true, true, true, true, true, true, true, true, true, true, true, true, true, true, true, true, true, false, true, false, false, false, false, false, false] rfl rfl (by kernel_rfl) (fun _ _ _ h => h) (Or.inl ⟨by rfl, fun w' h => run_load_row 55 _ rfl (w.heap.size + 1) rfl 55 _ _ _ (h.held.get 4 rfl) Try.underlying55 rfl Sb.out⟩) hHeld ?_ ?_
  rotate_left
  · simp only [Act.put, List.setIfInBounds_toArray, List.set_cons_zero, List.set_cons_succ]
    rfl
  refine one_ (i := 38) (N := some 84) #[true, true, true, true, true, true, true, true, true, true, true, true, true, true, true, true, true, true, true, true, true, true, true, true, true, true, true, true, true, true, true, true, true, true, true, true, true, true, true, true, false, false, false, false, false, false] rfl rfl (by kernel_rfl) (by decide) (fun K hK => ?_)
  refine goes_ Try.func30 (by kernel_rfl) rfl #[.agg (vec a)] (by rfl) rfl rfl (by (try simp only [List.map_toArray, List.map_cons, List.map_nil]); first | done | rfl) ?_
  (with_reducible refine (MA.out _).mono ?_)
  rintro e wr7 ⟨rfl, hr7⟩
  refine ⟨_, rfl, ?_⟩
  refine hK.out _ _ (hHeld.call hr7) (fun hHeld => ?_)
  clear hK K
  refine norm_ (a' := ?_) ?_ ?_
  rotate_left
  · show Act.put _ (some 84) _ = _
    simp only [Act.put, List.setIfInBounds_toArray, List.set_cons_zero, List.set_cons_succ]
    rfl
  refine one_ (i := 40) (N := some 86) #[true, true, true, true, true, true, true, true, true, true, true, true, true, true, true, true, true, true, true, true, true, true, true, true, true, true, true, true, true, true, true, true, true, true, true, true, true, true, true, true, true, false, false, false, false, false] rfl rfl (by kernel_rfl) (by decide) (fun K hK => ?_)
  refine goes_ Try.func30 (by kernel_rfl) rfl #[.agg (vec b)] (by rfl) rfl rfl (by (try simp only [List.map_toArray, List.map_cons, List.map_nil]); first | done | rfl) ?_
  (with_reducible refine (MB.out _).mono ?_)
  rintro e wr8 ⟨rfl, hr8⟩
  refine ⟨_, rfl, ?_⟩
  refine hK.out _ _ (hHeld.call hr8) (fun hHeld => ?_)
  clear hK K
  refine norm_ (a' := ?_) ?_ ?_
  rotate_left
  · show Act.put _ (some 86) _ = _
    simp only [Act.put, List.setIfInBounds_toArray, List.set_cons_zero, List.set_cons_succ]
    rfl
  refine one_ (i := 41) (N := some 87) #[true, true, true, true, true, true, true, true, true, true, true, true, true, true, true, true, true, true, true, true, true, true, true, true, true, true, true, true, true, true, true, true, true, true, true, true, true, true, true, true, true, true, false, false, false, false] rfl rfl (by kernel_rfl) (by decide) (fun K hK => ?_)
  refine goes_ Try.func29 (by kernel_rfl) rfl #[.agg (vec a), .agg (vec b)] (by rfl) rfl rfl (by (try simp only [List.map_toArray, List.map_cons, List.map_nil]); first | done | rfl) ?_
  (with_reducible refine (G1.out _).mono ?_)
  rintro e wr9 ⟨rfl, hr9⟩
  refine ⟨_, rfl, ?_⟩
  refine hK.out _ _ (hHeld.call hr9) (fun hHeld => ?_)
  clear hK K
  refine norm_ (a' := ?_) ?_ ?_
  rotate_left
  · show Act.put _ (some 87) _ = _
    simp only [Act.put, List.setIfInBounds_toArray, List.set_cons_zero, List.set_cons_succ]
    rfl
  refine take_ (i := 42) (N := some 88) (v := .bool true) (a' := ?_) #[true, true, true, true, true, true, true, true, true, true, true, true, true, true, true, true, true, true, true, true, true, true, true, true, true, true, true, true, true, true, true, true, true, true, true, true, true, true, true, true, true, true, true, false, false, false] rfl rfl (by kernel_rfl) (fun _ _ _ h => h) (Or.inl ⟨by rfl, fun w' h => by have heq := HEo.out; go_simp⟩) hHeld ?_ ?_
  rotate_left
  · simp only [Act.put, List.setIfInBounds_toArray, List.set_cons_zero, List.set_cons_succ]
    rfl
  refine pure_ (i := 43) (N := some 89) (v := ?_) (a' := ?_) #[true, true, true, true, true, true, true, true, true, true, true, true, true, true, true, true, true, true, true, true, true, true, true, true, true, true, true, true, true, true, true, true, true, true, true, true, true, true, true, true, true, true, true, true, false, false] rfl rfl (by kernel_rfl) (fun _ _ _ h => h) (Or.inl ⟨by rfl, ?_⟩) ?_ ?_
  rotate_left
  · intro w_
    go_simp
    try with_reducible rfl
  rotate_left
  · simp only [Act.put, List.setIfInBounds_toArray, List.set_cons_zero, List.set_cons_succ]
    rfl
  refine pure_ (i := 44) (N := some 90) (v := ?_) (a' := ?_) #[true, true, true, true, true, true, true, true, true, true, true, true, true, true, true, true, true, true, true, true, true, true, true, true, true, true, true, true, true, true, true, true, true, true, true, true, true, true, true, true, true, true, true, true, true, false] rfl rfl (by kernel_rfl) (fun _ _ _ h => h) (Or.inl ⟨by rfl, ?_⟩) ?_ ?_
  rotate_left
  · intro w_
    go_simp
    try with_reducible rfl
  rotate_left
  · simp only [Act.put, List.setIfInBounds_toArray, List.set_cons_zero, List.set_cons_succ]
    rfl
  refine pure_ (i := 45) (N := some 6) (v := ?_) (a' := ?_) #[true, true, true, true, true, true, true, true, true, true, true, true, true, true, true, true, true, true, true, true, true, true, true, true, true, true, true, true, true, true, true, true, true, true, true, true, true, true, true, true, true, true, true, true, true, true] rfl rfl (by kernel_rfl) (fun _ _ _ h => h) (Or.inl ⟨by rfl, ?_⟩) ?_ ?_
  rotate_left
  · intro w_
    go_simp
    try with_reducible rfl
  rotate_left
  · simp only [Act.put, List.setIfInBounds_toArray, List.set_cons_zero, List.set_cons_succ]
    rfl
  refine done_ (by kernel_rfl) ?_
  go_wp2
  go_ret
  exact ⟨rfl, hHeld.held.2⟩

set_option maxHeartbeats 8000000 in
set_option maxRecDepth 100000 in
theorem arm10 (a b c : List Int) (ha : a.length = 9) (hb : b.length = 9) (hc : c.length = 9) (pa : mayV a = true) (pb : mayV b = false) (w : World) :
    Calls Try.prog 7 #[.agg (vec a), .agg (vec b), .agg (vec c)] w fun e w' => e = .returned (.bool true) ∧ Below w.heap.size w w' := by
  have HS := Hd.mk mat_shown
  have H0 := Hd.mk (Holds.start3 w (.cells (vec a) 55) (.cells (vec b) 55) (.cells (vec c) 55))
  have MA := Hd.mk (row_made a ha)
  have MB := Hd.mk (row_made b hb)
  have MC := Hd.mk (row_made c hc)
  have j9 := join9 ha hb
  have G1 := Hd.mk (row_Merge a b ha hb)
  have G2 := Hd.mk (row_Merge (joinL a b) c j9 hc)
  have G3 := Hd.mk (row_Merge b a hb ha)
  have G4 := Hd.mk (row_Merge c (joinL b a) hc (join9 hb ha))
  rw [← merge3] at G4
  have GA := Hd.mk (row_Merge a a ha ha)
  rw [joinS] at GA
  have x9 := Hd.mk (join9 j9 hc)
  have Sa := Hd.mk (show (Try.prog.info? 55).map (·.size) = some (vec a).size by rw [vec_size, ha]; exact size_rrow)
  have Sb := Hd.mk (show (Try.prog.info? 55).map (·.size) = some (vec b).size by rw [vec_size, hb]; exact size_rrow)
  have Sc := Hd.mk (show (Try.prog.info? 55).map (·.size) = some (vec c).size by rw [vec_size, hc]; exact size_rrow)
  obtain ⟨l1, l2, l3, e1, e2, e3⟩ := merges_law ha hb
  have HN := Hd.mk (mat_New 2 (by omega) (by omega))
  have HT1 := Hd.mk (fun (w' : World) (m : Nat) (h : MatIs m 2 zero72 w') => mat_TellG h rfl (by omega) 0 ha)
  have HT2 := Hd.mk (fun (w' : World) (m : Nat) (h : MatIs m 2 (told 2 zero72 0 a) w') => mat_TellG h l1 (by omega) 0 hb)
  have HT3 := Hd.mk (fun (w' : World) (m : Nat) (h : MatIs m 2 (told 2 (told 2 zero72 0 a) 0 b) w') => mat_TellG h l2 (by omega) 0 ha)
  have HR0 := Hd.mk (fun (w' : World) (m : Nat) (h : MatIs m 2 (told 2 (told 2 zero72 0 a) 0 b) w') => mat_Row h l2 0 (by omega) (by omega))
  have HR1 := Hd.mk (fun (w' : World) (m : Nat) (h : MatIs m 2 (told 2 (told 2 (told 2 zero72 0 a) 0 b) 0 a) w') => mat_Row h l3 0 (by omega) (by omega))
  have HR2 := Hd.mk (fun (w' : World) (m : Nat) (h : MatIs m 2 (told 2 (told 2 (told 2 zero72 0 a) 0 b) 0 a) w') => mat_Row h l3 1 (by omega) (by omega))
  rw [e1] at HR1
  rw [e2] at HR2
  rw [takes0, pa] at HT1 HT3
  rw [takes0, pb] at HT2
  simp only [show ((0 : Nat) : Int) = 0 from rfl, show ((1 : Nat) : Int) = 1 from rfl] at HR0 HR1 HR2
  have o9 := Hd.mk (rowM_len l2 (k := 0) (by omega))
  have HEa := Hd.mk (fun w => eqRow 9997 ha ha w)
  have HEx := Hd.mk (fun w => eqRow 9997 x9.out x9.out w)
  have HEo := Hd.mk (fun w => eqRow 9997 o9.out o9.out w)
  have HEz := Hd.mk (fun w => eqRow 9997 (a := zero9) (b := zero9) rfl rfl w)
  rw [eqV_refl] at HEa HEx HEo HEz
  have e3' : True := trivial
  have Sx := Hd.mk (show (Try.prog.info? 46).map (·.size) = some (vec (joinL (joinL a b) c)).size by rw [vec_size, x9.out]; exact size_row)
  have So := Hd.mk (show (Try.prog.info? 46).map (·.size) = some (vec (rowM (told 2 (told 2 zero72 0 a) 0 b) 0)).size by rw [vec_size, o9.out]; exact size_row)
  have Zx := Hd.mk (show (vec zero9).size = (vec (joinL (joinL a b) c)).size by rw [vec_size, vec_size, x9.out]; rfl)
  have Zo := Hd.mk (show (vec zero9).size = (vec (rowM (told 2 (told 2 zero72 0 a) 0 b) 0)).size by rw [vec_size, vec_size, o9.out]; rfl)
  clear l1 l2 l3 e1 e2 e3 j9 x9 o9 ha hb hc pa pb
  generalize told 2 (told 2 (told 2 zero72 0 a) 0 b) 0 a = L3 at *
  skip
  generalize rowM (told 2 (told 2 zero72 0 a) 0 b) 0 = o at *
  clear e3'
  generalize told 2 (told 2 zero72 0 a) 0 b = L2 at *
  generalize told 2 zero72 0 a = L1 at *
  generalize joinL (joinL a b) c = x at *
  generalize joinL a b = j1 at *
  generalize joinL b a = j2 at *
  go_enter Try.func7, Try.ntmps7
  go_upto_region 1 with (fail)
  generalize ((w.alloc (.cells (vec a) 55)).alloc (.cells (vec b) 55)).alloc (.cells (vec c) 55) = W at *
  go_wp2_with fail
  refine (HS.out _).mono ?_; rintro e w1 ⟨rfl, h1⟩
  have H1 := Hd.mk (H0.out.call h1)
  clear H0 h1 HS
  go_upto_region 2 with (fail)
  refine start_ (n := 10) (S := fun W_ => Holds w [(w.heap.size + 1 + 1, .cells (vec c) 55 (0, 0)), (w.heap.size + 1, .cells (vec b) 55 (0, 0)), (w.heap.size, .cells (vec a) 55 (0, 0))] W_) (ds := [9]) #[false, false, false, false, false, false, false, false, false, false] (by kernel_rfl) rfl rfl (H1.out.drew) (fun hHeld => ?_)
  refine take_ (i := 0) (N := some 15) (v := .agg (vec a)) (a' := ?_) #[true, false, false, false, false, false, false, false, false, false] rfl rfl (by kernel_rfl) (fun _ _ _ h => h) (Or.inl ⟨by rfl, fun w' h => run_load_row 55 _ rfl w.heap.size rfl 55 _ _ _ (h.get 2 rfl) Try.underlying55 rfl Sa.out⟩) hHeld ?_ ?_
  rotate_left
  · simp only [Act.put, List.setIfInBounds_toArray, List.set_cons_zero, List.set_cons_succ]
    rfl
  refine take_ (i := 2) (N := some 17) (v := .agg (vec b)) (a' := ?_) #[true, false, true, false, false, false, false, false, false, false] rfl rfl (by kernel_rfl) (fun _ _ _ h => h) (Or.inl ⟨by rfl, fun w' h => run_load_row 55 _ rfl (w.heap.size + 1) rfl 55 _ _ _ (h.get 1 rfl) Try.underlying55 rfl Sb.out⟩) hHeld ?_ ?_
  rotate_left
  · simp only [Act.put, List.setIfInBounds_toArray, List.set_cons_zero, List.set_cons_succ]
    rfl
  refine take_ (i := 5) (N := some 20) (v := .agg (vec c)) (a' := ?_) #[true, false, true, false, false, true, false, false, false, false] rfl rfl (by kernel_rfl) (fun _ _ _ h => h) (Or.inl ⟨by rfl, fun w' h => run_load_row 55 _ rfl (w.heap.size + 1 + 1) rfl 55 _ _ _ (h.get 0 rfl) Try.underlying55 rfl Sc.out⟩) hHeld ?_ ?_
  rotate_left
  · simp only [Act.put, List.setIfInBounds_toArray, List.set_cons_zero, List.set_cons_succ]
    rfl
  refine join_ (σ := Nat) 1 #[true, true, true, true, true, true, true, true, true, false] (fun q => [(16, .agg (vec a)), (18, .agg (vec b)), (19, .agg (vec j1)), (21, .agg (vec c)), (22, .agg (vec x)), (8, .pointer (some ⟨q, 0, none⟩))]) (fun q w_ => NewHolds w q (.cells (vec zero9) 46 (0, 0)) ([(w.heap.size + 1 + 1, .cells (vec c) 55 (0, 0)), (w.heap.size + 1, .cells (vec b) 55 (0, 0)), (w.heap.size, .cells (vec a) 55 (0, 0))]) w_) ?_ (fun hcont => ?_)
  rotate_left
  · skip
    refine two_ (i := 1) (j := 8) (Ni := some 16) (Nj := some 8) #[true, true, true, false, false, true, false, false, false, false] #[true, false, true, false, false, true, false, false, true, false] rfl rfl rfl rfl (by kernel_rfl) (by decide) (by decide) (fun K hK => ?_) (fun K hK => ?_)
    · skip
      refine goes_ Try.func30 (by kernel_rfl) rfl #[.agg (vec a)] (by rfl) rfl rfl (by (try simp only [List.map_toArray, List.map_cons, List.map_nil]); first | done | rfl) ?_
      (with_reducible refine (MA.out _).mono ?_)
      rintro e wq1 ⟨rfl, hq1⟩
      refine ⟨_, rfl, ?_⟩
      refine hK.out _ _ (hHeld.call hq1) (fun hHeld => ?_)
      clear hK K
      refine norm_ (a' := ?_) ?_ ?_
      rotate_left
      · show Act.put _ (some 16) _ = _
        simp only [Act.put, List.setIfInBounds_toArray, List.set_cons_zero, List.set_cons_succ]
        rfl
      refine two_ (i := 3) (j := 8) (Ni := some 18) (Nj := some 8) #[true, true, true, true, false, true, false, false, false, false] #[true, true, true, false, false, true, false, false, true, false] rfl rfl rfl rfl (by kernel_rfl) (by decide) (by decide) (fun K hK => ?_) (fun K hK => ?_)
      · skip
        refine goes_ Try.func30 (by kernel_rfl) rfl #[.agg (vec b)] (by rfl) rfl rfl (by (try simp only [List.map_toArray, List.map_cons, List.map_nil]); first | done | rfl) ?_
        (with_reducible refine (MB.out _).mono ?_)
        rintro e wq2 ⟨rfl, hq2⟩
        refine ⟨_, rfl, ?_⟩
        refine hK.out _ _ (hHeld.call hq2) (fun hHeld => ?_)
        clear hK K
        refine norm_ (a' := ?_) ?_ ?_
        rotate_left
        · show Act.put _ (some 18) _ = _
          simp only [Act.put, List.setIfInBounds_toArray, List.set_cons_zero, List.set_cons_succ]
          rfl
        refine two_ (i := 4) (j := 8) (Ni := some 19) (Nj := some 8) #[true, true, true, true, true, true, false, false, false, false] #[true, true, true, true, false, true, false, false, true, false] rfl rfl rfl rfl (by kernel_rfl) (by decide) (by decide) (fun K hK => ?_) (fun K hK => ?_)
        · skip
          refine goes_ Try.func29 (by kernel_rfl) rfl #[.agg (vec a), .agg (vec b)] (by rfl) rfl rfl (by (try simp only [List.map_toArray, List.map_cons, List.map_nil]); first | done | rfl) ?_
          (with_reducible refine (G1.out _).mono ?_)
          rintro e wq3 ⟨rfl, hq3⟩
          refine ⟨_, rfl, ?_⟩
          refine hK.out _ _ (hHeld.call hq3) (fun hHeld => ?_)
          clear hK K
          refine norm_ (a' := ?_) ?_ ?_
          rotate_left
          · show Act.put _ (some 19) _ = _
            simp only [Act.put, List.setIfInBounds_toArray, List.set_cons_zero, List.set_cons_succ]
            rfl
          refine two_ (i := 6) (j := 8) (Ni := some 21) (Nj := some 8) #[true, true, true, true, true, true, true, false, false, false] #[true, true, true, true, true, true, false, false, true, false] rfl rfl rfl rfl (by kernel_rfl) (by decide) (by decide) (fun K hK => ?_) (fun K hK => ?_)
          · skip
            refine goes_ Try.func30 (by kernel_rfl) rfl #[.agg (vec c)] (by rfl) rfl rfl (by (try simp only [List.map_toArray, List.map_cons, List.map_nil]); first | done | rfl) ?_
            (with_reducible refine (MC.out _).mono ?_)
            rintro e wq4 ⟨rfl, hq4⟩
            refine ⟨_, rfl, ?_⟩
            refine hK.out _ _ (hHeld.call hq4) (fun hHeld => ?_)
            clear hK K
            refine norm_ (a' := ?_) ?_ ?_
            rotate_left
            · show Act.put _ (some 21) _ = _
              simp only [Act.put, List.setIfInBounds_toArray, List.set_cons_zero, List.set_cons_succ]
              rfl
            refine two_ (i := 7) (j := 8) (Ni := some 22) (Nj := some 8) #[true, true, true, true, true, true, true, true, false, false] #[true, true, true, true, true, true, true, false, true, false] rfl rfl rfl rfl (by kernel_rfl) (by decide) (by decide) (fun K hK => ?_) (fun K hK => ?_)
            · skip
              refine goes_ Try.func29 (by kernel_rfl) rfl #[.agg (vec j1), .agg (vec c)] (by rfl) rfl rfl (by (try simp only [List.map_toArray, List.map_cons, List.map_nil]); first | done | rfl) ?_
              (with_reducible refine (G2.out _).mono ?_)
              rintro e wq5 ⟨rfl, hq5⟩
              refine ⟨_, rfl, ?_⟩
              refine hK.out _ _ (hHeld.call hq5) (fun hHeld => ?_)
              clear hK K
              refine norm_ (a' := ?_) ?_ ?_
              rotate_left
              · show Act.put _ (some 22) _ = _
                simp only [Act.put, List.setIfInBounds_toArray, List.set_cons_zero, List.set_cons_succ]
                rfl
              refine one_ (i := 8) (N := some 8) #[true, true, true, true, true, true, true, true, true, false] rfl rfl (by kernel_rfl) (by decide) (fun K hK => ?_)
              refine value_ (by rfl) rfl (run_alloc_row rfl) ?_
              have HQ := hHeld.fresh (.cells (vec zero9) 46 (0, 0))
              refine hK.out _ _ HQ.tail (fun hHeld => ?_)
              clear hK K
              refine norm_ (a' := ?_) ?_ ?_
              rotate_left
              · show Act.put _ (some 8) _ = _
                simp only [Act.put, List.setIfInBounds_toArray, List.set_cons_zero, List.set_cons_succ]
                rfl
              have fin := hcont _ _ HQ
              simp only [putAll, Act.put, List.setIfInBounds_toArray, List.set_cons_zero, List.set_cons_succ] at fin
              exact fin
            · skip
              refine value_ (by rfl) rfl (run_alloc_row rfl) ?_
              have HQ := hHeld.fresh (.cells (vec zero9) 46 (0, 0))
              refine hK.out _ _ HQ.tail (fun hHeld => ?_)
              clear hK K
              refine norm_ (a' := ?_) ?_ ?_
              rotate_left
              · show Act.put _ (some 8) _ = _
                simp only [Act.put, List.setIfInBounds_toArray, List.set_cons_zero, List.set_cons_succ]
                rfl
              refine one_ (i := 7) (N := some 22) #[true, true, true, true, true, true, true, true, true, false] rfl rfl (by kernel_rfl) (by decide) (fun K hK => ?_)
              refine goes_ Try.func29 (by kernel_rfl) rfl #[.agg (vec j1), .agg (vec c)] (by rfl) rfl rfl (by (try simp only [List.map_toArray, List.map_cons, List.map_nil]); first | done | rfl) ?_
              (with_reducible refine (G2.out _).mono ?_)
              rintro e wq6 ⟨rfl, hq6⟩
              refine ⟨_, rfl, ?_⟩
              refine hK.out _ _ (hHeld.call hq6) (fun hHeld => ?_)
              clear hK K
              replace HQ := HQ.call hq6
              refine norm_ (a' := ?_) ?_ ?_
              rotate_left
              · show Act.put _ (some 22) _ = _
                simp only [Act.put, List.setIfInBounds_toArray, List.set_cons_zero, List.set_cons_succ]
                rfl
              have fin := hcont _ _ HQ
              simp only [putAll, Act.put, List.setIfInBounds_toArray, List.set_cons_zero, List.set_cons_succ] at fin
              exact fin
          · skip
            refine value_ (by rfl) rfl (run_alloc_row rfl) ?_
            have HQ := hHeld.fresh (.cells (vec zero9) 46 (0, 0))
            refine hK.out _ _ HQ.tail (fun hHeld => ?_)
            clear hK K
            refine norm_ (a' := ?_) ?_ ?_
            rotate_left
            · show Act.put _ (some 8) _ = _
              simp only [Act.put, List.setIfInBounds_toArray, List.set_cons_zero, List.set_cons_succ]
              rfl
            refine one_ (i := 6) (N := some 21) #[true, true, true, true, true, true, true, false, true, false] rfl rfl (by kernel_rfl) (by decide) (fun K hK => ?_)
            refine goes_ Try.func30 (by kernel_rfl) rfl #[.agg (vec c)] (by rfl) rfl rfl (by (try simp only [List.map_toArray, List.map_cons, List.map_nil]); first | done | rfl) ?_
            (with_reducible refine (MC.out _).mono ?_)
            rintro e wq7 ⟨rfl, hq7⟩
            refine ⟨_, rfl, ?_⟩
            refine hK.out _ _ (hHeld.call hq7) (fun hHeld => ?_)
            clear hK K
            replace HQ := HQ.call hq7
            refine norm_ (a' := ?_) ?_ ?_
            rotate_left
            · show Act.put _ (some 21) _ = _
              simp only [Act.put, List.setIfInBounds_toArray, List.set_cons_zero, List.set_cons_succ]
              rfl
            refine one_ (i := 7) (N := some 22) #[true, true, true, true, true, true, true, true, true, false] rfl rfl (by kernel_rfl) (by decide) (fun K hK => ?_)
            refine goes_ Try.func29 (by kernel_rfl) rfl #[.agg (vec j1), .agg (vec c)] (by rfl) rfl rfl (by (try simp only [List.map_toArray, List.map_cons, List.map_nil]); first | done | rfl) ?_
            (with_reducible refine (G2.out _).mono ?_)
            rintro e wq8 ⟨rfl, hq8⟩
            refine ⟨_, rfl, ?_⟩
            refine hK.out _ _ (hHeld.call hq8) (fun hHeld => ?_)
            clear hK K
            replace HQ := HQ.call hq8
            refine norm_ (a' := ?_) ?_ ?_
            rotate_left
            · show Act.put _ (some 22) _ = _
              simp only [Act.put, List.setIfInBounds_toArray, List.set_cons_zero, List.set_cons_succ]
              rfl
            have fin := hcont _ _ HQ
            simp only [putAll, Act.put, List.setIfInBounds_toArray, List.set_cons_zero, List.set_cons_succ] at fin
            exact fin
        · skip
          refine value_ (by rfl) rfl (run_alloc_row rfl) ?_
          have HQ := hHeld.fresh (.cells (vec zero9) 46 (0, 0))
          refine hK.out _ _ HQ.tail (fun hHeld => ?_)
          clear hK K
          refine norm_ (a' := ?_) ?_ ?_
          rotate_left
          · show Act.put _ (some 8) _ = _
            simp only [Act.put, List.setIfInBounds_toArray, List.set_cons_zero, List.set_cons_succ]
            rfl
          refine one_ (i := 4) (N := some 19) #[true, true, true, true, true, true, false, false, true, false] rfl rfl (by kernel_rfl) (by decide) (fun K hK => ?_)
          refine goes_ Try.func29 (by kernel_rfl) rfl #[.agg (vec a), .agg (vec b)] (by rfl) rfl rfl (by (try simp only [List.map_toArray, List.map_cons, List.map_nil]); first | done | rfl) ?_
          (with_reducible refine (G1.out _).mono ?_)
          rintro e wq9 ⟨rfl, hq9⟩
          refine ⟨_, rfl, ?_⟩
          refine hK.out _ _ (hHeld.call hq9) (fun hHeld => ?_)
          clear hK K
          replace HQ := HQ.call hq9
          refine norm_ (a' := ?_) ?_ ?_
          rotate_left
          · show Act.put _ (some 19) _ = _
            simp only [Act.put, List.setIfInBounds_toArray, List.set_cons_zero, List.set_cons_succ]
            rfl
          refine one_ (i := 6) (N := some 21) #[true, true, true, true, true, true, true, false, true, false] rfl rfl (by kernel_rfl) (by decide) (fun K hK => ?_)
          refine goes_ Try.func30 (by kernel_rfl) rfl #[.agg (vec c)] (by rfl) rfl rfl (by (try simp only [List.map_toArray, List.map_cons, List.map_nil]); first | done | rfl) ?_
          (with_reducible refine (MC.out _).mono ?_)
          rintro e wq10 ⟨rfl, hq10⟩
          refine ⟨_, rfl, ?_⟩
          refine hK.out _ _ (hHeld.call hq10) (fun hHeld => ?_)
          clear hK K
          replace HQ := HQ.call hq10
          refine norm_ (a' := ?_) ?_ ?_
          rotate_left
          · show Act.put _ (some 21) _ = _
            simp only [Act.put, List.setIfInBounds_toArray, List.set_cons_zero, List.set_cons_succ]
            rfl
          refine one_ (i := 7) (N := some 22) #[true, true, true, true, true, true, true, true, true, false] rfl rfl (by kernel_rfl) (by decide) (fun K hK => ?_)
          refine goes_ Try.func29 (by kernel_rfl) rfl #[.agg (vec j1), .agg (vec c)] (by rfl) rfl rfl (by (try simp only [List.map_toArray, List.map_cons, List.map_nil]); first | done | rfl) ?_
          (with_reducible refine (G2.out _).mono ?_)
          rintro e wq11 ⟨rfl, hq11⟩
          refine ⟨_, rfl, ?_⟩
          refine hK.out _ _ (hHeld.call hq11) (fun hHeld => ?_)
          clear hK K
          replace HQ := HQ.call hq11
          refine norm_ (a' := ?_) ?_ ?_
          rotate_left
          · show Act.put _ (some 22) _ = _
            simp only [Act.put, List.setIfInBounds_toArray, List.set_cons_zero, List.set_cons_succ]
            rfl
          have fin := hcont _ _ HQ
          simp only [putAll, Act.put, List.setIfInBounds_toArray, List.set_cons_zero, List.set_cons_succ] at fin
          exact fin
      · skip
        refine value_ (by rfl) rfl (run_alloc_row rfl) ?_
        have HQ := hHeld.fresh (.cells (vec zero9) 46 (0, 0))
        refine hK.out _ _ HQ.tail (fun hHeld => ?_)
        clear hK K
        refine norm_ (a' := ?_) ?_ ?_
        rotate_left
        · show Act.put _ (some 8) _ = _
          simp only [Act.put, List.setIfInBounds_toArray, List.set_cons_zero, List.set_cons_succ]
          rfl
        refine one_ (i := 3) (N := some 18) #[true, true, true, true, false, true, false, false, true, false] rfl rfl (by kernel_rfl) (by decide) (fun K hK => ?_)
        refine goes_ Try.func30 (by kernel_rfl) rfl #[.agg (vec b)] (by rfl) rfl rfl (by (try simp only [List.map_toArray, List.map_cons, List.map_nil]); first | done | rfl) ?_
        (with_reducible refine (MB.out _).mono ?_)
        rintro e wq12 ⟨rfl, hq12⟩
        refine ⟨_, rfl, ?_⟩
        refine hK.out _ _ (hHeld.call hq12) (fun hHeld => ?_)
        clear hK K
        replace HQ := HQ.call hq12
        refine norm_ (a' := ?_) ?_ ?_
        rotate_left
        · show Act.put _ (some 18) _ = _
          simp only [Act.put, List.setIfInBounds_toArray, List.set_cons_zero, List.set_cons_succ]
          rfl
        refine one_ (i := 4) (N := some 19) #[true, true, true, true, true, true, false, false, true, false] rfl rfl (by kernel_rfl) (by decide) (fun K hK => ?_)
        refine goes_ Try.func29 (by kernel_rfl) rfl #[.agg (vec a), .agg (vec b)] (by rfl) rfl rfl (by (try simp only [List.map_toArray, List.map_cons, List.map_nil]); first | done | rfl) ?_
        (with_reducible refine (G1.out _).mono ?_)
        rintro e wq13 ⟨rfl, hq13⟩
        refine ⟨_, rfl, ?_⟩
        refine hK.out _ _ (hHeld.call hq13) (fun hHeld => ?_)
        clear hK K
        replace HQ := HQ.call hq13
        refine norm_ (a' := ?_) ?_ ?_
        rotate_left
        · show Act.put _ (some 19) _ = _
          simp only [Act.put, List.setIfInBounds_toArray, List.set_cons_zero, List.set_cons_succ]
          rfl
        refine one_ (i := 6) (N := some 21) #[true, true, true, true, true, true, true, false, true, false] rfl rfl (by kernel_rfl) (by decide) (fun K hK => ?_)
        refine goes_ Try.func30 (by kernel_rfl) rfl #[.agg (vec c)] (by rfl) rfl rfl (by (try simp only [List.map_toArray, List.map_cons, List.map_nil]); first | done | rfl) ?_
        (with_reducible refine (MC.out _).mono ?_)
        rintro e wq14 ⟨rfl, hq14⟩
        refine ⟨_, rfl, ?_⟩
        refine hK.out _ _ (hHeld.call hq14) (fun hHeld => ?_)
        clear hK K
        replace HQ := HQ.call hq14
        refine norm_ (a' := ?_) ?_ ?_
        rotate_left
        · show Act.put _ (some 21) _ = _
          simp only [Act.put, List.setIfInBounds_toArray, List.set_cons_zero, List.set_cons_succ]
          rfl
        refine one_ (i := 7) (N := some 22) #[true, true, true, true, true, true, true, true, true, false] rfl rfl (by kernel_rfl) (by decide) (fun K hK => ?_)
        refine goes_ Try.func29 (by kernel_rfl) rfl #[.agg (vec j1), .agg (vec c)] (by rfl) rfl rfl (by (try simp only [List.map_toArray, List.map_cons, List.map_nil]); first | done | rfl) ?_
        (with_reducible refine (G2.out _).mono ?_)
        rintro e wq15 ⟨rfl, hq15⟩
        refine ⟨_, rfl, ?_⟩
        refine hK.out _ _ (hHeld.call hq15) (fun hHeld => ?_)
        clear hK K
        replace HQ := HQ.call hq15
        refine norm_ (a' := ?_) ?_ ?_
        rotate_left
        · show Act.put _ (some 22) _ = _
          simp only [Act.put, List.setIfInBounds_toArray, List.set_cons_zero, List.set_cons_succ]
          rfl
        have fin := hcont _ _ HQ
        simp only [putAll, Act.put, List.setIfInBounds_toArray, List.set_cons_zero, List.set_cons_succ] at fin
        exact fin
    · skip
      refine value_ (by rfl) rfl (run_alloc_row rfl) ?_
      have HQ := hHeld.fresh (.cells (vec zero9) 46 (0, 0))
      refine hK.out _ _ HQ.tail (fun hHeld => ?_)
      clear hK K
      refine norm_ (a' := ?_) ?_ ?_
      rotate_left
      · show Act.put _ (some 8) _ = _
        simp only [Act.put, List.setIfInBounds_toArray, List.set_cons_zero, List.set_cons_succ]
        rfl
      refine one_ (i := 1) (N := some 16) #[true, true, true, false, false, true, false, false, true, false] rfl rfl (by kernel_rfl) (by decide) (fun K hK => ?_)
      refine goes_ Try.func30 (by kernel_rfl) rfl #[.agg (vec a)] (by rfl) rfl rfl (by (try simp only [List.map_toArray, List.map_cons, List.map_nil]); first | done | rfl) ?_
      (with_reducible refine (MA.out _).mono ?_)
      rintro e wq16 ⟨rfl, hq16⟩
      refine ⟨_, rfl, ?_⟩
      refine hK.out _ _ (hHeld.call hq16) (fun hHeld => ?_)
      clear hK K
      replace HQ := HQ.call hq16
      refine norm_ (a' := ?_) ?_ ?_
      rotate_left
      · show Act.put _ (some 16) _ = _
        simp only [Act.put, List.setIfInBounds_toArray, List.set_cons_zero, List.set_cons_succ]
        rfl
      refine one_ (i := 3) (N := some 18) #[true, true, true, true, false, true, false, false, true, false] rfl rfl (by kernel_rfl) (by decide) (fun K hK => ?_)
      refine goes_ Try.func30 (by kernel_rfl) rfl #[.agg (vec b)] (by rfl) rfl rfl (by (try simp only [List.map_toArray, List.map_cons, List.map_nil]); first | done | rfl) ?_
      (with_reducible refine (MB.out _).mono ?_)
      rintro e wq17 ⟨rfl, hq17⟩
      refine ⟨_, rfl, ?_⟩
      refine hK.out _ _ (hHeld.call hq17) (fun hHeld => ?_)
      clear hK K
      replace HQ := HQ.call hq17
      refine norm_ (a' := ?_) ?_ ?_
      rotate_left
      · show Act.put _ (some 18) _ = _
        simp only [Act.put, List.setIfInBounds_toArray, List.set_cons_zero, List.set_cons_succ]
        rfl
      refine one_ (i := 4) (N := some 19) #[true, true, true, true, true, true, false, false, true, false] rfl rfl (by kernel_rfl) (by decide) (fun K hK => ?_)
      refine goes_ Try.func29 (by kernel_rfl) rfl #[.agg (vec a), .agg (vec b)] (by rfl) rfl rfl (by (try simp only [List.map_toArray, List.map_cons, List.map_nil]); first | done | rfl) ?_
      (with_reducible refine (G1.out _).mono ?_)
      rintro e wq18 ⟨rfl, hq18⟩
      refine ⟨_, rfl, ?_⟩
      refine hK.out _ _ (hHeld.call hq18) (fun hHeld => ?_)
      clear hK K
      replace HQ := HQ.call hq18
      refine norm_ (a' := ?_) ?_ ?_
      rotate_left
      · show Act.put _ (some 19) _ = _
        simp only [Act.put, List.setIfInBounds_toArray, List.set_cons_zero, List.set_cons_succ]
        rfl
      refine one_ (i := 6) (N := some 21) #[true, true, true, true, true, true, true, false, true, false] rfl rfl (by kernel_rfl) (by decide) (fun K hK => ?_)
      refine goes_ Try.func30 (by kernel_rfl) rfl #[.agg (vec c)] (by rfl) rfl rfl (by (try simp only [List.map_toArray, List.map_cons, List.map_nil]); first | done | rfl) ?_
      (with_reducible refine (MC.out _).mono ?_)
      rintro e wq19 ⟨rfl, hq19⟩
      refine ⟨_, rfl, ?_⟩
      refine hK.out _ _ (hHeld.call hq19) (fun hHeld => ?_)
      clear hK K
      replace HQ := HQ.call hq19
      refine norm_ (a' := ?_) ?_ ?_
      rotate_left
      · show Act.put _ (some 21) _ = _
        simp only [Act.put, List.setIfInBounds_toArray, List.set_cons_zero, List.set_cons_succ]
        rfl
      refine one_ (i := 7) (N := some 22) #[true, true, true, true, true, true, true, true, true, false] rfl rfl (by kernel_rfl) (by decide) (fun K hK => ?_)
      refine goes_ Try.func29 (by kernel_rfl) rfl #[.agg (vec j1), .agg (vec c)] (by rfl) rfl rfl (by (try simp only [List.map_toArray, List.map_cons, List.map_nil]); first | done | rfl) ?_
      (with_reducible refine (G2.out _).mono ?_)
      rintro e wq20 ⟨rfl, hq20⟩
      refine ⟨_, rfl, ?_⟩
      refine hK.out _ _ (hHeld.call hq20) (fun hHeld => ?_)
      clear hK K
      replace HQ := HQ.call hq20
      refine norm_ (a' := ?_) ?_ ?_
      rotate_left
      · show Act.put _ (some 22) _ = _
        simp only [Act.put, List.setIfInBounds_toArray, List.set_cons_zero, List.set_cons_succ]
        rfl
      have fin := hcont _ _ HQ
      simp only [putAll, Act.put, List.setIfInBounds_toArray, List.set_cons_zero, List.set_cons_succ] at fin
      exact fin
  intro q wq HQ
  simp only [putAll, Act.put, List.setIfInBounds_toArray, List.set_cons_zero, List.set_cons_succ]
  refine last_ (i := 9) (N := none) #[true, true, true, true, true, true, true, true, true, true] rfl rfl (by kernel_rfl) (by decide) (fun K hK => ?_)
  refine skip_ (by rfl) rfl (run_store_rowM _ _ _ rfl q (vec x) rfl rfl 46 (vec zero9) (HQ.1.get 0 rfl) Sx.out Zx.out (vec_one _)) ?_
  refine hK.out _ _ ?_
  clear hK K
  refine done_ (by kernel_rfl) ?_
  have H2 := Hd.mk (HQ.set (vec x))
  clear HQ hHeld H1
  generalize wq.setRow q (vec x) = W2 at *
  generalize q = bx at *
  go_upto_region 3 with (fail)
  refine start_ (n := 10) (S := fun W_ => Holds w [(bx, .cells (vec x) 46 (0, 0)), (w.heap.size + 1 + 1, .cells (vec c) 55 (0, 0)), (w.heap.size + 1, .cells (vec b) 55 (0, 0)), (w.heap.size, .cells (vec a) 55 (0, 0))] W_) (ds := [9]) #[false, false, false, false, false, false, false, false, false, false] (by kernel_rfl) rfl rfl (H2.out.drew) (fun hHeld => ?_)
  refine take_ (i := 0) (N := some 23) (v := .agg (vec c)) (a' := ?_) #[true, false, false, false, false, false, false, false, false, false] rfl rfl (by kernel_rfl) (fun _ _ _ h => h) (Or.inl ⟨by rfl, fun w' h => run_load_row 55 _ rfl (w.heap.size + 1 + 1) rfl 55 _ _ _ (h.get 1 rfl) Try.underlying55 rfl Sc.out⟩) hHeld ?_ ?_
  rotate_left
  · simp only [Act.put, List.setIfInBounds_toArray, List.set_cons_zero, List.set_cons_succ]
    rfl
  refine take_ (i := 2) (N := some 25) (v := .agg (vec b)) (a' := ?_) #[true, false, true, false, false, false, false, false, false, false] rfl rfl (by kernel_rfl) (fun _ _ _ h => h) (Or.inl ⟨by rfl, fun w' h => run_load_row 55 _ rfl (w.heap.size + 1) rfl 55 _ _ _ (h.get 2 rfl) Try.underlying55 rfl Sb.out⟩) hHeld ?_ ?_
  rotate_left
  · simp only [Act.put, List.setIfInBounds_toArray, List.set_cons_zero, List.set_cons_succ]
    rfl
  refine take_ (i := 4) (N := some 27) (v := .agg (vec a)) (a' := ?_) #[true, false, true, false, true, false, false, false, false, false] rfl rfl (by kernel_rfl) (fun _ _ _ h => h) (Or.inl ⟨by rfl, fun w' h => run_load_row 55 _ rfl w.heap.size rfl 55 _ _ _ (h.get 3 rfl) Try.underlying55 rfl Sa.out⟩) hHeld ?_ ?_
  rotate_left
  · simp only [Act.put, List.setIfInBounds_toArray, List.set_cons_zero, List.set_cons_succ]
    rfl
  refine join_ (σ := Nat) 1 #[true, true, true, true, true, true, true, true, true, false] (fun q => [(24, .agg (vec c)), (26, .agg (vec b)), (28, .agg (vec a)), (29, .agg (vec j2)), (30, .agg (vec x)), (9, .pointer (some ⟨q, 0, none⟩))]) (fun q w_ => NewHolds w q (.cells (vec zero9) 46 (0, 0)) ([(bx, .cells (vec x) 46 (0, 0)), (w.heap.size + 1 + 1, .cells (vec c) 55 (0, 0)), (w.heap.size + 1, .cells (vec b) 55 (0, 0)), (w.heap.size, .cells (vec a) 55 (0, 0))]) w_) ?_ (fun hcont => ?_)
  rotate_left
  · skip
    refine two_ (i := 1) (j := 8) (Ni := some 24) (Nj := some 9) #[true, true, true, false, true, false, false, false, false, false] #[true, false, true, false, true, false, false, false, true, false] rfl rfl rfl rfl (by kernel_rfl) (by decide) (by decide) (fun K hK => ?_) (fun K hK => ?_)
    · skip
      refine goes_ Try.func30 (by kernel_rfl) rfl #[.agg (vec c)] (by rfl) rfl rfl (by (try simp only [List.map_toArray, List.map_cons, List.map_nil]); first | done | rfl) ?_
      (with_reducible refine (MC.out _).mono ?_)
      rintro e wq1 ⟨rfl, hq1⟩
      refine ⟨_, rfl, ?_⟩
      refine hK.out _ _ (hHeld.call hq1) (fun hHeld => ?_)
      clear hK K
      refine norm_ (a' := ?_) ?_ ?_
      rotate_left
      · show Act.put _ (some 24) _ = _
        simp only [Act.put, List.setIfInBounds_toArray, List.set_cons_zero, List.set_cons_succ]
        rfl
      refine two_ (i := 3) (j := 8) (Ni := some 26) (Nj := some 9) #[true, true, true, true, true, false, false, false, false, false] #[true, true, true, false, true, false, false, false, true, false] rfl rfl rfl rfl (by kernel_rfl) (by decide) (by decide) (fun K hK => ?_) (fun K hK => ?_)
      · skip
        refine goes_ Try.func30 (by kernel_rfl) rfl #[.agg (vec b)] (by rfl) rfl rfl (by (try simp only [List.map_toArray, List.map_cons, List.map_nil]); first | done | rfl) ?_
        (with_reducible refine (MB.out _).mono ?_)
        rintro e wq2 ⟨rfl, hq2⟩
        refine ⟨_, rfl, ?_⟩
        refine hK.out _ _ (hHeld.call hq2) (fun hHeld => ?_)
        clear hK K
        refine norm_ (a' := ?_) ?_ ?_
        rotate_left
        · show Act.put _ (some 26) _ = _
          simp only [Act.put, List.setIfInBounds_toArray, List.set_cons_zero, List.set_cons_succ]
          rfl
        refine two_ (i := 5) (j := 8) (Ni := some 28) (Nj := some 9) #[true, true, true, true, true, true, false, false, false, false] #[true, true, true, true, true, false, false, false, true, false] rfl rfl rfl rfl (by kernel_rfl) (by decide) (by decide) (fun K hK => ?_) (fun K hK => ?_)
        · skip
          refine goes_ Try.func30 (by kernel_rfl) rfl #[.agg (vec a)] (by rfl) rfl rfl (by (try simp only [List.map_toArray, List.map_cons, List.map_nil]); first | done | rfl) ?_
          (with_reducible refine (MA.out _).mono ?_)
          rintro e wq3 ⟨rfl, hq3⟩
          refine ⟨_, rfl, ?_⟩
          refine hK.out _ _ (hHeld.call hq3) (fun hHeld => ?_)
          clear hK K
          refine norm_ (a' := ?_) ?_ ?_
          rotate_left
          · show Act.put _ (some 28) _ = _
            simp only [Act.put, List.setIfInBounds_toArray, List.set_cons_zero, List.set_cons_succ]
            rfl
          refine two_ (i := 6) (j := 8) (Ni := some 29) (Nj := some 9) #[true, true, true, true, true, true, true, false, false, false] #[true, true, true, true, true, true, false, false, true, false] rfl rfl rfl rfl (by kernel_rfl) (by decide) (by decide) (fun K hK => ?_) (fun K hK => ?_)
          · skip
            refine goes_ Try.func29 (by kernel_rfl) rfl #[.agg (vec b), .agg (vec a)] (by rfl) rfl rfl (by (try simp only [List.map_toArray, List.map_cons, List.map_nil]); first | done | rfl) ?_
            (with_reducible refine (G3.out _).mono ?_)
            rintro e wq4 ⟨rfl, hq4⟩
            refine ⟨_, rfl, ?_⟩
            refine hK.out _ _ (hHeld.call hq4) (fun hHeld => ?_)
            clear hK K
            refine norm_ (a' := ?_) ?_ ?_
            rotate_left
            · show Act.put _ (some 29) _ = _
              simp only [Act.put, List.setIfInBounds_toArray, List.set_cons_zero, List.set_cons_succ]
              rfl
            refine two_ (i := 7) (j := 8) (Ni := some 30) (Nj := some 9) #[true, true, true, true, true, true, true, true, false, false] #[true, true, true, true, true, true, true, false, true, false] rfl rfl rfl rfl (by kernel_rfl) (by decide) (by decide) (fun K hK => ?_) (fun K hK => ?_)
            · skip
              refine goes_ Try.func29 (by kernel_rfl) rfl #[.agg (vec c), .agg (vec j2)] (by rfl) rfl rfl (by (try simp only [List.map_toArray, List.map_cons, List.map_nil]); first | done | rfl) ?_
              (with_reducible refine (G4.out _).mono ?_)
              rintro e wq5 ⟨rfl, hq5⟩
              refine ⟨_, rfl, ?_⟩
              refine hK.out _ _ (hHeld.call hq5) (fun hHeld => ?_)
              clear hK K
              refine norm_ (a' := ?_) ?_ ?_
              rotate_left
              · show Act.put _ (some 30) _ = _
                simp only [Act.put, List.setIfInBounds_toArray, List.set_cons_zero, List.set_cons_succ]
                rfl
              refine one_ (i := 8) (N := some 9) #[true, true, true, true, true, true, true, true, true, false] rfl rfl (by kernel_rfl) (by decide) (fun K hK => ?_)
              refine value_ (by rfl) rfl (run_alloc_row rfl) ?_
              have HQ := hHeld.fresh (.cells (vec zero9) 46 (0, 0))
              refine hK.out _ _ HQ.tail (fun hHeld => ?_)
              clear hK K
              refine norm_ (a' := ?_) ?_ ?_
              rotate_left
              · show Act.put _ (some 9) _ = _
                simp only [Act.put, List.setIfInBounds_toArray, List.set_cons_zero, List.set_cons_succ]
                rfl
              have fin := hcont _ _ HQ
              simp only [putAll, Act.put, List.setIfInBounds_toArray, List.set_cons_zero, List.set_cons_succ] at fin
              exact fin
            · skip
              refine value_ (by rfl) rfl (run_alloc_row rfl) ?_
              have HQ := hHeld.fresh (.cells (vec zero9) 46 (0, 0))
              refine hK.out _ _ HQ.tail (fun hHeld => ?_)
              clear hK K
              refine norm_ (a' := ?_) ?_ ?_
              rotate_left
              · show Act.put _ (some 9) _ = _
                simp only [Act.put, List.setIfInBounds_toArray, List.set_cons_zero, List.set_cons_succ]
                rfl
              refine one_ (i := 7) (N := some 30) #[true, true, true, true, true, true, true, true, true, false] rfl rfl (by kernel_rfl) (by decide) (fun K hK => ?_)
              refine goes_ Try.func29 (by kernel_rfl) rfl #[.agg (vec c), .agg (vec j2)] (by rfl) rfl rfl (by (try simp only [List.map_toArray, List.map_cons, List.map_nil]); first | done | rfl) ?_
              (with_reducible refine (G4.out _).mono ?_)
              rintro e wq6 ⟨rfl, hq6⟩
              refine ⟨_, rfl, ?_⟩
              refine hK.out _ _ (hHeld.call hq6) (fun hHeld => ?_)
              clear hK K
              replace HQ := HQ.call hq6
              refine norm_ (a' := ?_) ?_ ?_
              rotate_left
              · show Act.put _ (some 30) _ = _
                simp only [Act.put, List.setIfInBounds_toArray, List.set_cons_zero, List.set_cons_succ]
                rfl
              have fin := hcont _ _ HQ
              simp only [putAll, Act.put, List.setIfInBounds_toArray, List.set_cons_zero, List.set_cons_succ] at fin
              exact fin
          · skip
            refine value_ (by rfl) rfl (run_alloc_row rfl) ?_
            have HQ := hHeld.fresh (.cells (vec zero9) 46 (0, 0))
            refine hK.out _ _ HQ.tail (fun hHeld => ?_)
            clear hK K
            refine norm_ (a' := ?_) ?_ ?_
            rotate_left
            · show Act.put _ (some 9) _ = _
              simp only [Act.put, List.setIfInBounds_toArray, List.set_cons_zero, List.set_cons_succ]
              rfl
            refine one_ (i := 6) (N := some 29) #[true, true, true, true, true, true, true, false, true, false] rfl rfl (by kernel_rfl) (by decide) (fun K hK => ?_)
            refine goes_ Try.func29 (by kernel_rfl) rfl #[.agg (vec b), .agg (vec a)] (by rfl) rfl rfl (by (try simp only [List.map_toArray, List.map_cons, List.map_nil]); first | done | rfl) ?_
            (with_reducible refine (G3.out _).mono ?_)
            rintro e wq7 ⟨rfl, hq7⟩
            refine ⟨_, rfl, ?_⟩
            refine hK.out _ _ (hHeld.call hq7) (fun hHeld => ?_)
            clear hK K
            replace HQ := HQ.call hq7
            refine norm_ (a' := ?_) ?_ ?_
            rotate_left
            · show Act.put _ (some 29) _ = _
              simp only [Act.put, List.setIfInBounds_toArray, List.set_cons_zero, List.set_cons_succ]
              rfl
            refine one_ (i := 7) (N := some 30) #[true, true, true, true, true, true, true, true, true, false] rfl rfl (by kernel_rfl) (by decide) (fun K hK => ?_)
            refine goes_ Try.func29 (by kernel_rfl) rfl #[.agg (vec c), .agg (vec j2)] (by rfl) rfl rfl (by (try simp only [List.map_toArray, List.map_cons, List.map_nil]); first | done | rfl) ?_
            (with_reducible refine (G4.out _).mono ?_)
            rintro e wq8 ⟨rfl, hq8⟩
            refine ⟨_, rfl, ?_⟩
            refine hK.out _ _ (hHeld.call hq8) (fun hHeld => ?_)
            clear hK K
            replace HQ := HQ.call hq8
            refine norm_ (a' := ?_) ?_ ?_
            rotate_left
            · show Act.put _ (some 30) _ = _
              simp only [Act.put, List.setIfInBounds_toArray, List.set_cons_zero, List.set_cons_succ]
              rfl
            have fin := hcont _ _ HQ
            simp only [putAll, Act.put, List.setIfInBounds_toArray, List.set_cons_zero, List.set_cons_succ] at fin
            exact fin
        · skip
          refine value_ (by rfl) rfl (run_alloc_row rfl) ?_
          have HQ := hHeld.fresh (.cells (vec zero9) 46 (0, 0))
          refine hK.out _ _ HQ.tail (fun hHeld => ?_)
          clear hK K
          refine norm_ (a' := ?_) ?_ ?_
          rotate_left
          · show Act.put _ (some 9) _ = _
            simp only [Act.put, List.setIfInBounds_toArray, List.set_cons_zero, List.set_cons_succ]
            rfl
          refine one_ (i := 5) (N := some 28) #[true, true, true, true, true, true, false, false, true, false] rfl rfl (by kernel_rfl) (by decide) (fun K hK => ?_)
          refine goes_ Try.func30 (by kernel_rfl) rfl #[.agg (vec a)] (by rfl) rfl rfl (by (try simp only [List.map_toArray, List.map_cons, List.map_nil]); first | done | rfl) ?_
          (with_reducible refine (MA.out _).mono ?_)
          rintro e wq9 ⟨rfl, hq9⟩
          refine ⟨_, rfl, ?_⟩
          refine hK.out _ _ (hHeld.call hq9) (fun hHeld => ?_)
          clear hK K
          replace HQ := HQ.call hq9
          refine norm_ (a' := ?_) ?_ ?_
          rotate_left
          · show Act.put _ (some 28) _ = _
            simp only [Act.put, List.setIfInBounds_toArray, List.set_cons_zero, List.set_cons_succ]
            rfl
          refine one_ (i := 6) (N := some 29) #[true, true, true, true, true, true, true, false, true, false] rfl rfl (by kernel_rfl) (by decide) (fun K hK => ?_)
          refine goes_ Try.func29 (by kernel_rfl) rfl #[.agg (vec b), .agg (vec a)] (by rfl) rfl rfl (by (try simp only [List.map_toArray, List.map_cons, List.map_nil]); first | done | rfl) ?_
          (with_reducible refine (G3.out _).mono ?_)
          rintro e wq10 ⟨rfl, hq10⟩
          refine ⟨_, rfl, ?_⟩
          refine hK.out _ _ (hHeld.call hq10) (fun hHeld => ?_)
          clear hK K
          replace HQ := HQ.call hq10
          refine norm_ (a' := ?_) ?_ ?_
          rotate_left
          · show Act.put _ (some 29) _ = _
            simp only [Act.put, List.setIfInBounds_toArray, List.set_cons_zero, List.set_cons_succ]
            rfl
          refine one_ (i := 7) (N := some 30) #[true, true, true, true, true, true, true, true, true, false] rfl rfl (by kernel_rfl) (by decide) (fun K hK => ?_)
          refine goes_ Try.func29 (by kernel_rfl) rfl #[.agg (vec c), .agg (vec j2)] (by rfl) rfl rfl (by (try simp only [List.map_toArray, List.map_cons, List.map_nil]); first | done | rfl) ?_
          (with_reducible refine (G4.out _).mono ?_)
          rintro e wq11 ⟨rfl, hq11⟩
          refine ⟨_, rfl, ?_⟩
          refine hK.out _ _ (hHeld.call hq11) (fun hHeld => ?_)
          clear hK K
          replace HQ := HQ.call hq11
          refine norm_ (a' := ?_) ?_ ?_
          rotate_left
          · show Act.put _ (some 30) _ = _
            simp only [Act.put, List.setIfInBounds_toArray, List.set_cons_zero, List.set_cons_succ]
            rfl
          have fin := hcont _ _ HQ
          simp only [putAll, Act.put, List.setIfInBounds_toArray, List.set_cons_zero, List.set_cons_succ] at fin
          exact fin
      · skip
        refine value_ (by rfl) rfl (run_alloc_row rfl) ?_
        have HQ := hHeld.fresh (.cells (vec zero9) 46 (0, 0))
        refine hK.out _ _ HQ.tail (fun hHeld => ?_)
        clear hK K
        refine norm_ (a' := ?_) ?_ ?_
        rotate_left
        · show Act.put _ (some 9) _ = _
          simp only [Act.put, List.setIfInBounds_toArray, List.set_cons_zero, List.set_cons_succ]
          rfl
        refine one_ (i := 3) (N := some 26) #[true, true, true, true, true, false, false, false, true, false] rfl rfl (by kernel_rfl) (by decide) (fun K hK => ?_)
        refine goes_ Try.func30 (by kernel_rfl) rfl #[.agg (vec b)] (by rfl) rfl rfl (by (try simp only [List.map_toArray, List.map_cons, List.map_nil]); first | done | rfl) ?_
        (with_reducible refine (MB.out _).mono ?_)
        rintro e wq12 ⟨rfl, hq12⟩
        refine ⟨_, rfl, ?_⟩
        refine hK.out _ _ (hHeld.call hq12) (fun hHeld => ?_)
        clear hK K
        replace HQ := HQ.call hq12
        refine norm_ (a' := ?_) ?_ ?_
        rotate_left
        · show Act.put _ (some 26) _ = _
          simp only [Act.put, List.setIfInBounds_toArray, List.set_cons_zero, List.set_cons_succ]
          rfl
        refine one_ (i := 5) (N := some 28) #[true, true, true, true, true, true, false, false, true, false] rfl rfl (by kernel_rfl) (by decide) (fun K hK => ?_)
        refine goes_ Try.func30 (by kernel_rfl) rfl #[.agg (vec a)] (by rfl) rfl rfl (by (try simp only [List.map_toArray, List.map_cons, List.map_nil]); first | done | rfl) ?_
        (with_reducible refine (MA.out _).mono ?_)
        rintro e wq13 ⟨rfl, hq13⟩
        refine ⟨_, rfl, ?_⟩
        refine hK.out _ _ (hHeld.call hq13) (fun hHeld => ?_)
        clear hK K
        replace HQ := HQ.call hq13
        refine norm_ (a' := ?_) ?_ ?_
        rotate_left
        · show Act.put _ (some 28) _ = _
          simp only [Act.put, List.setIfInBounds_toArray, List.set_cons_zero, List.set_cons_succ]
          rfl
        refine one_ (i := 6) (N := some 29) #[true, true, true, true, true, true, true, false, true, false] rfl rfl (by kernel_rfl) (by decide) (fun K hK => ?_)
        refine goes_ Try.func29 (by kernel_rfl) rfl #[.agg (vec b), .agg (vec a)] (by rfl) rfl rfl (by (try simp only [List.map_toArray, List.map_cons, List.map_nil]); first | done | rfl) ?_
        (with_reducible refine (G3.out _).mono ?_)
        rintro e wq14 ⟨rfl, hq14⟩
        refine ⟨_, rfl, ?_⟩
        refine hK.out _ _ (hHeld.call hq14) (fun hHeld => ?_)
        clear hK K
        replace HQ := HQ.call hq14
        refine norm_ (a' := ?_) ?_ ?_
        rotate_left
        · show Act.put _ (some 29) _ = _
          simp only [Act.put, List.setIfInBounds_toArray, List.set_cons_zero, List.set_cons_succ]
          rfl
        refine one_ (i := 7) (N := some 30) #[true, true, true, true, true, true, true, true, true, false] rfl rfl (by kernel_rfl) (by decide) (fun K hK => ?_)
        refine goes_ Try.func29 (by kernel_rfl) rfl #[.agg (vec c), .agg (vec j2)] (by rfl) rfl rfl (by (try simp only [List.map_toArray, List.map_cons, List.map_nil]); first | done | rfl) ?_
        (with_reducible refine (G4.out _).mono ?_)
        rintro e wq15 ⟨rfl, hq15⟩
        refine ⟨_, rfl, ?_⟩
        refine hK.out _ _ (hHeld.call hq15) (fun hHeld => ?_)
        clear hK K
        replace HQ := HQ.call hq15
        refine norm_ (a' := ?_) ?_ ?_
        rotate_left
        · show Act.put _ (some 30) _ = _
          simp only [Act.put, List.setIfInBounds_toArray, List.set_cons_zero, List.set_cons_succ]
          rfl
        have fin := hcont _ _ HQ
        simp only [putAll, Act.put, List.setIfInBounds_toArray, List.set_cons_zero, List.set_cons_succ] at fin
        exact fin
    · skip
      refine value_ (by rfl) rfl (run_alloc_row rfl) ?_
      have HQ := hHeld.fresh (.cells (vec zero9) 46 (0, 0))
      refine hK.out _ _ HQ.tail (fun hHeld => ?_)
      clear hK K
      refine norm_ (a' := ?_) ?_ ?_
      rotate_left
      · show Act.put _ (some 9) _ = _
        simp only [Act.put, List.setIfInBounds_toArray, List.set_cons_zero, List.set_cons_succ]
        rfl
      refine one_ (i := 1) (N := some 24) #[true, true, true, false, true, false, false, false, true, false] rfl rfl (by kernel_rfl) (by decide) (fun K hK => ?_)
      refine goes_ Try.func30 (by kernel_rfl) rfl #[.agg (vec c)] (by rfl) rfl rfl (by (try simp only [List.map_toArray, List.map_cons, List.map_nil]); first | done | rfl) ?_
      (with_reducible refine (MC.out _).mono ?_)
      rintro e wq16 ⟨rfl, hq16⟩
      refine ⟨_, rfl, ?_⟩
      refine hK.out _ _ (hHeld.call hq16) (fun hHeld => ?_)
      clear hK K
      replace HQ := HQ.call hq16
      refine norm_ (a' := ?_) ?_ ?_
      rotate_left
      · show Act.put _ (some 24) _ = _
        simp only [Act.put, List.setIfInBounds_toArray, List.set_cons_zero, List.set_cons_succ]
        rfl
      refine one_ (i := 3) (N := some 26) #[true, true, true, true, true, false, false, false, true, false] rfl rfl (by kernel_rfl) (by decide) (fun K hK => ?_)
      refine goes_ Try.func30 (by kernel_rfl) rfl #[.agg (vec b)] (by rfl) rfl rfl (by (try simp only [List.map_toArray, List.map_cons, List.map_nil]); first | done | rfl) ?_
      (with_reducible refine (MB.out _).mono ?_)
      rintro e wq17 ⟨rfl, hq17⟩
      refine ⟨_, rfl, ?_⟩
      refine hK.out _ _ (hHeld.call hq17) (fun hHeld => ?_)
      clear hK K
      replace HQ := HQ.call hq17
      refine norm_ (a' := ?_) ?_ ?_
      rotate_left
      · show Act.put _ (some 26) _ = _
        simp only [Act.put, List.setIfInBounds_toArray, List.set_cons_zero, List.set_cons_succ]
        rfl
      refine one_ (i := 5) (N := some 28) #[true, true, true, true, true, true, false, false, true, false] rfl rfl (by kernel_rfl) (by decide) (fun K hK => ?_)
      refine goes_ Try.func30 (by kernel_rfl) rfl #[.agg (vec a)] (by rfl) rfl rfl (by (try simp only [List.map_toArray, List.map_cons, List.map_nil]); first | done | rfl) ?_
      (with_reducible refine (MA.out _).mono ?_)
      rintro e wq18 ⟨rfl, hq18⟩
      refine ⟨_, rfl, ?_⟩
      refine hK.out _ _ (hHeld.call hq18) (fun hHeld => ?_)
      clear hK K
      replace HQ := HQ.call hq18
      refine norm_ (a' := ?_) ?_ ?_
      rotate_left
      · show Act.put _ (some 28) _ = _
        simp only [Act.put, List.setIfInBounds_toArray, List.set_cons_zero, List.set_cons_succ]
        rfl
      refine one_ (i := 6) (N := some 29) #[true, true, true, true, true, true, true, false, true, false] rfl rfl (by kernel_rfl) (by decide) (fun K hK => ?_)
      refine goes_ Try.func29 (by kernel_rfl) rfl #[.agg (vec b), .agg (vec a)] (by rfl) rfl rfl (by (try simp only [List.map_toArray, List.map_cons, List.map_nil]); first | done | rfl) ?_
      (with_reducible refine (G3.out _).mono ?_)
      rintro e wq19 ⟨rfl, hq19⟩
      refine ⟨_, rfl, ?_⟩
      refine hK.out _ _ (hHeld.call hq19) (fun hHeld => ?_)
      clear hK K
      replace HQ := HQ.call hq19
      refine norm_ (a' := ?_) ?_ ?_
      rotate_left
      · show Act.put _ (some 29) _ = _
        simp only [Act.put, List.setIfInBounds_toArray, List.set_cons_zero, List.set_cons_succ]
        rfl
      refine one_ (i := 7) (N := some 30) #[true, true, true, true, true, true, true, true, true, false] rfl rfl (by kernel_rfl) (by decide) (fun K hK => ?_)
      refine goes_ Try.func29 (by kernel_rfl) rfl #[.agg (vec c), .agg (vec j2)] (by rfl) rfl rfl (by (try simp only [List.map_toArray, List.map_cons, List.map_nil]); first | done | rfl) ?_
      (with_reducible refine (G4.out _).mono ?_)
      rintro e wq20 ⟨rfl, hq20⟩
      refine ⟨_, rfl, ?_⟩
      refine hK.out _ _ (hHeld.call hq20) (fun hHeld => ?_)
      clear hK K
      replace HQ := HQ.call hq20
      refine norm_ (a' := ?_) ?_ ?_
      rotate_left
      · show Act.put _ (some 30) _ = _
        simp only [Act.put, List.setIfInBounds_toArray, List.set_cons_zero, List.set_cons_succ]
        rfl
      have fin := hcont _ _ HQ
      simp only [putAll, Act.put, List.setIfInBounds_toArray, List.set_cons_zero, List.set_cons_succ] at fin
      exact fin
  intro q wq HQ
  simp only [putAll, Act.put, List.setIfInBounds_toArray, List.set_cons_zero, List.set_cons_succ]
  refine last_ (i := 9) (N := none) #[true, true, true, true, true, true, true, true, true, true] rfl rfl (by kernel_rfl) (by decide) (fun K hK => ?_)
  refine skip_ (by rfl) rfl (run_store_rowM _ _ _ rfl q (vec x) rfl rfl 46 (vec zero9) (HQ.1.get 0 rfl) Sx.out Zx.out (vec_one _)) ?_
  refine hK.out _ _ ?_
  clear hK K
  refine done_ (by kernel_rfl) ?_
  have H3 := Hd.mk (HQ.set (vec x))
  clear HQ hHeld H2
  generalize wq.setRow q (vec x) = W3 at *
  generalize q = by_ at *
  go_wp2_with fail
  refine (HN.out _).mono ?_; rintro e w4 ⟨rfl, h4⟩
  have H4 := Hd.mk (MH.new H3.out h4)
  clear h4 H3 HN
  generalize W3.heap.size = bm at H4 ⊢
  go_wp2_with (first | ((with_reducible refine gate_dst (N := 33) rfl ?_); refine wpList_load_row rfl 55 _ rfl w.heap.size rfl 55 (vec a) (0, 0) _ (H4.out.held.get 4 rfl) Try.underlying55 rfl Sa.out ?_))
  refine (MA.out _).mono ?_; rintro e w5 ⟨rfl, h5⟩
  have H5 := Hd.mk (H4.out.call h5)
  clear H4 h5
  go_wp2_with fail
  refine (HT1.out _ _ H5.out.mat).mono ?_; rintro e w6 ⟨rfl, h6, h6'⟩
  have H6 := Hd.mk (H5.out.tell h6 h6')
  clear H5 HT1 h6 h6'
  go_wp2_with (first | ((with_reducible refine gate_dst (N := 37) rfl ?_); refine wpList_load_row rfl 55 _ rfl (w.heap.size + 1) rfl 55 (vec b) (0, 0) _ (H6.out.held.get 3 rfl) Try.underlying55 rfl Sb.out ?_))
  refine (MB.out _).mono ?_; rintro e w7 ⟨rfl, h7⟩
  have H7 := Hd.mk (H6.out.call h7)
  clear H6 h7
  go_wp2_with fail
  refine (HT2.out _ _ H7.out.mat).mono ?_; rintro e w8 ⟨rfl, h8, h8'⟩
  have H8 := Hd.mk (H7.out.tell h8 h8')
  clear H7 HT2 h8 h8'
  go_wp2_with fail
  refine (HR0.out _ _ H8.out.mat).mono ?_; rintro e w9 ⟨rfl, h9⟩
  have H9 := Hd.mk (H8.out.call h9)
  have HTT := Hd.mk (MH.made H9.out (vec zero9) (vec o) 46)
  have hz := zeroRow
  clear H8 HR0 h9 H9
  go_upto_region 8 with (first | ((with_reducible refine gate_store (t := 46) rfl ?_); refine wpList_store_row rfl _ _ _ rfl w9.heap.size (vec o) rfl rfl 46 (vec zero9) (heap_alloc_new _ _) So.out Zo.out (vec_one _) ?_; generalize ((w9.alloc (.cells (vec zero9) 46 (0, 0))).setRow w9.heap.size (vec o)) = Wa at HTT ⊢))
  clear hz
  generalize w9.heap.size = bo at HTT ⊢
  go_wp2_with (first | ((with_reducible refine gate_dst (N := 43) rfl ?_); refine wpList_load_row rfl 55 _ rfl w.heap.size rfl 55 (vec a) (0, 0) _ (HTT.out.held.get 5 rfl) Try.underlying55 rfl Sa.out ?_))
  refine (MA.out _).mono ?_; rintro e wb ⟨rfl, hb⟩
  have Hb := Hd.mk (HTT.out.call hb)
  clear HTT hb
  go_wp2_with fail
  refine (HT3.out _ _ Hb.out.mat).mono ?_; rintro e wc ⟨rfl, hc, hc'⟩
  have Hc := Hd.mk (Hb.out.tell hc hc')
  clear Hb HT3 hc hc'
  have HR1 := Hd.mk (fun (w' : World) (h : MH w [(bo, .cells (vec o) 46 (0, 0)), (by_, .cells (vec x) 46 (0, 0)), (bx, .cells (vec x) 46 (0, 0)), (w.heap.size + 1 + 1, .cells (vec c) 55 (0, 0)), (w.heap.size + 1, .cells (vec b) 55 (0, 0)), (w.heap.size, .cells (vec a) 55 (0, 0))] bm 2 L3 w') => HR1.out w' bm h.mat)
  have HR2 := Hd.mk (fun (w' : World) (h : MH w [(bo, .cells (vec o) 46 (0, 0)), (by_, .cells (vec x) 46 (0, 0)), (bx, .cells (vec x) 46 (0, 0)), (w.heap.size + 1 + 1, .cells (vec c) 55 (0, 0)), (w.heap.size + 1, .cells (vec b) 55 (0, 0)), (w.heap.size, .cells (vec a) 55 (0, 0))] bm 2 L3 w') => HR2.out w' bm h.mat)
  go_upto_region 9 with (fail)
  refine start_ (n := 46) (S := fun W_ => MH w [(bo, .cells (vec o) 46 (0, 0)), (by_, .cells (vec x) 46 (0, 0)), (bx, .cells (vec x) 46 (0, 0)), (w.heap.size + 1 + 1, .cells (vec c) 55 (0, 0)), (w.heap.size + 1, .cells (vec b) 55 (0, 0)), (w.heap.size, .cells (vec a) 55 (0, 0))] bm 2 L3 W_) (ds := []) #[false, false, false, false, false, false, false, false, false, false, false, false, false, false, false, false, false, false, false, false, false, false, false, false, false, false, false, false, false, false, false, false, false, false, false, false, false, false, false, false, false, false, false, false, false, false] (by kernel_rfl) rfl rfl (Hc.out.drew) (fun hHeld => ?_)
  refine pure_ (i := 0) (N := some 46) (v := ?_) (a' := ?_) #[true, false, false, false, false, false, false, false, false, false, false, false, false, false, false, false, false, false, false, false, false, false, false, false, false, false, false, false, false, false, false, false, false, false, false, false, false, false, false, false, false, false, false, false, false, false] rfl rfl (by kernel_rfl) (fun _ _ _ h => h) (Or.inl ⟨by rfl, ?_⟩) ?_ ?_
  rotate_left
  · intro w_
    go_simp
    try with_reducible rfl
  rotate_left
  · simp only [Act.put, List.setIfInBounds_toArray, List.set_cons_zero, List.set_cons_succ]
    rfl
  refine pure_ (i := 1) (N := some 47) (v := ?_) (a' := ?_) #[true, true, false, false, false, false, false, false, false, false, false, false, false, false, false, false, false, false, false, false, false, false, false, false, false, false, false, false, false, false, false, false, false, false, false, false, false, false, false, false, false, false, false, false, false, false] rfl rfl (by kernel_rfl) (fun _ _ _ h => h) (Or.inl ⟨by rfl, ?_⟩) ?_ ?_
  rotate_left
  · intro w_
    go_simp
    try with_reducible rfl
  rotate_left
  · simp only [Act.put, List.setIfInBounds_toArray, List.set_cons_zero, List.set_cons_succ]
    rfl
  refine take_ (i := 2) (N := some 48) (v := .agg (vec x)) (a' := ?_) #[true, true, true, false, false, false, false, false, false, false, false, false, false, false, false, false, false, false, false, false, false, false, false, false, false, false, false, false, false, false, false, false, false, false, false, false, false, false, false, false, false, false, false, false, false, false] rfl rfl (by kernel_rfl) (fun _ _ _ h => h) (Or.inl ⟨by rfl, fun w' h => run_load_row 46 _ rfl bx rfl 46 _ _ _ (h.held.get 2 rfl) Try.underlying46 rfl Sx.out⟩) hHeld ?_ ?_
  rotate_left
  · simp only [Act.put, List.setIfInBounds_toArray, List.set_cons_zero, List.set_cons_succ]
    rfl
  refine take_ (i := 3) (N := some 49) (v := .agg (vec x)) (a' := ?_) #[true, true, true, true, false, false, false, false, false, false, false, false, false, false, false, false, false, false, false, false, false, false, false, false, false, false, false, false, false, false, false, false, false, false, false, false, false, false, false, false, false, false, false, false, false, false] rfl rfl (by kernel_rfl) (fun _ _ _ h => h) (Or.inl ⟨by rfl, fun w' h => run_load_row 46 _ rfl by_ rfl 46 _ _ _ (h.held.get 1 rfl) Try.underlying46 rfl Sx.out⟩) hHeld ?_ ?_
  rotate_left
  · simp only [Act.put, List.setIfInBounds_toArray, List.set_cons_zero, List.set_cons_succ]
    rfl
  refine take_ (i := 4) (N := some 50) (v := .bool true) (a' := ?_) #[true, true, true, true, true, false, false, false, false, false, false, false, false, false, false, false, false, false, false, false, false, false, false, false, false, false, false, false, false, false, false, false, false, false, false, false, false, false, false, false, false, false, false, false, false, false] rfl rfl (by kernel_rfl) (fun _ _ _ h => h) (Or.inl ⟨by rfl, fun w' h => by have heq := HEx.out; go_simp⟩) hHeld ?_ ?_
  rotate_left
  · simp only [Act.put, List.setIfInBounds_toArray, List.set_cons_zero, List.set_cons_succ]
    rfl
  refine pure_ (i := 5) (N := some 51) (v := ?_) (a' := ?_) #[true, true, true, true, true, true, false, false, false, false, false, false, false, false, false, false, false, false, false, false, false, false, false, false, false, false, false, false, false, false, false, false, false, false, false, false, false, false, false, false, false, false, false, false, false, false] rfl rfl (by kernel_rfl) (fun _ _ _ h => h) (Or.inl ⟨by rfl, ?_⟩) ?_ ?_
  rotate_left
  · intro w_
    go_simp
    try with_reducible rfl
  rotate_left
  · simp only [Act.put, List.setIfInBounds_toArray, List.set_cons_zero, List.set_cons_succ]
    rfl
  refine pure_ (i := 6) (N := some 52) (v := ?_) (a' := ?_) #[true, true, true, true, true, true, true, false, false, false, false, false, false, false, false, false, false, false, false, false, false, false, false, false, false, false, false, false, false, false, false, false, false, false, false, false, false, false, false, false, false, false, false, false, false, false] rfl rfl (by kernel_rfl) (fun _ _ _ h => h) (Or.inl ⟨by rfl, ?_⟩) ?_ ?_
  rotate_left
  · intro w_
    go_simp
    try with_reducible rfl
  rotate_left
  · simp only [Act.put, List.setIfInBounds_toArray, List.set_cons_zero, List.set_cons_succ]
    rfl
  refine take_ (i := 7) (N := some 53) (v := .agg (vec a)) (a' := ?_) #[true, true, true, true, true, true, true, true, false, false, false, false, false, false, false, false, false, false, false, false, false, false, false, false, false, false, false, false, false, false, false, false, false, false, false, false, false, false, false, false, false, false, false, false, false, false] rfl rfl (by kernel_rfl) (fun _ _ _ h => h) (Or.inl ⟨by rfl, fun w' h => run_load_row 55 _ rfl w.heap.size rfl 55 _ _ _ (h.held.get 5 rfl) Try.underlying55 rfl Sa.out⟩) hHeld ?_ ?_
  rotate_left
  · simp only [Act.put, List.setIfInBounds_toArray, List.set_cons_zero, List.set_cons_succ]
    rfl
  refine take_ (i := 9) (N := some 55) (v := .agg (vec a)) (a' := ?_) #[true, true, true, true, true, true, true, true, false, true, false, false, false, false, false, false, false, false, false, false, false, false, false, false, false, false, false, false, false, false, false, false, false, false, false, false, false, false, false, false, false, false, false, false, false, false] rfl rfl (by kernel_rfl) (fun _ _ _ h => h) (Or.inl ⟨by rfl, fun w' h => run_load_row 55 _ rfl w.heap.size rfl 55 _ _ _ (h.held.get 5 rfl) Try.underlying55 rfl Sa.out⟩) hHeld ?_ ?_
  rotate_left
  · simp only [Act.put, List.setIfInBounds_toArray, List.set_cons_zero, List.set_cons_succ]
    rfl
  refine take_ (i := 12) (N := some 58) (v := .agg (vec a)) (a' := ?_) #[true, true, true, true, true, true, true, true, false, true, false, false, true, false, false, false, false, false, false, false, false, false, false, false, false, false, false, false, false, false, false, false, false, false, false, false, false, false, false, false, false, false, false, false, false, false] rfl rfl (by kernel_rfl) (fun _ _ _ h => h) (Or.inl ⟨by rfl, fun w' h => run_load_row 55 _ rfl w.heap.size rfl 55 _ _ _ (h.held.get 5 rfl) Try.underlying55 rfl Sa.out⟩) hHeld ?_ ?_
  rotate_left
  · simp only [Act.put, List.setIfInBounds_toArray, List.set_cons_zero, List.set_cons_succ]
    rfl
  refine one_ (i := 8) (N := some 54) #[true, true, true, true, true, true, true, true, true, true, false, false, true, false, false, false, false, false, false, false, false, false, false, false, false, false, false, false, false, false, false, false, false, false, false, false, false, false, false, false, false, false, false, false, false, false] rfl rfl (by kernel_rfl) (by decide) (fun K hK => ?_)
  refine goes_ Try.func30 (by kernel_rfl) rfl #[.agg (vec a)] (by rfl) rfl rfl (by (try simp only [List.map_toArray, List.map_cons, List.map_nil]); first | done | rfl) ?_
  (with_reducible refine (MA.out _).mono ?_)
  rintro e wr10 ⟨rfl, hr10⟩
  refine ⟨_, rfl, ?_⟩
  refine hK.out _ _ (hHeld.call hr10) (fun hHeld => ?_)
  clear hK K
  refine norm_ (a' := ?_) ?_ ?_
  rotate_left
  · show Act.put _ (some 54) _ = _
    simp only [Act.put, List.setIfInBounds_toArray, List.set_cons_zero, List.set_cons_succ]
    rfl
  refine one_ (i := 10) (N := some 56) #[true, true, true, true, true, true, true, true, true, true, true, false, true, false, false, false, false, false, false, false, false, false, false, false, false, false, false, false, false, false, false, false, false, false, false, false, false, false, false, false, false, false, false, false, false, false] rfl rfl (by kernel_rfl) (by decide) (fun K hK => ?_)
  refine goes_ Try.func30 (by kernel_rfl) rfl #[.agg (vec a)] (by rfl) rfl rfl (by (try simp only [List.map_toArray, List.map_cons, List.map_nil]); first | done | rfl) ?_
  (with_reducible refine (MA.out _).mono ?_)
  rintro e wr11 ⟨rfl, hr11⟩
  refine ⟨_, rfl, ?_⟩
  refine hK.out _ _ (hHeld.call hr11) (fun hHeld => ?_)
  clear hK K
  refine norm_ (a' := ?_) ?_ ?_
  rotate_left
  · show Act.put _ (some 56) _ = _
    simp only [Act.put, List.setIfInBounds_toArray, List.set_cons_zero, List.set_cons_succ]
    rfl
  refine one_ (i := 11) (N := some 57) #[true, true, true, true, true, true, true, true, true, true, true, true, true, false, false, false, false, false, false, false, false, false, false, false, false, false, false, false, false, false, false, false, false, false, false, false, false, false, false, false, false, false, false, false, false, false] rfl rfl (by kernel_rfl) (by decide) (fun K hK => ?_)
  refine goes_ Try.func29 (by kernel_rfl) rfl #[.agg (vec a), .agg (vec a)] (by rfl) rfl rfl (by (try simp only [List.map_toArray, List.map_cons, List.map_nil]); first | done | rfl) ?_
  (with_reducible refine (GA.out _).mono ?_)
  rintro e wr12 ⟨rfl, hr12⟩
  refine ⟨_, rfl, ?_⟩
  refine hK.out _ _ (hHeld.call hr12) (fun hHeld => ?_)
  clear hK K
  refine norm_ (a' := ?_) ?_ ?_
  rotate_left
  · show Act.put _ (some 57) _ = _
    simp only [Act.put, List.setIfInBounds_toArray, List.set_cons_zero, List.set_cons_succ]
    rfl
  refine one_ (i := 13) (N := some 59) #[true, true, true, true, true, true, true, true, true, true, true, true, true, true, false, false, false, false, false, false, false, false, false, false, false, false, false, false, false, false, false, false, false, false, false, false, false, false, false, false, false, false, false, false, false, false] rfl rfl (by kernel_rfl) (by decide) (fun K hK => ?_)
  refine goes_ Try.func30 (by kernel_rfl) rfl #[.agg (vec a)] (by rfl) rfl rfl (by (try simp only [List.map_toArray, List.map_cons, List.map_nil]); first | done | rfl) ?_
  (with_reducible refine (MA.out _).mono ?_)
  rintro e wr13 ⟨rfl, hr13⟩
  refine ⟨_, rfl, ?_⟩
  refine hK.out _ _ (hHeld.call hr13) (fun hHeld => ?_)
  clear hK K
  refine norm_ (a' := ?_) ?_ ?_
  rotate_left
  · show Act.put _ (some 59) _ = _
    simp only [Act.put, List.setIfInBounds_toArray, List.set_cons_zero, List.set_cons_succ]
    rfl
  refine take_ (i := 14) (N := some 60) (v := .bool true) (a' := ?_) #[true, true, true, true, true, true, true, true, true, true, true, true, true, true, true, false, false, false, false, false, false, false, false, false, false, false, false, false, false, false, false, false, false, false, false, false, false, false, false, false, false, false, false, false, false, false] rfl rfl (by kernel_rfl) (fun _ _ _ h => h) (Or.inl ⟨by rfl, fun w' h => by have heq := HEa.out; go_simp⟩) hHeld ?_ ?_
  rotate_left
  · simp only [Act.put, List.setIfInBounds_toArray, List.set_cons_zero, List.set_cons_succ]
    rfl
  refine pure_ (i := 15) (N := some 61) (v := ?_) (a' := ?_) #[true, true, true, true, true, true, true, true, true, true, true, true, true, true, true, true, false, false, false, false, false, false, false, false, false, false, false, false, false, false, false, false, false, false, false, false, false, false, false, false, false, false, false, false, false, false] rfl rfl (by kernel_rfl) (fun _ _ _ h => h) (Or.inl ⟨by rfl, ?_⟩) ?_ ?_
  rotate_left
  · intro w_
    go_simp
    try with_reducible rfl
  rotate_left
  · simp only [Act.put, List.setIfInBounds_toArray, List.set_cons_zero, List.set_cons_succ]
    rfl
  refine pure_ (i := 16) (N := some 62) (v := ?_) (a' := ?_) #[true, true, true, true, true, true, true, true, true, true, true, true, true, true, true, true, true, false, false, false, false, false, false, false, false, false, false, false, false, false, false, false, false, false, false, false, false, false, false, false, false, false, false, false, false, false] rfl rfl (by kernel_rfl) (fun _ _ _ h => h) (Or.inl ⟨by rfl, ?_⟩) ?_ ?_
  rotate_left
  · intro w_
    go_simp
    try with_reducible rfl
  rotate_left
  · simp only [Act.put, List.setIfInBounds_toArray, List.set_cons_zero, List.set_cons_succ]
    rfl
  refine pure_ (i := 17) (N := some 63) (v := ?_) (a' := ?_) #[true, true, true, true, true, true, true, true, true, true, true, true, true, true, true, true, true, true, false, false, false, false, false, false, false, false, false, false, false, false, false, false, false, false, false, false, false, false, false, false, false, false, false, false, false, false] rfl rfl (by kernel_rfl) (fun _ _ _ h => h) (Or.inl ⟨by rfl, ?_⟩) ?_ ?_
  rotate_left
  · intro w_
    go_simp
    try with_reducible rfl
  rotate_left
  · simp only [Act.put, List.setIfInBounds_toArray, List.set_cons_zero, List.set_cons_succ]
    rfl
  refine take_ (i := 19) (N := some 65) (v := .agg (vec o)) (a' := ?_) #[true, true, true, true, true, true, true, true, true, true, true, true, true, true, true, true, true, true, false, true, false, false, false, false, false, false, false, false, false, false, false, false, false, false, false, false, false, false, false, false, false, false, false, false, false, false] rfl rfl (by kernel_rfl) (fun _ _ _ h => h) (Or.inl ⟨by rfl, fun w' h => run_load_row 46 _ rfl bo rfl 46 _ _ _ (h.held.get 0 rfl) Try.underlying46 rfl So.out⟩) hHeld ?_ ?_
  rotate_left
  · simp only [Act.put, List.setIfInBounds_toArray, List.set_cons_zero, List.set_cons_succ]
    rfl
  refine one_ (i := 18) (N := some 64) #[true, true, true, true, true, true, true, true, true, true, true, true, true, true, true, true, true, true, true, true, false, false, false, false, false, false, false, false, false, false, false, false, false, false, false, false, false, false, false, false, false, false, false, false, false, false] rfl rfl (by kernel_rfl) (by decide) (fun K hK => ?_)
  refine goes_ Try.func31 (by kernel_rfl) rfl #[.pointer (some ⟨bm, 0, none⟩), .int .i64 0] (by rfl) rfl rfl (by (try simp only [List.map_toArray, List.map_cons, List.map_nil]); first | done | rfl) ?_
  (with_reducible refine (HR1.out _ hHeld).mono ?_)
  rintro e wr14 ⟨rfl, hr14⟩
  refine ⟨_, rfl, ?_⟩
  refine hK.out _ _ (hHeld.call hr14) (fun hHeld => ?_)
  clear hK K
  refine norm_ (a' := ?_) ?_ ?_
  rotate_left
  · show Act.put _ (some 64) _ = _
    simp only [Act.put, List.setIfInBounds_toArray, List.set_cons_zero, List.set_cons_succ]
    rfl
  refine take_ (i := 20) (N := some 66) (v := .bool true) (a' := ?_) #[true, true, true, true, true, true, true, true, true, true, true, true, true, true, true, true, true, true, true, true, true, false, false, false, false, false, false, false, false, false, false, false, false, false, false, false, false, false, false, false, false, false, false, false, false, false] rfl rfl (by kernel_rfl) (fun _ _ _ h => h) (Or.inl ⟨by rfl, fun w' h => by have heq := HEo.out; go_simp⟩) hHeld ?_ ?_
  rotate_left
  · simp only [Act.put, List.setIfInBounds_toArray, List.set_cons_zero, List.set_cons_succ]
    rfl
  refine pure_ (i := 21) (N := some 67) (v := ?_) (a' := ?_) #[true, true, true, true, true, true, true, true, true, true, true, true, true, true, true, true, true, true, true, true, true, true, false, false, false, false, false, false, false, false, false, false, false, false, false, false, false, false, false, false, false, false, false, false, false, false] rfl rfl (by kernel_rfl) (fun _ _ _ h => h) (Or.inl ⟨by rfl, ?_⟩) ?_ ?_
  rotate_left
  · intro w_
    go_simp
    try with_reducible rfl
  rotate_left
  · simp only [Act.put, List.setIfInBounds_toArray, List.set_cons_zero, List.set_cons_succ]
    rfl
  refine pure_ (i := 22) (N := some 68) (v := ?_) (a' := ?_) #[true, true, true, true, true, true, true, true, true, true, true, true, true, true, true, true, true, true, true, true, true, true, true, false, false, false, false, false, false, false, false, false, false, false, false, false, false, false, false, false, false, false, false, false, false, false] rfl rfl (by kernel_rfl) (fun _ _ _ h => h) (Or.inl ⟨by rfl, ?_⟩) ?_ ?_
  rotate_left
  · intro w_
    go_simp
    try with_reducible rfl
  rotate_left
  · simp only [Act.put, List.setIfInBounds_toArray, List.set_cons_zero, List.set_cons_succ]
    rfl
  refine pure_ (i := 23) (N := some 69) (v := ?_) (a' := ?_) #[true, true, true, true, true, true, true, true, true, true, true, true, true, true, true, true, true, true, true, true, true, true, true, true, false, false, false, false, false, false, false, false, false, false, false, false, false, false, false, false, false, false, false, false, false, false] rfl rfl (by kernel_rfl) (fun _ _ _ h => h) (Or.inl ⟨by rfl, ?_⟩) ?_ ?_
  rotate_left
  · intro w_
    go_simp
    try with_reducible rfl
  rotate_left
  · simp only [Act.put, List.setIfInBounds_toArray, List.set_cons_zero, List.set_cons_succ]
    rfl
  refine take_ (i := 25) (N := some 71) (v := .agg (vec zero9)) (a' := ?_) #[true, true, true, true, true, true, true, true, true, true, true, true, true, true, true, true, true, true, true, true, true, true, true, true, false, true, false, false, false, false, false, false, false, false, false, false, false, false, false, false, false, false, false, false, false, false] rfl rfl (by kernel_rfl) (fun _ _ _ h => h) (Or.inl ⟨by rfl, fun w' h => by have hb := build_none w'; unfold execOp; simp only [Act.eval]; simp [hb]⟩) hHeld ?_ ?_
  rotate_left
  · simp only [Act.put, List.setIfInBounds_toArray, List.set_cons_zero, List.set_cons_succ]
    rfl
  refine one_ (i := 24) (N := some 70) #[true, true, true, true, true, true, true, true, true, true, true, true, true, true, true, true, true, true, true, true, true, true, true, true, true, true, false, false, false, false, false, false, false, false, false, false, false, false, false, false, false, false, false, false, false, false] rfl rfl (by kernel_rfl) (by decide) (fun K hK => ?_)
  refine goes_ Try.func31 (by kernel_rfl) rfl #[.pointer (some ⟨bm, 0, none⟩), .int .i64 1] (by rfl) rfl rfl (by (try simp only [List.map_toArray, List.map_cons, List.map_nil]); first | done | rfl) ?_
  (with_reducible refine (HR2.out _ hHeld).mono ?_)
  rintro e wr15 ⟨rfl, hr15⟩
  refine ⟨_, rfl, ?_⟩
  refine hK.out _ _ (hHeld.call hr15) (fun hHeld => ?_)
  clear hK K
  refine norm_ (a' := ?_) ?_ ?_
  rotate_left
  · show Act.put _ (some 70) _ = _
    simp only [Act.put, List.setIfInBounds_toArray, List.set_cons_zero, List.set_cons_succ]
    rfl
  refine take_ (i := 26) (N := some 72) (v := .bool true) (a' := ?_) #[true, true, true, true, true, true, true, true, true, true, true, true, true, true, true, true, true, true, true, true, true, true, true, true, true, true, true, false, false, false, false, false, false, false, false, false, false, false, false, false, false, false, false, false, false, false] rfl rfl (by kernel_rfl) (fun _ _ _ h => h) (Or.inl ⟨by rfl, fun w' h => by have heq := HEz.out; go_simp⟩) hHeld ?_ ?_
  rotate_left
  · simp only [Act.put, List.setIfInBounds_toArray, List.set_cons_zero, List.set_cons_succ]
    rfl
  refine pure_ (i := 27) (N := some 73) (v := ?_) (a' := ?_) #[true, true, true, true, true, true, true, true, true, true, true, true, true, true, true, true, true, true, true, true, true, true, true, true, true, true, true, true, false, false, false, false, false, false, false, false, false, false, false, false, false, false, false, false, false, false] rfl rfl (by kernel_rfl) (fun _ _ _ h => h) (Or.inl ⟨by rfl, ?_⟩) ?_ ?_
  rotate_left
  · intro w_
    go_simp
    try with_reducible rfl
  rotate_left
  · simp only [Act.put, List.setIfInBounds_toArray, List.set_cons_zero, List.set_cons_succ]
    rfl
  refine pure_ (i := 28) (N := some 74) (v := ?_) (a' := ?_) #[true, true, true, true, true, true, true, true, true, true, true, true, true, true, true, true, true, true, true, true, true, true, true, true, true, true, true, true, true, false, false, false, false, false, false, false, false, false, false, false, false, false, false, false, false, false] rfl rfl (by kernel_rfl) (fun _ _ _ h => h) (Or.inl ⟨by rfl, ?_⟩) ?_ ?_
  rotate_left
  · intro w_
    go_simp
    try with_reducible rfl
  rotate_left
  · simp only [Act.put, List.setIfInBounds_toArray, List.set_cons_zero, List.set_cons_succ]
    rfl
  refine pure_ (i := 29) (N := some 75) (v := ?_) (a' := ?_) #[true, true, true, true, true, true, true, true, true, true, true, true, true, true, true, true, true, true, true, true, true, true, true, true, true, true, true, true, true, true, false, false, false, false, false, false, false, false, false, false, false, false, false, false, false, false] rfl rfl (by kernel_rfl) (fun _ _ _ h => h) (Or.inl ⟨by rfl, ?_⟩) ?_ ?_
  rotate_left
  · intro w_
    go_simp
    try with_reducible rfl
  rotate_left
  · simp only [Act.put, List.setIfInBounds_toArray, List.set_cons_zero, List.set_cons_succ]
    rfl
  refine pure_ (i := 30) (N := some 76) (v := ?_) (a' := ?_) #[true, true, true, true, true, true, true, true, true, true, true, true, true, true, true, true, true, true, true, true, true, true, true, true, true, true, true, true, true, true, true, false, false, false, false, false, false, false, false, false, false, false, false, false, false, false] rfl rfl (by kernel_rfl) (fun _ _ _ h => h) (Or.inl ⟨by rfl, ?_⟩) ?_ ?_
  rotate_left
  · intro w_
    go_simp
    try with_reducible rfl
  rotate_left
  · simp only [Act.put, List.setIfInBounds_toArray, List.set_cons_zero, List.set_cons_succ]
    rfl
  refine pure_ (i := 31) (N := some 77) (v := ?_) (a' := ?_) #[true, true, true, true, true, true, true, true, true, true, true, true, true, true, true, true, true, true, true, true, true, true, true, true, true, true, true, true, true, true, true, true, false, false, false, false, false, false, false, false, false, false, false, false, false, false] rfl rfl (by kernel_rfl) (fun _ _ _ h => h) (Or.inl ⟨by rfl, ?_⟩) ?_ ?_
  rotate_left
  · intro w_
    go_simp
    try with_reducible rfl
  rotate_left
  · simp only [Act.put, List.setIfInBounds_toArray, List.set_cons_zero, List.set_cons_succ]
    rfl
  refine pure_ (i := 32) (N := some 78) (v := ?_) (a' := ?_) #[true, true, true, true, true, true, true, true, true, true, true, true, true, true, true, true, true, true, true, true, true, true, true, true, true, true, true, true, true, true, true, true, true, false, false, false, false, false, false, false, false, false, false, false, false, false] rfl rfl (by kernel_rfl) (fun _ _ _ h => h) (Or.inl ⟨by rfl, ?_⟩) ?_ ?_
  rotate_left
  · intro w_
    go_simp
    try with_reducible rfl
  rotate_left
  · simp only [Act.put, List.setIfInBounds_toArray, List.set_cons_zero, List.set_cons_succ]
    rfl
  refine pure_ (i := 33) (N := some 79) (v := ?_) (a' := ?_) #[true, true, true, true, true, true, true, true, true, true, true, true, true, true, true, true, true, true, true, true, true, true, true, true, true, true, true, true, true, true, true, true, true, true, false, false, false, false, false, false, false, false, false, false, false, false] rfl rfl (by kernel_rfl) (fun _ _ _ h => h) (Or.inl ⟨by rfl, ?_⟩) ?_ ?_
  rotate_left
  · intro w_
    go_simp
    try with_reducible rfl
  rotate_left
  · simp only [Act.put, List.setIfInBounds_toArray, List.set_cons_zero, List.set_cons_succ]
    rfl
  refine pure_ (i := 34) (N := some 80) (v := ?_) (a' := ?_) #[true, true, true, true, true, true, true, true, true, true, true, true, true, true, true, true, true, true, true, true, true, true, true, true, true, true, true, true, true, true, true, true, true, true, true, false, false, false, false, false, false, false, false, false, false, false] rfl rfl (by kernel_rfl) (fun _ _ _ h => h) (Or.inl ⟨by rfl, ?_⟩) ?_ ?_
  rotate_left
  · intro w_
    go_simp
    try with_reducible rfl
  rotate_left
  · simp only [Act.put, List.setIfInBounds_toArray, List.set_cons_zero, List.set_cons_succ]
    rfl
  refine pure_ (i := 35) (N := some 81) (v := ?_) (a' := ?_) #[true, true, true, true, true, true, true, true, true, true, true, true, true, true, true, true, true, true, true, true, true, true, true, true, true, true, true, true, true, true, true, true, true, true, true, true, false, false, false, false, false, false, false, false, false, false] rfl rfl (by kernel_rfl) (fun _ _ _ h => h) (Or.inl ⟨by rfl, ?_⟩) ?_ ?_
  rotate_left
  · intro w_
    go_simp
    try with_reducible rfl
  rotate_left
  · simp only [Act.put, List.setIfInBounds_toArray, List.set_cons_zero, List.set_cons_succ]
    rfl
  first
    | (refine take_ (i := 36) (N := some 82) (v := .agg (vec o)) (a' := ?_) #[true, true, true, true, true, true, true, true, true, true, true, true, true, true, true, true, true, true, true, true, true, true, true, true, true, true, true, true, true, true, true, true, true, true, true, true, true, false, false, false, false, false, false, false, false, false] rfl rfl (by kernel_rfl) (fun _ _ _ h => h) (Or.inl ⟨by rfl, fun w' h => run_load_row 46 _ rfl bo rfl 46 _ _ _ (h.held.get 0 rfl) Try.underlying46 rfl So.out⟩) hHeld ?_ ?_
       rotate_left
       · simp only [Act.put, List.setIfInBounds_toArray, List.set_cons_zero, List.set_cons_succ]
         rfl)
    | (refine pure_ (i := 36) (N := some 82) (v := undef) (a' := ?_) #[true, true, true, true, true, true, true, true, true, true, true, true, true, true, true, true, true, true, true, true, true, true, true, true, true, true, true, true, true, true, true, true, true, true, true, true, true, false, false, false, false, false, false, false, false, false] rfl rfl (by kernel_rfl) (fun _ _ _ h => h) (Or.inr ⟨by rfl, rfl⟩) ?_ ?_
       rotate_left
       · simp only [Act.put, List.setIfInBounds_toArray, List.set_cons_zero, List.set_cons_succ]
         rfl)
  first
    | (refine take_ (i := 37) (N := some 83) (v := .agg (vec a)) (a' := ?_) #[true, true, true, true, true, true, true, true, true, true, true, true, true, true, true, true, true, true, true, true, true, true, true, true, true, true, true, true, true, true, true, true, true, true, true, true, true, true, false, false, false, false, false, false, false, false] rfl rfl (by kernel_rfl) (fun _ _ _ h => h) (Or.inl ⟨by rfl, fun w' h => run_load_row 55 _ rfl w.heap.size rfl 55 _ _ _ (h.held.get 5 rfl) Try.underlying55 rfl Sa.out⟩) hHeld ?_ ?_
       rotate_left
       · simp only [Act.put, List.setIfInBounds_toArray, List.set_cons_zero, List.set_cons_succ]
         rfl)
    | (refine pure_ (i := 37) (N := some 83) (v := undef) (a' := ?_) #[true, true, true, true, true, true, true, true, true, true, true, true, true, true, true, true, true, true, true, true, true, true, true, true, true, true, true, true, true, true, true, true, true, true, true, true, true, true, false, false, false, false, false, false, false, false] rfl rfl (by kernel_rfl) (fun _ _ _ h => h) (Or.inr ⟨by rfl, rfl⟩) ?_ ?_
       rotate_left
       · simp only [Act.put, List.setIfInBounds_toArray, List.set_cons_zero, List.set_cons_succ]
         rfl)
  first
    | (refine take_ (i := 39) (N := some 85) (v := .agg (vec b)) (a' := ?_) #[true, true, true, true, true, true, true, true, true, true, true, true, true, true, true, true, true, true, true, true, true, true, true, true, true, true, true, true, true, true, true, true, true, true, true, true, true, true, false, true, false, false, false, false, false, false] rfl rfl (by kernel_rfl) (fun _ _ _ h => h) (Or.inl ⟨by rfl, fun w' h => run_load_row 55 _ rfl (w.heap.size + 1) rfl 55 _ _ _ (h.held.get 4 rfl) Try.underlying55 rfl Sb.out⟩) hHeld ?_ ?_
       rotate_left
       · simp only [Act.put, List.setIfInBounds_toArray, List.set_cons_zero, List.set_cons_succ]
         rfl)
    | (refine pure_ (i := 39) (N := some 85) (v := undef) (a' := ?_) #[true, true, true, true, true, true, true, true, true, true, true, true, true, true, true, true, true, true, true, true, true, true, true, true, true, true, true, true, true, true, true, true, true, true, true, true, true, true, false, true, false, false, false, false, false, false] rfl rfl (by kernel_rfl) (fun _ _ _ h => h) (Or.inr ⟨by rfl, rfl⟩) ?_ ?_
       rotate_left
       · simp only [Act.put, List.setIfInBounds_toArray, List.set_cons_zero, List.set_cons_succ]
         rfl)
  first
    | (refine one_ (i := 38) (N := some 84) #[true, true, true, true, true, true, true, true, true, true, true, true, true, true, true, true, true, true, true, true, true, true, true, true, true, true, true, true, true, true, true, true, true, true, true, true, true, true, true, true, false, false, false, false, false, false] rfl rfl (by kernel_rfl) (by decide) (fun K hK => ?_)
       refine goes_ Try.func30 (by kernel_rfl) rfl #[.agg (vec a)] (by rfl) rfl rfl (by (try simp only [List.map_toArray, List.map_cons, List.map_nil]); first | done | rfl) ?_
       (with_reducible refine (MA.out _).mono ?_)
       rintro e wr16 ⟨rfl, hr16⟩
       refine ⟨_, rfl, ?_⟩
       refine hK.out _ _ (hHeld.call hr16) (fun hHeld => ?_)
       clear hK K
       refine norm_ (a' := ?_) ?_ ?_
       rotate_left
       · show Act.put _ (some 84) _ = _
         simp only [Act.put, List.setIfInBounds_toArray, List.set_cons_zero, List.set_cons_succ]
         rfl)
    | (refine pure_ (i := 38) (N := some 84) (v := undef) (a' := ?_) #[true, true, true, true, true, true, true, true, true, true, true, true, true, true, true, true, true, true, true, true, true, true, true, true, true, true, true, true, true, true, true, true, true, true, true, true, true, true, true, true, false, false, false, false, false, false] rfl rfl (by kernel_rfl) (fun _ _ _ h => h) (Or.inr ⟨by rfl, rfl⟩) ?_ ?_
       rotate_left
       · simp only [Act.put, List.setIfInBounds_toArray, List.set_cons_zero, List.set_cons_succ]
         rfl)
  first
    | (refine one_ (i := 40) (N := some 86) #[true, true, true, true, true, true, true, true, true, true, true, true, true, true, true, true, true, true, true, true, true, true, true, true, true, true, true, true, true, true, true, true, true, true, true, true, true, true, true, true, true, false, false, false, false, false] rfl rfl (by kernel_rfl) (by decide) (fun K hK => ?_)
       refine goes_ Try.func30 (by kernel_rfl) rfl #[.agg (vec b)] (by rfl) rfl rfl (by (try simp only [List.map_toArray, List.map_cons, List.map_nil]); first | done | rfl) ?_
       (with_reducible refine (MB.out _).mono ?_)
       rintro e wr17 ⟨rfl, hr17⟩
       refine ⟨_, rfl, ?_⟩
       refine hK.out _ _ (hHeld.call hr17) (fun hHeld => ?_)
       clear hK K
       refine norm_ (a' := ?_) ?_ ?_
       rotate_left
       · show Act.put _ (some 86) _ = _
         simp only [Act.put, List.setIfInBounds_toArray, List.set_cons_zero, List.set_cons_succ]
         rfl)
    | (refine pure_ (i := 40) (N := some 86) (v := undef) (a' := ?_) #[true, true, true, true, true, true, true, true, true, true, true, true, true, true, true, true, true, true, true, true, true, true, true, true, true, true, true, true, true, true, true, true, true, true, true, true, true, true, true, true, true, false, false, false, false, false] rfl rfl (by kernel_rfl) (fun _ _ _ h => h) (Or.inr ⟨by rfl, rfl⟩) ?_ ?_
       rotate_left
       · simp only [Act.put, List.setIfInBounds_toArray, List.set_cons_zero, List.set_cons_succ]
         rfl)
  first
    | (refine one_ (i := 41) (N := some 87) #[true, true, true, true, true, true, true, true, true, true, true, true, true, true, true, true, true, true, true, true, true, true, true, true, true, true, true, true, true, true, true, true, true, true, true, true, true, true, true, true, true, true, false, false, false, false] rfl rfl (by kernel_rfl) (by decide) (fun K hK => ?_)
       refine goes_ Try.func29 (by kernel_rfl) rfl #[.agg (vec a), .agg (vec b)] (by rfl) rfl rfl (by (try simp only [List.map_toArray, List.map_cons, List.map_nil]); first | done | rfl) ?_
       (with_reducible refine (G1.out _).mono ?_)
       rintro e wr18 ⟨rfl, hr18⟩
       refine ⟨_, rfl, ?_⟩
       refine hK.out _ _ (hHeld.call hr18) (fun hHeld => ?_)
       clear hK K
       refine norm_ (a' := ?_) ?_ ?_
       rotate_left
       · show Act.put _ (some 87) _ = _
         simp only [Act.put, List.setIfInBounds_toArray, List.set_cons_zero, List.set_cons_succ]
         rfl)
    | (refine pure_ (i := 41) (N := some 87) (v := undef) (a' := ?_) #[true, true, true, true, true, true, true, true, true, true, true, true, true, true, true, true, true, true, true, true, true, true, true, true, true, true, true, true, true, true, true, true, true, true, true, true, true, true, true, true, true, true, false, false, false, false] rfl rfl (by kernel_rfl) (fun _ _ _ h => h) (Or.inr ⟨by rfl, rfl⟩) ?_ ?_
       rotate_left
       · simp only [Act.put, List.setIfInBounds_toArray, List.set_cons_zero, List.set_cons_succ]
         rfl)
  first
    | (refine take_ (i := 42) (N := some 88) (v := .bool true) (a' := ?_) #[true, true, true, true, true, true, true, true, true, true, true, true, true, true, true, true, true, true, true, true, true, true, true, true, true, true, true, true, true, true, true, true, true, true, true, true, true, true, true, true, true, true, true, false, false, false] rfl rfl (by kernel_rfl) (fun _ _ _ h => h) (Or.inl ⟨by rfl, fun w' h => by have heq := HEo.out; go_simp⟩) hHeld ?_ ?_
       rotate_left
       · simp only [Act.put, List.setIfInBounds_toArray, List.set_cons_zero, List.set_cons_succ]
         rfl)
    | (refine pure_ (i := 42) (N := some 88) (v := undef) (a' := ?_) #[true, true, true, true, true, true, true, true, true, true, true, true, true, true, true, true, true, true, true, true, true, true, true, true, true, true, true, true, true, true, true, true, true, true, true, true, true, true, true, true, true, true, true, false, false, false] rfl rfl (by kernel_rfl) (fun _ _ _ h => h) (Or.inr ⟨by rfl, rfl⟩) ?_ ?_
       rotate_left
       · simp only [Act.put, List.setIfInBounds_toArray, List.set_cons_zero, List.set_cons_succ]
         rfl)
  refine pure_ (i := 43) (N := some 89) (v := ?_) (a' := ?_) #[true, true, true, true, true, true, true, true, true, true, true, true, true, true, true, true, true, true, true, true, true, true, true, true, true, true, true, true, true, true, true, true, true, true, true, true, true, true, true, true, true, true, true, true, false, false] rfl rfl (by kernel_rfl) (fun _ _ _ h => h) (Or.inl ⟨by rfl, ?_⟩) ?_ ?_
  rotate_left
  · intro w_
    go_simp
    try with_reducible rfl
  rotate_left
  · simp only [Act.put, List.setIfInBounds_toArray, List.set_cons_zero, List.set_cons_succ]
    rfl
  refine pure_ (i := 44) (N := some 90) (v := ?_) (a' := ?_) #[true, true, true, true, true, true, true, true, true, true, true, true, true, true, true, true, true, true, true, true, true, true, true, true, true, true, true, true, true, true, true, true, true, true, true, true, true, true, true, true, true, true, true, true, true, false] rfl rfl (by kernel_rfl) (fun _ _ _ h => h) (Or.inl ⟨by rfl, ?_⟩) ?_ ?_
  rotate_left
  · intro w_
    go_simp
    try with_reducible rfl
  rotate_left
  · simp only [Act.put, List.setIfInBounds_toArray, List.set_cons_zero, List.set_cons_succ]
    rfl
  refine pure_ (i := 45) (N := some 6) (v := ?_) (a' := ?_) #[true, true, true, true, true, true, true, true, true, true, true, true, true, true, true, true, true, true, true, true, true, true, true, true, true, true, true, true, true, true, true, true, true, true, true, true, true, true, true, true, true, true, true, true, true, true] rfl rfl (by kernel_rfl) (fun _ _ _ h => h) (Or.inl ⟨by rfl, ?_⟩) ?_ ?_
  rotate_left
  · intro w_
    go_simp
    try with_reducible rfl
  rotate_left
  · simp only [Act.put, List.setIfInBounds_toArray, List.set_cons_zero, List.set_cons_succ]
    rfl
  refine done_ (by kernel_rfl) ?_
  go_wp2
  go_ret
  exact ⟨rfl, hHeld.held.2⟩

set_option maxHeartbeats 8000000 in
set_option maxRecDepth 100000 in
theorem arm0 (q : Bool) (a b c : List Int) (ha : a.length = 9) (hb : b.length = 9) (hc : c.length = 9) (pa : mayV a = false) (pb : mayV b = q) (w : World) :
    Calls Try.prog 7 #[.agg (vec a), .agg (vec b), .agg (vec c)] w fun e w' => e = .returned (.bool true) ∧ Below w.heap.size w w' := by
  have HS := Hd.mk mat_shown
  have H0 := Hd.mk (Holds.start3 w (.cells (vec a) 55) (.cells (vec b) 55) (.cells (vec c) 55))
  have MA := Hd.mk (row_made a ha)
  have MB := Hd.mk (row_made b hb)
  have MC := Hd.mk (row_made c hc)
  have j9 := join9 ha hb
  have G1 := Hd.mk (row_Merge a b ha hb)
  have G2 := Hd.mk (row_Merge (joinL a b) c j9 hc)
  have G3 := Hd.mk (row_Merge b a hb ha)
  have G4 := Hd.mk (row_Merge c (joinL b a) hc (join9 hb ha))
  rw [← merge3] at G4
  have GA := Hd.mk (row_Merge a a ha ha)
  rw [joinS] at GA
  have x9 := Hd.mk (join9 j9 hc)
  have Sa := Hd.mk (show (Try.prog.info? 55).map (·.size) = some (vec a).size by rw [vec_size, ha]; exact size_rrow)
  have Sb := Hd.mk (show (Try.prog.info? 55).map (·.size) = some (vec b).size by rw [vec_size, hb]; exact size_rrow)
  have Sc := Hd.mk (show (Try.prog.info? 55).map (·.size) = some (vec c).size by rw [vec_size, hc]; exact size_rrow)
  obtain ⟨l1, l2, l3, e1, e2, e3⟩ := merges_law ha hb
  have HN := Hd.mk (mat_New 2 (by omega) (by omega))
  have HT1 := Hd.mk (fun (w' : World) (m : Nat) (h : MatIs m 2 zero72 w') => mat_TellG h rfl (by omega) 0 ha)
  have HT2 := Hd.mk (fun (w' : World) (m : Nat) (h : MatIs m 2 (told 2 zero72 0 a) w') => mat_TellG h l1 (by omega) 0 hb)
  have HT3 := Hd.mk (fun (w' : World) (m : Nat) (h : MatIs m 2 (told 2 (told 2 zero72 0 a) 0 b) w') => mat_TellG h l2 (by omega) 0 ha)
  have HR0 := Hd.mk (fun (w' : World) (m : Nat) (h : MatIs m 2 (told 2 (told 2 zero72 0 a) 0 b) w') => mat_Row h l2 0 (by omega) (by omega))
  have HR1 := Hd.mk (fun (w' : World) (m : Nat) (h : MatIs m 2 (told 2 (told 2 (told 2 zero72 0 a) 0 b) 0 a) w') => mat_Row h l3 0 (by omega) (by omega))
  have HR2 := Hd.mk (fun (w' : World) (m : Nat) (h : MatIs m 2 (told 2 (told 2 (told 2 zero72 0 a) 0 b) 0 a) w') => mat_Row h l3 1 (by omega) (by omega))
  rw [e1] at HR1
  rw [e2] at HR2
  rw [takes0, pa] at HT1 HT3
  rw [takes0, pb] at HT2
  simp only [show ((0 : Nat) : Int) = 0 from rfl, show ((1 : Nat) : Int) = 1 from rfl] at HR0 HR1 HR2
  have o9 := Hd.mk (rowM_len l2 (k := 0) (by omega))
  have HEa := Hd.mk (fun w => eqRow 9997 ha ha w)
  have HEx := Hd.mk (fun w => eqRow 9997 x9.out x9.out w)
  have HEo := Hd.mk (fun w => eqRow 9997 o9.out o9.out w)
  have HEz := Hd.mk (fun w => eqRow 9997 (a := zero9) (b := zero9) rfl rfl w)
  rw [eqV_refl] at HEa HEx HEo HEz
  have e3' : True := trivial
  have Sx := Hd.mk (show (Try.prog.info? 46).map (·.size) = some (vec (joinL (joinL a b) c)).size by rw [vec_size, x9.out]; exact size_row)
  have So := Hd.mk (show (Try.prog.info? 46).map (·.size) = some (vec (rowM (told 2 (told 2 zero72 0 a) 0 b) 0)).size by rw [vec_size, o9.out]; exact size_row)
  have Zx := Hd.mk (show (vec zero9).size = (vec (joinL (joinL a b) c)).size by rw [vec_size, vec_size, x9.out]; rfl)
  have Zo := Hd.mk (show (vec zero9).size = (vec (rowM (told 2 (told 2 zero72 0 a) 0 b) 0)).size by rw [vec_size, vec_size, o9.out]; rfl)
  clear l1 l2 l3 e1 e2 e3 j9 x9 o9 ha hb hc pa pb
  generalize told 2 (told 2 (told 2 zero72 0 a) 0 b) 0 a = L3 at *
  skip
  generalize rowM (told 2 (told 2 zero72 0 a) 0 b) 0 = o at *
  clear e3'
  generalize told 2 (told 2 zero72 0 a) 0 b = L2 at *
  generalize told 2 zero72 0 a = L1 at *
  generalize joinL (joinL a b) c = x at *
  generalize joinL a b = j1 at *
  generalize joinL b a = j2 at *
  go_enter Try.func7, Try.ntmps7
  go_upto_region 1 with (fail)
  generalize ((w.alloc (.cells (vec a) 55)).alloc (.cells (vec b) 55)).alloc (.cells (vec c) 55) = W at *
  go_wp2_with fail
  refine (HS.out _).mono ?_; rintro e w1 ⟨rfl, h1⟩
  have H1 := Hd.mk (H0.out.call h1)
  clear H0 h1 HS
  go_upto_region 2 with (fail)
  refine start_ (n := 10) (S := fun W_ => Holds w [(w.heap.size + 1 + 1, .cells (vec c) 55 (0, 0)), (w.heap.size + 1, .cells (vec b) 55 (0, 0)), (w.heap.size, .cells (vec a) 55 (0, 0))] W_) (ds := [9]) #[false, false, false, false, false, false, false, false, false, false] (by kernel_rfl) rfl rfl (H1.out.drew) (fun hHeld => ?_)
  refine take_ (i := 0) (N := some 15) (v := .agg (vec a)) (a' := ?_) #[true, false, false, false, false, false, false, false, false, false] rfl rfl (by kernel_rfl) (fun _ _ _ h => h) (Or.inl ⟨by rfl, fun w' h => run_load_row 55 _ rfl w.heap.size rfl 55 _ _ _ (h.get 2 rfl) Try.underlying55 rfl Sa.out⟩) hHeld ?_ ?_
  rotate_left
  · simp only [Act.put, List.setIfInBounds_toArray, List.set_cons_zero, List.set_cons_succ]
    rfl
  refine take_ (i := 2) (N := some 17) (v := .agg (vec b)) (a' := ?_) #[true, false, true, false, false, false, false, false, false, false] rfl rfl (by kernel_rfl) (fun _ _ _ h => h) (Or.inl ⟨by rfl, fun w' h => run_load_row 55 _ rfl (w.heap.size + 1) rfl 55 _ _ _ (h.get 1 rfl) Try.underlying55 rfl Sb.out⟩) hHeld ?_ ?_
  rotate_left
  · simp only [Act.put, List.setIfInBounds_toArray, List.set_cons_zero, List.set_cons_succ]
    rfl
  refine take_ (i := 5) (N := some 20) (v := .agg (vec c)) (a' := ?_) #[true, false, true, false, false, true, false, false, false, false] rfl rfl (by kernel_rfl) (fun _ _ _ h => h) (Or.inl ⟨by rfl, fun w' h => run_load_row 55 _ rfl (w.heap.size + 1 + 1) rfl 55 _ _ _ (h.get 0 rfl) Try.underlying55 rfl Sc.out⟩) hHeld ?_ ?_
  rotate_left
  · simp only [Act.put, List.setIfInBounds_toArray, List.set_cons_zero, List.set_cons_succ]
    rfl
  refine join_ (σ := Nat) 1 #[true, true, true, true, true, true, true, true, true, false] (fun q => [(16, .agg (vec a)), (18, .agg (vec b)), (19, .agg (vec j1)), (21, .agg (vec c)), (22, .agg (vec x)), (8, .pointer (some ⟨q, 0, none⟩))]) (fun q w_ => NewHolds w q (.cells (vec zero9) 46 (0, 0)) ([(w.heap.size + 1 + 1, .cells (vec c) 55 (0, 0)), (w.heap.size + 1, .cells (vec b) 55 (0, 0)), (w.heap.size, .cells (vec a) 55 (0, 0))]) w_) ?_ (fun hcont => ?_)
  rotate_left
  · skip
    refine two_ (i := 1) (j := 8) (Ni := some 16) (Nj := some 8) #[true, true, true, false, false, true, false, false, false, false] #[true, false, true, false, false, true, false, false, true, false] rfl rfl rfl rfl (by kernel_rfl) (by decide) (by decide) (fun K hK => ?_) (fun K hK => ?_)
    · skip
      refine goes_ Try.func30 (by kernel_rfl) rfl #[.agg (vec a)] (by rfl) rfl rfl (by (try simp only [List.map_toArray, List.map_cons, List.map_nil]); first | done | rfl) ?_
      (with_reducible refine (MA.out _).mono ?_)
      rintro e wq1 ⟨rfl, hq1⟩
      refine ⟨_, rfl, ?_⟩
      refine hK.out _ _ (hHeld.call hq1) (fun hHeld => ?_)
      clear hK K
      refine norm_ (a' := ?_) ?_ ?_
      rotate_left
      · show Act.put _ (some 16) _ = _
        simp only [Act.put, List.setIfInBounds_toArray, List.set_cons_zero, List.set_cons_succ]
        rfl
      refine two_ (i := 3) (j := 8) (Ni := some 18) (Nj := some 8) #[true, true, true, true, false, true, false, false, false, false] #[true, true, true, false, false, true, false, false, true, false] rfl rfl rfl rfl (by kernel_rfl) (by decide) (by decide) (fun K hK => ?_) (fun K hK => ?_)
      · skip
        refine goes_ Try.func30 (by kernel_rfl) rfl #[.agg (vec b)] (by rfl) rfl rfl (by (try simp only [List.map_toArray, List.map_cons, List.map_nil]); first | done | rfl) ?_
        (with_reducible refine (MB.out _).mono ?_)
        rintro e wq2 ⟨rfl, hq2⟩
        refine ⟨_, rfl, ?_⟩
        refine hK.out _ _ (hHeld.call hq2) (fun hHeld => ?_)
        clear hK K
        refine norm_ (a' := ?_) ?_ ?_
        rotate_left
        · show Act.put _ (some 18) _ = _
          simp only [Act.put, List.setIfInBounds_toArray, List.set_cons_zero, List.set_cons_succ]
          rfl
        refine two_ (i := 4) (j := 8) (Ni := some 19) (Nj := some 8) #[true, true, true, true, true, true, false, false, false, false] #[true, true, true, true, false, true, false, false, true, false] rfl rfl rfl rfl (by kernel_rfl) (by decide) (by decide) (fun K hK => ?_) (fun K hK => ?_)
        · skip
          refine goes_ Try.func29 (by kernel_rfl) rfl #[.agg (vec a), .agg (vec b)] (by rfl) rfl rfl (by (try simp only [List.map_toArray, List.map_cons, List.map_nil]); first | done | rfl) ?_
          (with_reducible refine (G1.out _).mono ?_)
          rintro e wq3 ⟨rfl, hq3⟩
          refine ⟨_, rfl, ?_⟩
          refine hK.out _ _ (hHeld.call hq3) (fun hHeld => ?_)
          clear hK K
          refine norm_ (a' := ?_) ?_ ?_
          rotate_left
          · show Act.put _ (some 19) _ = _
            simp only [Act.put, List.setIfInBounds_toArray, List.set_cons_zero, List.set_cons_succ]
            rfl
          refine two_ (i := 6) (j := 8) (Ni := some 21) (Nj := some 8) #[true, true, true, true, true, true, true, false, false, false] #[true, true, true, true, true, true, false, false, true, false] rfl rfl rfl rfl (by kernel_rfl) (by decide) (by decide) (fun K hK => ?_) (fun K hK => ?_)
          · skip
            refine goes_ Try.func30 (by kernel_rfl) rfl #[.agg (vec c)] (by rfl) rfl rfl (by (try simp only [List.map_toArray, List.map_cons, List.map_nil]); first | done | rfl) ?_
            (with_reducible refine (MC.out _).mono ?_)
            rintro e wq4 ⟨rfl, hq4⟩
            refine ⟨_, rfl, ?_⟩
            refine hK.out _ _ (hHeld.call hq4) (fun hHeld => ?_)
            clear hK K
            refine norm_ (a' := ?_) ?_ ?_
            rotate_left
            · show Act.put _ (some 21) _ = _
              simp only [Act.put, List.setIfInBounds_toArray, List.set_cons_zero, List.set_cons_succ]
              rfl
            refine two_ (i := 7) (j := 8) (Ni := some 22) (Nj := some 8) #[true, true, true, true, true, true, true, true, false, false] #[true, true, true, true, true, true, true, false, true, false] rfl rfl rfl rfl (by kernel_rfl) (by decide) (by decide) (fun K hK => ?_) (fun K hK => ?_)
            · skip
              refine goes_ Try.func29 (by kernel_rfl) rfl #[.agg (vec j1), .agg (vec c)] (by rfl) rfl rfl (by (try simp only [List.map_toArray, List.map_cons, List.map_nil]); first | done | rfl) ?_
              (with_reducible refine (G2.out _).mono ?_)
              rintro e wq5 ⟨rfl, hq5⟩
              refine ⟨_, rfl, ?_⟩
              refine hK.out _ _ (hHeld.call hq5) (fun hHeld => ?_)
              clear hK K
              refine norm_ (a' := ?_) ?_ ?_
              rotate_left
              · show Act.put _ (some 22) _ = _
                simp only [Act.put, List.setIfInBounds_toArray, List.set_cons_zero, List.set_cons_succ]
                rfl
              refine one_ (i := 8) (N := some 8) #[true, true, true, true, true, true, true, true, true, false] rfl rfl (by kernel_rfl) (by decide) (fun K hK => ?_)
              refine value_ (by rfl) rfl (run_alloc_row rfl) ?_
              have HQ := hHeld.fresh (.cells (vec zero9) 46 (0, 0))
              refine hK.out _ _ HQ.tail (fun hHeld => ?_)
              clear hK K
              refine norm_ (a' := ?_) ?_ ?_
              rotate_left
              · show Act.put _ (some 8) _ = _
                simp only [Act.put, List.setIfInBounds_toArray, List.set_cons_zero, List.set_cons_succ]
                rfl
              have fin := hcont _ _ HQ
              simp only [putAll, Act.put, List.setIfInBounds_toArray, List.set_cons_zero, List.set_cons_succ] at fin
              exact fin
            · skip
              refine value_ (by rfl) rfl (run_alloc_row rfl) ?_
              have HQ := hHeld.fresh (.cells (vec zero9) 46 (0, 0))
              refine hK.out _ _ HQ.tail (fun hHeld => ?_)
              clear hK K
              refine norm_ (a' := ?_) ?_ ?_
              rotate_left
              · show Act.put _ (some 8) _ = _
                simp only [Act.put, List.setIfInBounds_toArray, List.set_cons_zero, List.set_cons_succ]
                rfl
              refine one_ (i := 7) (N := some 22) #[true, true, true, true, true, true, true, true, true, false] rfl rfl (by kernel_rfl) (by decide) (fun K hK => ?_)
              refine goes_ Try.func29 (by kernel_rfl) rfl #[.agg (vec j1), .agg (vec c)] (by rfl) rfl rfl (by (try simp only [List.map_toArray, List.map_cons, List.map_nil]); first | done | rfl) ?_
              (with_reducible refine (G2.out _).mono ?_)
              rintro e wq6 ⟨rfl, hq6⟩
              refine ⟨_, rfl, ?_⟩
              refine hK.out _ _ (hHeld.call hq6) (fun hHeld => ?_)
              clear hK K
              replace HQ := HQ.call hq6
              refine norm_ (a' := ?_) ?_ ?_
              rotate_left
              · show Act.put _ (some 22) _ = _
                simp only [Act.put, List.setIfInBounds_toArray, List.set_cons_zero, List.set_cons_succ]
                rfl
              have fin := hcont _ _ HQ
              simp only [putAll, Act.put, List.setIfInBounds_toArray, List.set_cons_zero, List.set_cons_succ] at fin
              exact fin
          · skip
            refine value_ (by rfl) rfl (run_alloc_row rfl) ?_
            have HQ := hHeld.fresh (.cells (vec zero9) 46 (0, 0))
            refine hK.out _ _ HQ.tail (fun hHeld => ?_)
            clear hK K
            refine norm_ (a' := ?_) ?_ ?_
            rotate_left
            · show Act.put _ (some 8) _ = _
              simp only [Act.put, List.setIfInBounds_toArray, List.set_cons_zero, List.set_cons_succ]
              rfl
            refine one_ (i := 6) (N := some 21) #[true, true, true, true, true, true, true, false, true, false] rfl rfl (by kernel_rfl) (by decide) (fun K hK => ?_)
            refine goes_ Try.func30 (by kernel_rfl) rfl #[.agg (vec c)] (by rfl) rfl rfl (by (try simp only [List.map_toArray, List.map_cons, List.map_nil]); first | done | rfl) ?_
            (with_reducible refine (MC.out _).mono ?_)
            rintro e wq7 ⟨rfl, hq7⟩
            refine ⟨_, rfl, ?_⟩
            refine hK.out _ _ (hHeld.call hq7) (fun hHeld => ?_)
            clear hK K
            replace HQ := HQ.call hq7
            refine norm_ (a' := ?_) ?_ ?_
            rotate_left
            · show Act.put _ (some 21) _ = _
              simp only [Act.put, List.setIfInBounds_toArray, List.set_cons_zero, List.set_cons_succ]
              rfl
            refine one_ (i := 7) (N := some 22) #[true, true, true, true, true, true, true, true, true, false] rfl rfl (by kernel_rfl) (by decide) (fun K hK => ?_)
            refine goes_ Try.func29 (by kernel_rfl) rfl #[.agg (vec j1), .agg (vec c)] (by rfl) rfl rfl (by (try simp only [List.map_toArray, List.map_cons, List.map_nil]); first | done | rfl) ?_
            (with_reducible refine (G2.out _).mono ?_)
            rintro e wq8 ⟨rfl, hq8⟩
            refine ⟨_, rfl, ?_⟩
            refine hK.out _ _ (hHeld.call hq8) (fun hHeld => ?_)
            clear hK K
            replace HQ := HQ.call hq8
            refine norm_ (a' := ?_) ?_ ?_
            rotate_left
            · show Act.put _ (some 22) _ = _
              simp only [Act.put, List.setIfInBounds_toArray, List.set_cons_zero, List.set_cons_succ]
              rfl
            have fin := hcont _ _ HQ
            simp only [putAll, Act.put, List.setIfInBounds_toArray, List.set_cons_zero, List.set_cons_succ] at fin
            exact fin
        · skip
          refine value_ (by rfl) rfl (run_alloc_row rfl) ?_
          have HQ := hHeld.fresh (.cells (vec zero9) 46 (0, 0))
          refine hK.out _ _ HQ.tail (fun hHeld => ?_)
          clear hK K
          refine norm_ (a' := ?_) ?_ ?_
          rotate_left
          · show Act.put _ (some 8) _ = _
            simp only [Act.put, List.setIfInBounds_toArray, List.set_cons_zero, List.set_cons_succ]
            rfl
          refine one_ (i := 4) (N := some 19) #[true, true, true, true, true, true, false, false, true, false] rfl rfl (by kernel_rfl) (by decide) (fun K hK => ?_)
          refine goes_ Try.func29 (by kernel_rfl) rfl #[.agg (vec a), .agg (vec b)] (by rfl) rfl rfl (by (try simp only [List.map_toArray, List.map_cons, List.map_nil]); first | done | rfl) ?_
          (with_reducible refine (G1.out _).mono ?_)
          rintro e wq9 ⟨rfl, hq9⟩
          refine ⟨_, rfl, ?_⟩
          refine hK.out _ _ (hHeld.call hq9) (fun hHeld => ?_)
          clear hK K
          replace HQ := HQ.call hq9
          refine norm_ (a' := ?_) ?_ ?_
          rotate_left
          · show Act.put _ (some 19) _ = _
            simp only [Act.put, List.setIfInBounds_toArray, List.set_cons_zero, List.set_cons_succ]
            rfl
          refine one_ (i := 6) (N := some 21) #[true, true, true, true, true, true, true, false, true, false] rfl rfl (by kernel_rfl) (by decide) (fun K hK => ?_)
          refine goes_ Try.func30 (by kernel_rfl) rfl #[.agg (vec c)] (by rfl) rfl rfl (by (try simp only [List.map_toArray, List.map_cons, List.map_nil]); first | done | rfl) ?_
          (with_reducible refine (MC.out _).mono ?_)
          rintro e wq10 ⟨rfl, hq10⟩
          refine ⟨_, rfl, ?_⟩
          refine hK.out _ _ (hHeld.call hq10) (fun hHeld => ?_)
          clear hK K
          replace HQ := HQ.call hq10
          refine norm_ (a' := ?_) ?_ ?_
          rotate_left
          · show Act.put _ (some 21) _ = _
            simp only [Act.put, List.setIfInBounds_toArray, List.set_cons_zero, List.set_cons_succ]
            rfl
          refine one_ (i := 7) (N := some 22) #[true, true, true, true, true, true, true, true, true, false] rfl rfl (by kernel_rfl) (by decide) (fun K hK => ?_)
          refine goes_ Try.func29 (by kernel_rfl) rfl #[.agg (vec j1), .agg (vec c)] (by rfl) rfl rfl (by (try simp only [List.map_toArray, List.map_cons, List.map_nil]); first | done | rfl) ?_
          (with_reducible refine (G2.out _).mono ?_)
          rintro e wq11 ⟨rfl, hq11⟩
          refine ⟨_, rfl, ?_⟩
          refine hK.out _ _ (hHeld.call hq11) (fun hHeld => ?_)
          clear hK K
          replace HQ := HQ.call hq11
          refine norm_ (a' := ?_) ?_ ?_
          rotate_left
          · show Act.put _ (some 22) _ = _
            simp only [Act.put, List.setIfInBounds_toArray, List.set_cons_zero, List.set_cons_succ]
            rfl
          have fin := hcont _ _ HQ
          simp only [putAll, Act.put, List.setIfInBounds_toArray, List.set_cons_zero, List.set_cons_succ] at fin
          exact fin
      · skip
        refine value_ (by rfl) rfl (run_alloc_row rfl) ?_
        have HQ := hHeld.fresh (.cells (vec zero9) 46 (0, 0))
        refine hK.out _ _ HQ.tail (fun hHeld => ?_)
        clear hK K
        refine norm_ (a' := ?_) ?_ ?_
        rotate_left
        · show Act.put _ (some 8) _ = _
          simp only [Act.put, List.setIfInBounds_toArray, List.set_cons_zero, List.set_cons_succ]
          rfl
        refine one_ (i := 3) (N := some 18) #[true, true, true, true, false, true, false, false, true, false] rfl rfl (by kernel_rfl) (by decide) (fun K hK => ?_)
        refine goes_ Try.func30 (by kernel_rfl) rfl #[.agg (vec b)] (by rfl) rfl rfl (by (try simp only [List.map_toArray, List.map_cons, List.map_nil]); first | done | rfl) ?_
        (with_reducible refine (MB.out _).mono ?_)
        rintro e wq12 ⟨rfl, hq12⟩
        refine ⟨_, rfl, ?_⟩
        refine hK.out _ _ (hHeld.call hq12) (fun hHeld => ?_)
        clear hK K
        replace HQ := HQ.call hq12
        refine norm_ (a' := ?_) ?_ ?_
        rotate_left
        · show Act.put _ (some 18) _ = _
          simp only [Act.put, List.setIfInBounds_toArray, List.set_cons_zero, List.set_cons_succ]
          rfl
        refine one_ (i := 4) (N := some 19) #[true, true, true, true, true, true, false, false, true, false] rfl rfl (by kernel_rfl) (by decide) (fun K hK => ?_)
        refine goes_ Try.func29 (by kernel_rfl) rfl #[.agg (vec a), .agg (vec b)] (by rfl) rfl rfl (by (try simp only [List.map_toArray, List.map_cons, List.map_nil]); first | done | rfl) ?_
        (with_reducible refine (G1.out _).mono ?_)
        rintro e wq13 ⟨rfl, hq13⟩
        refine ⟨_, rfl, ?_⟩
        refine hK.out _ _ (hHeld.call hq13) (fun hHeld => ?_)
        clear hK K
        replace HQ := HQ.call hq13
        refine norm_ (a' := ?_) ?_ ?_
        rotate_left
        · show Act.put _ (some 19) _ = _
          simp only [Act.put, List.setIfInBounds_toArray, List.set_cons_zero, List.set_cons_succ]
          rfl
        refine one_ (i := 6) (N := some 21) #[true, true, true, true, true, true, true, false, true, false] rfl rfl (by kernel_rfl) (by decide) (fun K hK => ?_)
        refine goes_ Try.func30 (by kernel_rfl) rfl #[.agg (vec c)] (by rfl) rfl rfl (by (try simp only [List.map_toArray, List.map_cons, List.map_nil]); first | done | rfl) ?_
        (with_reducible refine (MC.out _).mono ?_)
        rintro e wq14 ⟨rfl, hq14⟩
        refine ⟨_, rfl, ?_⟩
        refine hK.out _ _ (hHeld.call hq14) (fun hHeld => ?_)
        clear hK K
        replace HQ := HQ.call hq14
        refine norm_ (a' := ?_) ?_ ?_
        rotate_left
        · show Act.put _ (some 21) _ = _
          simp only [Act.put, List.setIfInBounds_toArray, List.set_cons_zero, List.set_cons_succ]
          rfl
        refine one_ (i := 7) (N := some 22) #[true, true, true, true, true, true, true, true, true, false] rfl rfl (by kernel_rfl) (by decide) (fun K hK => ?_)
        refine goes_ Try.func29 (by kernel_rfl) rfl #[.agg (vec j1), .agg (vec c)] (by rfl) rfl rfl (by (try simp only [List.map_toArray, List.map_cons, List.map_nil]); first | done | rfl) ?_
        (with_reducible refine (G2.out _).mono ?_)
        rintro e wq15 ⟨rfl, hq15⟩
        refine ⟨_, rfl, ?_⟩
        refine hK.out _ _ (hHeld.call hq15) (fun hHeld => ?_)
        clear hK K
        replace HQ := HQ.call hq15
        refine norm_ (a' := ?_) ?_ ?_
        rotate_left
        · show Act.put _ (some 22) _ = _
          simp only [Act.put, List.setIfInBounds_toArray, List.set_cons_zero, List.set_cons_succ]
          rfl
        have fin := hcont _ _ HQ
        simp only [putAll, Act.put, List.setIfInBounds_toArray, List.set_cons_zero, List.set_cons_succ] at fin
        exact fin
    · skip
      refine value_ (by rfl) rfl (run_alloc_row rfl) ?_
      have HQ := hHeld.fresh (.cells (vec zero9) 46 (0, 0))
      refine hK.out _ _ HQ.tail (fun hHeld => ?_)
      clear hK K
      refine norm_ (a' := ?_) ?_ ?_
      rotate_left
      · show Act.put _ (some 8) _ = _
        simp only [Act.put, List.setIfInBounds_toArray, List.set_cons_zero, List.set_cons_succ]
        rfl
      refine one_ (i := 1) (N := some 16) #[true, true, true, false, false, true, false, false, true, false] rfl rfl (by kernel_rfl) (by decide) (fun K hK => ?_)
      refine goes_ Try.func30 (by kernel_rfl) rfl #[.agg (vec a)] (by rfl) rfl rfl (by (try simp only [List.map_toArray, List.map_cons, List.map_nil]); first | done | rfl) ?_
      (with_reducible refine (MA.out _).mono ?_)
      rintro e wq16 ⟨rfl, hq16⟩
      refine ⟨_, rfl, ?_⟩
      refine hK.out _ _ (hHeld.call hq16) (fun hHeld => ?_)
      clear hK K
      replace HQ := HQ.call hq16
      refine norm_ (a' := ?_) ?_ ?_
      rotate_left
      · show Act.put _ (some 16) _ = _
        simp only [Act.put, List.setIfInBounds_toArray, List.set_cons_zero, List.set_cons_succ]
        rfl
      refine one_ (i := 3) (N := some 18) #[true, true, true, true, false, true, false, false, true, false] rfl rfl (by kernel_rfl) (by decide) (fun K hK => ?_)
      refine goes_ Try.func30 (by kernel_rfl) rfl #[.agg (vec b)] (by rfl) rfl rfl (by (try simp only [List.map_toArray, List.map_cons, List.map_nil]); first | done | rfl) ?_
      (with_reducible refine (MB.out _).mono ?_)
      rintro e wq17 ⟨rfl, hq17⟩
      refine ⟨_, rfl, ?_⟩
      refine hK.out _ _ (hHeld.call hq17) (fun hHeld => ?_)
      clear hK K
      replace HQ := HQ.call hq17
      refine norm_ (a' := ?_) ?_ ?_
      rotate_left
      · show Act.put _ (some 18) _ = _
        simp only [Act.put, List.setIfInBounds_toArray, List.set_cons_zero, List.set_cons_succ]
        rfl
      refine one_ (i := 4) (N := some 19) #[true, true, true, true, true, true, false, false, true, false] rfl rfl (by kernel_rfl) (by decide) (fun K hK => ?_)
      refine goes_ Try.func29 (by kernel_rfl) rfl #[.agg (vec a), .agg (vec b)] (by rfl) rfl rfl (by (try simp only [List.map_toArray, List.map_cons, List.map_nil]); first | done | rfl) ?_
      (with_reducible refine (G1.out _).mono ?_)
      rintro e wq18 ⟨rfl, hq18⟩
      refine ⟨_, rfl, ?_⟩
      refine hK.out _ _ (hHeld.call hq18) (fun hHeld => ?_)
      clear hK K
      replace HQ := HQ.call hq18
      refine norm_ (a' := ?_) ?_ ?_
      rotate_left
      · show Act.put _ (some 19) _ = _
        simp only [Act.put, List.setIfInBounds_toArray, List.set_cons_zero, List.set_cons_succ]
        rfl
      refine one_ (i := 6) (N := some 21) #[true, true, true, true, true, true, true, false, true, false] rfl rfl (by kernel_rfl) (by decide) (fun K hK => ?_)
      refine goes_ Try.func30 (by kernel_rfl) rfl #[.agg (vec c)] (by rfl) rfl rfl (by (try simp only [List.map_toArray, List.map_cons, List.map_nil]); first | done | rfl) ?_
      (with_reducible refine (MC.out _).mono ?_)
      rintro e wq19 ⟨rfl, hq19⟩
      refine ⟨_, rfl, ?_⟩
      refine hK.out _ _ (hHeld.call hq19) (fun hHeld => ?_)
      clear hK K
      replace HQ := HQ.call hq19
      refine norm_ (a' := ?_) ?_ ?_
      rotate_left
      · show Act.put _ (some 21) _ = _
        simp only [Act.put, List.setIfInBounds_toArray, List.set_cons_zero, List.set_cons_succ]
        rfl
      refine one_ (i := 7) (N := some 22) #[true, true, true, true, true, true, true, true, true, false] rfl rfl (by kernel_rfl) (by decide) (fun K hK => ?_)
      refine goes_ Try.func29 (by kernel_rfl) rfl #[.agg (vec j1), .agg (vec c)] (by rfl) rfl rfl (by (try simp only [List.map_toArray, List.map_cons, List.map_nil]); first | done | rfl) ?_
      (with_reducible refine (G2.out _).mono ?_)
      rintro e wq20 ⟨rfl, hq20⟩
      refine ⟨_, rfl, ?_⟩
      refine hK.out _ _ (hHeld.call hq20) (fun hHeld => ?_)
      clear hK K
      replace HQ := HQ.call hq20
      refine norm_ (a' := ?_) ?_ ?_
      rotate_left
      · show Act.put _ (some 22) _ = _
        simp only [Act.put, List.setIfInBounds_toArray, List.set_cons_zero, List.set_cons_succ]
        rfl
      have fin := hcont _ _ HQ
      simp only [putAll, Act.put, List.setIfInBounds_toArray, List.set_cons_zero, List.set_cons_succ] at fin
      exact fin
  intro q wq HQ
  simp only [putAll, Act.put, List.setIfInBounds_toArray, List.set_cons_zero, List.set_cons_succ]
  refine last_ (i := 9) (N := none) #[true, true, true, true, true, true, true, true, true, true] rfl rfl (by kernel_rfl) (by decide) (fun K hK => ?_)
  refine skip_ (by rfl) rfl (run_store_rowM _ _ _ rfl q (vec x) rfl rfl 46 (vec zero9) (HQ.1.get 0 rfl) Sx.out Zx.out (vec_one _)) ?_
  refine hK.out _ _ ?_
  clear hK K
  refine done_ (by kernel_rfl) ?_
  have H2 := Hd.mk (HQ.set (vec x))
  clear HQ hHeld H1
  generalize wq.setRow q (vec x) = W2 at *
  generalize q = bx at *
  go_upto_region 3 with (fail)
  refine start_ (n := 10) (S := fun W_ => Holds w [(bx, .cells (vec x) 46 (0, 0)), (w.heap.size + 1 + 1, .cells (vec c) 55 (0, 0)), (w.heap.size + 1, .cells (vec b) 55 (0, 0)), (w.heap.size, .cells (vec a) 55 (0, 0))] W_) (ds := [9]) #[false, false, false, false, false, false, false, false, false, false] (by kernel_rfl) rfl rfl (H2.out.drew) (fun hHeld => ?_)
  refine take_ (i := 0) (N := some 23) (v := .agg (vec c)) (a' := ?_) #[true, false, false, false, false, false, false, false, false, false] rfl rfl (by kernel_rfl) (fun _ _ _ h => h) (Or.inl ⟨by rfl, fun w' h => run_load_row 55 _ rfl (w.heap.size + 1 + 1) rfl 55 _ _ _ (h.get 1 rfl) Try.underlying55 rfl Sc.out⟩) hHeld ?_ ?_
  rotate_left
  · simp only [Act.put, List.setIfInBounds_toArray, List.set_cons_zero, List.set_cons_succ]
    rfl
  refine take_ (i := 2) (N := some 25) (v := .agg (vec b)) (a' := ?_) #[true, false, true, false, false, false, false, false, false, false] rfl rfl (by kernel_rfl) (fun _ _ _ h => h) (Or.inl ⟨by rfl, fun w' h => run_load_row 55 _ rfl (w.heap.size + 1) rfl 55 _ _ _ (h.get 2 rfl) Try.underlying55 rfl Sb.out⟩) hHeld ?_ ?_
  rotate_left
  · simp only [Act.put, List.setIfInBounds_toArray, List.set_cons_zero, List.set_cons_succ]
    rfl
  refine take_ (i := 4) (N := some 27) (v := .agg (vec a)) (a' := ?_) #[true, false, true, false, true, false, false, false, false, false] rfl rfl (by kernel_rfl) (fun _ _ _ h => h) (Or.inl ⟨by rfl, fun w' h => run_load_row 55 _ rfl w.heap.size rfl 55 _ _ _ (h.get 3 rfl) Try.underlying55 rfl Sa.out⟩) hHeld ?_ ?_
  rotate_left
  · simp only [Act.put, List.setIfInBounds_toArray, List.set_cons_zero, List.set_cons_succ]
    rfl
  refine join_ (σ := Nat) 1 #[true, true, true, true, true, true, true, true, true, false] (fun q => [(24, .agg (vec c)), (26, .agg (vec b)), (28, .agg (vec a)), (29, .agg (vec j2)), (30, .agg (vec x)), (9, .pointer (some ⟨q, 0, none⟩))]) (fun q w_ => NewHolds w q (.cells (vec zero9) 46 (0, 0)) ([(bx, .cells (vec x) 46 (0, 0)), (w.heap.size + 1 + 1, .cells (vec c) 55 (0, 0)), (w.heap.size + 1, .cells (vec b) 55 (0, 0)), (w.heap.size, .cells (vec a) 55 (0, 0))]) w_) ?_ (fun hcont => ?_)
  rotate_left
  · skip
    refine two_ (i := 1) (j := 8) (Ni := some 24) (Nj := some 9) #[true, true, true, false, true, false, false, false, false, false] #[true, false, true, false, true, false, false, false, true, false] rfl rfl rfl rfl (by kernel_rfl) (by decide) (by decide) (fun K hK => ?_) (fun K hK => ?_)
    · skip
      refine goes_ Try.func30 (by kernel_rfl) rfl #[.agg (vec c)] (by rfl) rfl rfl (by (try simp only [List.map_toArray, List.map_cons, List.map_nil]); first | done | rfl) ?_
      (with_reducible refine (MC.out _).mono ?_)
      rintro e wq1 ⟨rfl, hq1⟩
      refine ⟨_, rfl, ?_⟩
      refine hK.out _ _ (hHeld.call hq1) (fun hHeld => ?_)
      clear hK K
      refine norm_ (a' := ?_) ?_ ?_
      rotate_left
      · show Act.put _ (some 24) _ = _
        simp only [Act.put, List.setIfInBounds_toArray, List.set_cons_zero, List.set_cons_succ]
        rfl
      refine two_ (i := 3) (j := 8) (Ni := some 26) (Nj := some 9) #[true, true, true, true, true, false, false, false, false, false] #[true, true, true, false, true, false, false, false, true, false] rfl rfl rfl rfl (by kernel_rfl) (by decide) (by decide) (fun K hK => ?_) (fun K hK => ?_)
      · skip
        refine goes_ Try.func30 (by kernel_rfl) rfl #[.agg (vec b)] (by rfl) rfl rfl (by (try simp only [List.map_toArray, List.map_cons, List.map_nil]); first | done | rfl) ?_
        (with_reducible refine (MB.out _).mono ?_)
        rintro e wq2 ⟨rfl, hq2⟩
        refine ⟨_, rfl, ?_⟩
        refine hK.out _ _ (hHeld.call hq2) (fun hHeld => ?_)
        clear hK K
        refine norm_ (a' := ?_) ?_ ?_
        rotate_left
        · show Act.put _ (some 26) _ = _
          simp only [Act.put, List.setIfInBounds_toArray, List.set_cons_zero, List.set_cons_succ]
          rfl
        refine two_ (i := 5) (j := 8) (Ni := some 28) (Nj := some 9) #[true, true, true, true, true, true, false, false, false, false] #[true, true, true, true, true, false, false, false, true, false] rfl rfl rfl rfl (by kernel_rfl) (by decide) (by decide) (fun K hK => ?_) (fun K hK => ?_)
        · skip
          refine goes_ Try.func30 (by kernel_rfl) rfl #[.agg (vec a)] (by rfl) rfl rfl (by (try simp only [List.map_toArray, List.map_cons, List.map_nil]); first | done | rfl) ?_
          (with_reducible refine (MA.out _).mono ?_)
          rintro e wq3 ⟨rfl, hq3⟩
          refine ⟨_, rfl, ?_⟩
          refine hK.out _ _ (hHeld.call hq3) (fun hHeld => ?_)
          clear hK K
          refine norm_ (a' := ?_) ?_ ?_
          rotate_left
          · show Act.put _ (some 28) _ = _
            simp only [Act.put, List.setIfInBounds_toArray, List.set_cons_zero, List.set_cons_succ]
            rfl
          refine two_ (i := 6) (j := 8) (Ni := some 29) (Nj := some 9) #[true, true, true, true, true, true, true, false, false, false] #[true, true, true, true, true, true, false, false, true, false] rfl rfl rfl rfl (by kernel_rfl) (by decide) (by decide) (fun K hK => ?_) (fun K hK => ?_)
          · skip
            refine goes_ Try.func29 (by kernel_rfl) rfl #[.agg (vec b), .agg (vec a)] (by rfl) rfl rfl (by (try simp only [List.map_toArray, List.map_cons, List.map_nil]); first | done | rfl) ?_
            (with_reducible refine (G3.out _).mono ?_)
            rintro e wq4 ⟨rfl, hq4⟩
            refine ⟨_, rfl, ?_⟩
            refine hK.out _ _ (hHeld.call hq4) (fun hHeld => ?_)
            clear hK K
            refine norm_ (a' := ?_) ?_ ?_
            rotate_left
            · show Act.put _ (some 29) _ = _
              simp only [Act.put, List.setIfInBounds_toArray, List.set_cons_zero, List.set_cons_succ]
              rfl
            refine two_ (i := 7) (j := 8) (Ni := some 30) (Nj := some 9) #[true, true, true, true, true, true, true, true, false, false] #[true, true, true, true, true, true, true, false, true, false] rfl rfl rfl rfl (by kernel_rfl) (by decide) (by decide) (fun K hK => ?_) (fun K hK => ?_)
            · skip
              refine goes_ Try.func29 (by kernel_rfl) rfl #[.agg (vec c), .agg (vec j2)] (by rfl) rfl rfl (by (try simp only [List.map_toArray, List.map_cons, List.map_nil]); first | done | rfl) ?_
              (with_reducible refine (G4.out _).mono ?_)
              rintro e wq5 ⟨rfl, hq5⟩
              refine ⟨_, rfl, ?_⟩
              refine hK.out _ _ (hHeld.call hq5) (fun hHeld => ?_)
              clear hK K
              refine norm_ (a' := ?_) ?_ ?_
              rotate_left
              · show Act.put _ (some 30) _ = _
                simp only [Act.put, List.setIfInBounds_toArray, List.set_cons_zero, List.set_cons_succ]
                rfl
              refine one_ (i := 8) (N := some 9) #[true, true, true, true, true, true, true, true, true, false] rfl rfl (by kernel_rfl) (by decide) (fun K hK => ?_)
              refine value_ (by rfl) rfl (run_alloc_row rfl) ?_
              have HQ := hHeld.fresh (.cells (vec zero9) 46 (0, 0))
              refine hK.out _ _ HQ.tail (fun hHeld => ?_)
              clear hK K
              refine norm_ (a' := ?_) ?_ ?_
              rotate_left
              · show Act.put _ (some 9) _ = _
                simp only [Act.put, List.setIfInBounds_toArray, List.set_cons_zero, List.set_cons_succ]
                rfl
              have fin := hcont _ _ HQ
              simp only [putAll, Act.put, List.setIfInBounds_toArray, List.set_cons_zero, List.set_cons_succ] at fin
              exact fin
            · skip
              refine value_ (by rfl) rfl (run_alloc_row rfl) ?_
              have HQ := hHeld.fresh (.cells (vec zero9) 46 (0, 0))
              refine hK.out _ _ HQ.tail (fun hHeld => ?_)
              clear hK K
              refine norm_ (a' := ?_) ?_ ?_
              rotate_left
              · show Act.put _ (some 9) _ = _
                simp only [Act.put, List.setIfInBounds_toArray, List.set_cons_zero, List.set_cons_succ]
                rfl
              refine one_ (i := 7) (N := some 30) #[true, true, true, true, true, true, true, true, true, false] rfl rfl (by kernel_rfl) (by decide) (fun K hK => ?_)
              refine goes_ Try.func29 (by kernel_rfl) rfl #[.agg (vec c), .agg (vec j2)] (by rfl) rfl rfl (by (try simp only [List.map_toArray, List.map_cons, List.map_nil]); first | done | rfl) ?_
              (with_reducible refine (G4.out _).mono ?_)
              rintro e wq6 ⟨rfl, hq6⟩
              refine ⟨_, rfl, ?_⟩
              refine hK.out _ _ (hHeld.call hq6) (fun hHeld => ?_)
              clear hK K
              replace HQ := HQ.call hq6
              refine norm_ (a' := ?_) ?_ ?_
              rotate_left
              · show Act.put _ (some 30) _ = _
                simp only [Act.put, List.setIfInBounds_toArray, List.set_cons_zero, List.set_cons_succ]
                rfl
              have fin := hcont _ _ HQ
              simp only [putAll, Act.put, List.setIfInBounds_toArray, List.set_cons_zero, List.set_cons_succ] at fin
              exact fin
          · skip
            refine value_ (by rfl) rfl (run_alloc_row rfl) ?_
            have HQ := hHeld.fresh (.cells (vec zero9) 46 (0, 0))
            refine hK.out _ _ HQ.tail (fun hHeld => ?_)
            clear hK K
            refine norm_ (a' := ?_) ?_ ?_
            rotate_left
            · show Act.put _ (some 9) _ = _
              simp only [Act.put, List.setIfInBounds_toArray, List.set_cons_zero, List.set_cons_succ]
              rfl
            refine one_ (i := 6) (N := some 29) #[true, true, true, true, true, true, true, false, true, false] rfl rfl (by kernel_rfl) (by decide) (fun K hK => ?_)
            refine goes_ Try.func29 (by kernel_rfl) rfl #[.agg (vec b), .agg (vec a)] (by rfl) rfl rfl (by (try simp only [List.map_toArray, List.map_cons, List.map_nil]); first | done | rfl) ?_
            (with_reducible refine (G3.out _).mono ?_)
            rintro e wq7 ⟨rfl, hq7⟩
            refine ⟨_, rfl, ?_⟩
            refine hK.out _ _ (hHeld.call hq7) (fun hHeld => ?_)
            clear hK K
            replace HQ := HQ.call hq7
            refine norm_ (a' := ?_) ?_ ?_
            rotate_left
            · show Act.put _ (some 29) _ = _
              simp only [Act.put, List.setIfInBounds_toArray, List.set_cons_zero, List.set_cons_succ]
              rfl
            refine one_ (i := 7) (N := some 30) #[true, true, true, true, true, true, true, true, true, false] rfl rfl (by kernel_rfl) (by decide) (fun K hK => ?_)
            refine goes_ Try.func29 (by kernel_rfl) rfl #[.agg (vec c), .agg (vec j2)] (by rfl) rfl rfl (by (try simp only [List.map_toArray, List.map_cons, List.map_nil]); first | done | rfl) ?_
            (with_reducible refine (G4.out _).mono ?_)
            rintro e wq8 ⟨rfl, hq8⟩
            refine ⟨_, rfl, ?_⟩
            refine hK.out _ _ (hHeld.call hq8) (fun hHeld => ?_)
            clear hK K
            replace HQ := HQ.call hq8
            refine norm_ (a' := ?_) ?_ ?_
            rotate_left
            · show Act.put _ (some 30) _ = _
              simp only [Act.put, List.setIfInBounds_toArray, List.set_cons_zero, List.set_cons_succ]
              rfl
            have fin := hcont _ _ HQ
            simp only [putAll, Act.put, List.setIfInBounds_toArray, List.set_cons_zero, List.set_cons_succ] at fin
            exact fin
        · skip
          refine value_ (by rfl) rfl (run_alloc_row rfl) ?_
          have HQ := hHeld.fresh (.cells (vec zero9) 46 (0, 0))
          refine hK.out _ _ HQ.tail (fun hHeld => ?_)
          clear hK K
          refine norm_ (a' := ?_) ?_ ?_
          rotate_left
          · show Act.put _ (some 9) _ = _
            simp only [Act.put, List.setIfInBounds_toArray, List.set_cons_zero, List.set_cons_succ]
            rfl
          refine one_ (i := 5) (N := some 28) #[true, true, true, true, true, true, false, false, true, false] rfl rfl (by kernel_rfl) (by decide) (fun K hK => ?_)
          refine goes_ Try.func30 (by kernel_rfl) rfl #[.agg (vec a)] (by rfl) rfl rfl (by (try simp only [List.map_toArray, List.map_cons, List.map_nil]); first | done | rfl) ?_
          (with_reducible refine (MA.out _).mono ?_)
          rintro e wq9 ⟨rfl, hq9⟩
          refine ⟨_, rfl, ?_⟩
          refine hK.out _ _ (hHeld.call hq9) (fun hHeld => ?_)
          clear hK K
          replace HQ := HQ.call hq9
          refine norm_ (a' := ?_) ?_ ?_
          rotate_left
          · show Act.put _ (some 28) _ = _
            simp only [Act.put, List.setIfInBounds_toArray, List.set_cons_zero, List.set_cons_succ]
            rfl
          refine one_ (i := 6) (N := some 29) #[true, true, true, true, true, true, true, false, true, false] rfl rfl (by kernel_rfl) (by decide) (fun K hK => ?_)
          refine goes_ Try.func29 (by kernel_rfl) rfl #[.agg (vec b), .agg (vec a)] (by rfl) rfl rfl (by (try simp only [List.map_toArray, List.map_cons, List.map_nil]); first | done | rfl) ?_
          (with_reducible refine (G3.out _).mono ?_)
          rintro e wq10 ⟨rfl, hq10⟩
          refine ⟨_, rfl, ?_⟩
          refine hK.out _ _ (hHeld.call hq10) (fun hHeld => ?_)
          clear hK K
          replace HQ := HQ.call hq10
          refine norm_ (a' := ?_) ?_ ?_
          rotate_left
          · show Act.put _ (some 29) _ = _
            simp only [Act.put, List.setIfInBounds_toArray, List.set_cons_zero, List.set_cons_succ]
            rfl
          refine one_ (i := 7) (N := some 30) #[true, true, true, true, true, true, true, true, true, false] rfl rfl (by kernel_rfl) (by decide) (fun K hK => ?_)
          refine goes_ Try.func29 (by kernel_rfl) rfl #[.agg (vec c), .agg (vec j2)] (by rfl) rfl rfl (by (try simp only [List.map_toArray, List.map_cons, List.map_nil]); first | done | rfl) ?_
          (with_reducible refine (G4.out _).mono ?_)
          rintro e wq11 ⟨rfl, hq11⟩
          refine ⟨_, rfl, ?_⟩
          refine hK.out _ _ (hHeld.call hq11) (fun hHeld => ?_)
          clear hK K
          replace HQ := HQ.call hq11
          refine norm_ (a' := ?_) ?_ ?_
          rotate_left
          · show Act.put _ (some 30) _ = _
            simp only [Act.put, List.setIfInBounds_toArray, List.set_cons_zero, List.set_cons_succ]
            rfl
          have fin := hcont _ _ HQ
          simp only [putAll, Act.put, List.setIfInBounds_toArray, List.set_cons_zero, List.set_cons_succ] at fin
          exact fin
      · skip
        refine value_ (by rfl) rfl (run_alloc_row rfl) ?_
        have HQ := hHeld.fresh (.cells (vec zero9) 46 (0, 0))
        refine hK.out _ _ HQ.tail (fun hHeld => ?_)
        clear hK K
        refine norm_ (a' := ?_) ?_ ?_
        rotate_left
        · show Act.put _ (some 9) _ = _
          simp only [Act.put, List.setIfInBounds_toArray, List.set_cons_zero, List.set_cons_succ]
          rfl
        refine one_ (i := 3) (N := some 26) #[true, true, true, true, true, false, false, false, true, false] rfl rfl (by kernel_rfl) (by decide) (fun K hK => ?_)
        refine goes_ Try.func30 (by kernel_rfl) rfl #[.agg (vec b)] (by rfl) rfl rfl (by (try simp only [List.map_toArray, List.map_cons, List.map_nil]); first | done | rfl) ?_
        (with_reducible refine (MB.out _).mono ?_)
        rintro e wq12 ⟨rfl, hq12⟩
        refine ⟨_, rfl, ?_⟩
        refine hK.out _ _ (hHeld.call hq12) (fun hHeld => ?_)
        clear hK K
        replace HQ := HQ.call hq12
        refine norm_ (a' := ?_) ?_ ?_
        rotate_left
        · show Act.put _ (some 26) _ = _
          simp only [Act.put, List.setIfInBounds_toArray, List.set_cons_zero, List.set_cons_succ]
          rfl
        refine one_ (i := 5) (N := some 28) #[true, true, true, true, true, true, false, false, true, false] rfl rfl (by kernel_rfl) (by decide) (fun K hK => ?_)
        refine goes_ Try.func30 (by kernel_rfl) rfl #[.agg (vec a)] (by rfl) rfl rfl (by (try simp only [List.map_toArray, List.map_cons, List.map_nil]); first | done | rfl) ?_
        (with_reducible refine (MA.out _).mono ?_)
        rintro e wq13 ⟨rfl, hq13⟩
        refine ⟨_, rfl, ?_⟩
        refine hK.out _ _ (hHeld.call hq13) (fun hHeld => ?_)
        clear hK K
        replace HQ := HQ.call hq13
        refine norm_ (a' := ?_) ?_ ?_
        rotate_left
        · show Act.put _ (some 28) _ = _
          simp only [Act.put, List.setIfInBounds_toArray, List.set_cons_zero, List.set_cons_succ]
          rfl
        refine one_ (i := 6) (N := some 29) #[true, true, true, true, true, true, true, false, true, false] rfl rfl (by kernel_rfl) (by decide) (fun K hK => ?_)
        refine goes_ Try.func29 (by kernel_rfl) rfl #[.agg (vec b), .agg (vec a)] (by rfl) rfl rfl (by (try simp only [List.map_toArray, List.map_cons, List.map_nil]); first | done | rfl) ?_
        (with_reducible refine (G3.out _).mono ?_)
        rintro e wq14 ⟨rfl, hq14⟩
        refine ⟨_, rfl, ?_⟩
        refine hK.out _ _ (hHeld.call hq14) (fun hHeld => ?_)
        clear hK K
        replace HQ := HQ.call hq14
        refine norm_ (a' := ?_) ?_ ?_
        rotate_left
        · show Act.put _ (some 29) _ = _
          simp only [Act.put, List.setIfInBounds_toArray, List.set_cons_zero, List.set_cons_succ]
          rfl
        refine one_ (i := 7) (N := some 30) #[true, true, true, true, true, true, true, true, true, false] rfl rfl (by kernel_rfl) (by decide) (fun K hK => ?_)
        refine goes_ Try.func29 (by kernel_rfl) rfl #[.agg (vec c), .agg (vec j2)] (by rfl) rfl rfl (by (try simp only [List.map_toArray, List.map_cons, List.map_nil]); first | done | rfl) ?_
        (with_reducible refine (G4.out _).mono ?_)
        rintro e wq15 ⟨rfl, hq15⟩
        refine ⟨_, rfl, ?_⟩
        refine hK.out _ _ (hHeld.call hq15) (fun hHeld => ?_)
        clear hK K
        replace HQ := HQ.call hq15
        refine norm_ (a' := ?_) ?_ ?_
        rotate_left
        · show Act.put _ (some 30) _ = _
          simp only [Act.put, List.setIfInBounds_toArray, List.set_cons_zero, List.set_cons_succ]
          rfl
        have fin := hcont _ _ HQ
        simp only [putAll, Act.put, List.setIfInBounds_toArray, List.set_cons_zero, List.set_cons_succ] at fin
        exact fin
    · skip
      refine value_ (by rfl) rfl (run_alloc_row rfl) ?_
      have HQ := hHeld.fresh (.cells (vec zero9) 46 (0, 0))
      refine hK.out _ _ HQ.tail (fun hHeld => ?_)
      clear hK K
      refine norm_ (a' := ?_) ?_ ?_
      rotate_left
      · show Act.put _ (some 9) _ = _
        simp only [Act.put, List.setIfInBounds_toArray, List.set_cons_zero, List.set_cons_succ]
        rfl
      refine one_ (i := 1) (N := some 24) #[true, true, true, false, true, false, false, false, true, false] rfl rfl (by kernel_rfl) (by decide) (fun K hK => ?_)
      refine goes_ Try.func30 (by kernel_rfl) rfl #[.agg (vec c)] (by rfl) rfl rfl (by (try simp only [List.map_toArray, List.map_cons, List.map_nil]); first | done | rfl) ?_
      (with_reducible refine (MC.out _).mono ?_)
      rintro e wq16 ⟨rfl, hq16⟩
      refine ⟨_, rfl, ?_⟩
      refine hK.out _ _ (hHeld.call hq16) (fun hHeld => ?_)
      clear hK K
      replace HQ := HQ.call hq16
      refine norm_ (a' := ?_) ?_ ?_
      rotate_left
      · show Act.put _ (some 24) _ = _
        simp only [Act.put, List.setIfInBounds_toArray, List.set_cons_zero, List.set_cons_succ]
        rfl
      refine one_ (i := 3) (N := some 26) #[true, true, true, true, true, false, false, false, true, false] rfl rfl (by kernel_rfl) (by decide) (fun K hK => ?_)
      refine goes_ Try.func30 (by kernel_rfl) rfl #[.agg (vec b)] (by rfl) rfl rfl (by (try simp only [List.map_toArray, List.map_cons, List.map_nil]); first | done | rfl) ?_
      (with_reducible refine (MB.out _).mono ?_)
      rintro e wq17 ⟨rfl, hq17⟩
      refine ⟨_, rfl, ?_⟩
      refine hK.out _ _ (hHeld.call hq17) (fun hHeld => ?_)
      clear hK K
      replace HQ := HQ.call hq17
      refine norm_ (a' := ?_) ?_ ?_
      rotate_left
      · show Act.put _ (some 26) _ = _
        simp only [Act.put, List.setIfInBounds_toArray, List.set_cons_zero, List.set_cons_succ]
        rfl
      refine one_ (i := 5) (N := some 28) #[true, true, true, true, true, true, false, false, true, false] rfl rfl (by kernel_rfl) (by decide) (fun K hK => ?_)
      refine goes_ Try.func30 (by kernel_rfl) rfl #[.agg (vec a)] (by rfl) rfl rfl (by (try simp only [List.map_toArray, List.map_cons, List.map_nil]); first | done | rfl) ?_
      (with_reducible refine (MA.out _).mono ?_)
      rintro e wq18 ⟨rfl, hq18⟩
      refine ⟨_, rfl, ?_⟩
      refine hK.out _ _ (hHeld.call hq18) (fun hHeld => ?_)
      clear hK K
      replace HQ := HQ.call hq18
      refine norm_ (a' := ?_) ?_ ?_
      rotate_left
      · show Act.put _ (some 28) _ = _
        simp only [Act.put, List.setIfInBounds_toArray, List.set_cons_zero, List.set_cons_succ]
        rfl
      refine one_ (i := 6) (N := some 29) #[true, true, true, true, true, true, true, false, true, false] rfl rfl (by kernel_rfl) (by decide) (fun K hK => ?_)
      refine goes_ Try.func29 (by kernel_rfl) rfl #[.agg (vec b), .agg (vec a)] (by rfl) rfl rfl (by (try simp only [List.map_toArray, List.map_cons, List.map_nil]); first | done | rfl) ?_
      (with_reducible refine (G3.out _).mono ?_)
      rintro e wq19 ⟨rfl, hq19⟩
      refine ⟨_, rfl, ?_⟩
      refine hK.out _ _ (hHeld.call hq19) (fun hHeld => ?_)
      clear hK K
      replace HQ := HQ.call hq19
      refine norm_ (a' := ?_) ?_ ?_
      rotate_left
      · show Act.put _ (some 29) _ = _
        simp only [Act.put, List.setIfInBounds_toArray, List.set_cons_zero, List.set_cons_succ]
        rfl
      refine one_ (i := 7) (N := some 30) #[true, true, true, true, true, true, true, true, true, false] rfl rfl (by kernel_rfl) (by decide) (fun K hK => ?_)
      refine goes_ Try.func29 (by kernel_rfl) rfl #[.agg (vec c), .agg (vec j2)] (by rfl) rfl rfl (by (try simp only [List.map_toArray, List.map_cons, List.map_nil]); first | done | rfl) ?_
      (with_reducible refine (G4.out _).mono ?_)
      rintro e wq20 ⟨rfl, hq20⟩
      refine ⟨_, rfl, ?_⟩
      refine hK.out _ _ (hHeld.call hq20) (fun hHeld => ?_)
      clear hK K
      replace HQ := HQ.call hq20
      refine norm_ (a' := ?_) ?_ ?_
      rotate_left
      · show Act.put _ (some 30) _ = _
        simp only [Act.put, List.setIfInBounds_toArray, List.set_cons_zero, List.set_cons_succ]
        rfl
      have fin := hcont _ _ HQ
      simp only [putAll, Act.put, List.setIfInBounds_toArray, List.set_cons_zero, List.set_cons_succ] at fin
      exact fin
  intro q wq HQ
  simp only [putAll, Act.put, List.setIfInBounds_toArray, List.set_cons_zero, List.set_cons_succ]
  refine last_ (i := 9) (N := none) #[true, true, true, true, true, true, true, true, true, true] rfl rfl (by kernel_rfl) (by decide) (fun K hK => ?_)
  refine skip_ (by rfl) rfl (run_store_rowM _ _ _ rfl q (vec x) rfl rfl 46 (vec zero9) (HQ.1.get 0 rfl) Sx.out Zx.out (vec_one _)) ?_
  refine hK.out _ _ ?_
  clear hK K
  refine done_ (by kernel_rfl) ?_
  have H3 := Hd.mk (HQ.set (vec x))
  clear HQ hHeld H2
  generalize wq.setRow q (vec x) = W3 at *
  generalize q = by_ at *
  go_wp2_with fail
  refine (HN.out _).mono ?_; rintro e w4 ⟨rfl, h4⟩
  have H4 := Hd.mk (MH.new H3.out h4)
  clear h4 H3 HN
  generalize W3.heap.size = bm at H4 ⊢
  go_wp2_with (first | ((with_reducible refine gate_dst (N := 33) rfl ?_); refine wpList_load_row rfl 55 _ rfl w.heap.size rfl 55 (vec a) (0, 0) _ (H4.out.held.get 4 rfl) Try.underlying55 rfl Sa.out ?_))
  refine (MA.out _).mono ?_; rintro e w5 ⟨rfl, h5⟩
  have H5 := Hd.mk (H4.out.call h5)
  clear H4 h5
  go_wp2_with fail
  refine (HT1.out _ _ H5.out.mat).mono ?_; rintro e w6 ⟨rfl, h6, h6'⟩
  have H6 := Hd.mk (H5.out.tell h6 h6')
  clear H5 HT1 h6 h6'
  go_wp2_with (first | ((with_reducible refine gate_dst (N := 37) rfl ?_); refine wpList_load_row rfl 55 _ rfl (w.heap.size + 1) rfl 55 (vec b) (0, 0) _ (H6.out.held.get 3 rfl) Try.underlying55 rfl Sb.out ?_))
  refine (MB.out _).mono ?_; rintro e w7 ⟨rfl, h7⟩
  have H7 := Hd.mk (H6.out.call h7)
  clear H6 h7
  go_wp2_with fail
  refine (HT2.out _ _ H7.out.mat).mono ?_; rintro e w8 ⟨rfl, h8, h8'⟩
  have H8 := Hd.mk (H7.out.tell h8 h8')
  clear H7 HT2 h8 h8'
  go_wp2_with fail
  refine (HR0.out _ _ H8.out.mat).mono ?_; rintro e w9 ⟨rfl, h9⟩
  have H9 := Hd.mk (H8.out.call h9)
  have HTT := Hd.mk (MH.made H9.out (vec zero9) (vec o) 46)
  have hz := zeroRow
  clear H8 HR0 h9 H9
  go_upto_region 8 with (first | ((with_reducible refine gate_store (t := 46) rfl ?_); refine wpList_store_row rfl _ _ _ rfl w9.heap.size (vec o) rfl rfl 46 (vec zero9) (heap_alloc_new _ _) So.out Zo.out (vec_one _) ?_; generalize ((w9.alloc (.cells (vec zero9) 46 (0, 0))).setRow w9.heap.size (vec o)) = Wa at HTT ⊢))
  clear hz
  generalize w9.heap.size = bo at HTT ⊢
  go_wp2_with (first | ((with_reducible refine gate_dst (N := 43) rfl ?_); refine wpList_load_row rfl 55 _ rfl w.heap.size rfl 55 (vec a) (0, 0) _ (HTT.out.held.get 5 rfl) Try.underlying55 rfl Sa.out ?_))
  refine (MA.out _).mono ?_; rintro e wb ⟨rfl, hb⟩
  have Hb := Hd.mk (HTT.out.call hb)
  clear HTT hb
  go_wp2_with fail
  refine (HT3.out _ _ Hb.out.mat).mono ?_; rintro e wc ⟨rfl, hc, hc'⟩
  have Hc := Hd.mk (Hb.out.tell hc hc')
  clear Hb HT3 hc hc'
  have HR1 := Hd.mk (fun (w' : World) (h : MH w [(bo, .cells (vec o) 46 (0, 0)), (by_, .cells (vec x) 46 (0, 0)), (bx, .cells (vec x) 46 (0, 0)), (w.heap.size + 1 + 1, .cells (vec c) 55 (0, 0)), (w.heap.size + 1, .cells (vec b) 55 (0, 0)), (w.heap.size, .cells (vec a) 55 (0, 0))] bm 2 L3 w') => HR1.out w' bm h.mat)
  have HR2 := Hd.mk (fun (w' : World) (h : MH w [(bo, .cells (vec o) 46 (0, 0)), (by_, .cells (vec x) 46 (0, 0)), (bx, .cells (vec x) 46 (0, 0)), (w.heap.size + 1 + 1, .cells (vec c) 55 (0, 0)), (w.heap.size + 1, .cells (vec b) 55 (0, 0)), (w.heap.size, .cells (vec a) 55 (0, 0))] bm 2 L3 w') => HR2.out w' bm h.mat)
  go_upto_region 9 with (fail)
  refine start_ (n := 46) (S := fun W_ => MH w [(bo, .cells (vec o) 46 (0, 0)), (by_, .cells (vec x) 46 (0, 0)), (bx, .cells (vec x) 46 (0, 0)), (w.heap.size + 1 + 1, .cells (vec c) 55 (0, 0)), (w.heap.size + 1, .cells (vec b) 55 (0, 0)), (w.heap.size, .cells (vec a) 55 (0, 0))] bm 2 L3 W_) (ds := []) #[false, false, false, false, false, false, false, false, false, false, false, false, false, false, false, false, false, false, false, false, false, false, false, false, false, false, false, false, false, false, false, false, false, false, false, false, false, false, false, false, false, false, false, false, false, false] (by kernel_rfl) rfl rfl (Hc.out.drew) (fun hHeld => ?_)
  refine pure_ (i := 0) (N := some 46) (v := ?_) (a' := ?_) #[true, false, false, false, false, false, false, false, false, false, false, false, false, false, false, false, false, false, false, false, false, false, false, false, false, false, false, false, false, false, false, false, false, false, false, false, false, false, false, false, false, false, false, false, false, false] rfl rfl (by kernel_rfl) (fun _ _ _ h => h) (Or.inl ⟨by rfl, ?_⟩) ?_ ?_
  rotate_left
  · intro w_
    go_simp
    try with_reducible rfl
  rotate_left
  · simp only [Act.put, List.setIfInBounds_toArray, List.set_cons_zero, List.set_cons_succ]
    rfl
  refine pure_ (i := 1) (N := some 47) (v := ?_) (a' := ?_) #[true, true, false, false, false, false, false, false, false, false, false, false, false, false, false, false, false, false, false, false, false, false, false, false, false, false, false, false, false, false, false, false, false, false, false, false, false, false, false, false, false, false, false, false, false, false] rfl rfl (by kernel_rfl) (fun _ _ _ h => h) (Or.inl ⟨by rfl, ?_⟩) ?_ ?_
  rotate_left
  · intro w_
    go_simp
    try with_reducible rfl
  rotate_left
  · simp only [Act.put, List.setIfInBounds_toArray, List.set_cons_zero, List.set_cons_succ]
    rfl
  refine take_ (i := 2) (N := some 48) (v := .agg (vec x)) (a' := ?_) #[true, true, true, false, false, false, false, false, false, false, false, false, false, false, false, false, false, false, false, false, false, false, false, false, false, false, false, false, false, false, false, false, false, false, false, false, false, false, false, false, false, false, false, false, false, false] rfl rfl (by kernel_rfl) (fun _ _ _ h => h) (Or.inl ⟨by rfl, fun w' h => run_load_row 46 _ rfl bx rfl 46 _ _ _ (h.held.get 2 rfl) Try.underlying46 rfl Sx.out⟩) hHeld ?_ ?_
  rotate_left
  · simp only [Act.put, List.setIfInBounds_toArray, List.set_cons_zero, List.set_cons_succ]
    rfl
  refine take_ (i := 3) (N := some 49) (v := .agg (vec x)) (a' := ?_) #[true, true, true, true, false, false, false, false, false, false, false, false, false, false, false, false, false, false, false, false, false, false, false, false, false, false, false, false, false, false, false, false, false, false, false, false, false, false, false, false, false, false, false, false, false, false] rfl rfl (by kernel_rfl) (fun _ _ _ h => h) (Or.inl ⟨by rfl, fun w' h => run_load_row 46 _ rfl by_ rfl 46 _ _ _ (h.held.get 1 rfl) Try.underlying46 rfl Sx.out⟩) hHeld ?_ ?_
  rotate_left
  · simp only [Act.put, List.setIfInBounds_toArray, List.set_cons_zero, List.set_cons_succ]
    rfl
  refine take_ (i := 4) (N := some 50) (v := .bool true) (a' := ?_) #[true, true, true, true, true, false, false, false, false, false, false, false, false, false, false, false, false, false, false, false, false, false, false, false, false, false, false, false, false, false, false, false, false, false, false, false, false, false, false, false, false, false, false, false, false, false] rfl rfl (by kernel_rfl) (fun _ _ _ h => h) (Or.inl ⟨by rfl, fun w' h => by have heq := HEx.out; go_simp⟩) hHeld ?_ ?_
  rotate_left
  · simp only [Act.put, List.setIfInBounds_toArray, List.set_cons_zero, List.set_cons_succ]
    rfl
  refine pure_ (i := 5) (N := some 51) (v := ?_) (a' := ?_) #[true, true, true, true, true, true, false, false, false, false, false, false, false, false, false, false, false, false, false, false, false, false, false, false, false, false, false, false, false, false, false, false, false, false, false, false, false, false, false, false, false, false, false, false, false, false] rfl rfl (by kernel_rfl) (fun _ _ _ h => h) (Or.inl ⟨by rfl, ?_⟩) ?_ ?_
  rotate_left
  · intro w_
    go_simp
    try with_reducible rfl
  rotate_left
  · simp only [Act.put, List.setIfInBounds_toArray, List.set_cons_zero, List.set_cons_succ]
    rfl
  refine pure_ (i := 6) (N := some 52) (v := ?_) (a' := ?_) #[true, true, true, true, true, true, true, false, false, false, false, false, false, false, false, false, false, false, false, false, false, false, false, false, false, false, false, false, false, false, false, false, false, false, false, false, false, false, false, false, false, false, false, false, false, false] rfl rfl (by kernel_rfl) (fun _ _ _ h => h) (Or.inl ⟨by rfl, ?_⟩) ?_ ?_
  rotate_left
  · intro w_
    go_simp
    try with_reducible rfl
  rotate_left
  · simp only [Act.put, List.setIfInBounds_toArray, List.set_cons_zero, List.set_cons_succ]
    rfl
  refine take_ (i := 7) (N := some 53) (v := .agg (vec a)) (a' := ?_) #[true, true, true, true, true, true, true, true, false, false, false, false, false, false, false, false, false, false, false, false, false, false, false, false, false, false, false, false, false, false, false, false, false, false, false, false, false, false, false, false, false, false, false, false, false, false] rfl rfl (by kernel_rfl) (fun _ _ _ h => h) (Or.inl ⟨by rfl, fun w' h => run_load_row 55 _ rfl w.heap.size rfl 55 _ _ _ (h.held.get 5 rfl) Try.underlying55 rfl Sa.out⟩) hHeld ?_ ?_
  rotate_left
  · simp only [Act.put, List.setIfInBounds_toArray, List.set_cons_zero, List.set_cons_succ]
    rfl
  refine take_ (i := 9) (N := some 55) (v := .agg (vec a)) (a' := ?_) #[true, true, true, true, true, true, true, true, false, true, false, false, false, false, false, false, false, false, false, false, false, false, false, false, false, false, false, false, false, false, false, false, false, false, false, false, false, false, false, false, false, false, false, false, false, false] rfl rfl (by kernel_rfl) (fun _ _ _ h => h) (Or.inl ⟨by rfl, fun w' h => run_load_row 55 _ rfl w.heap.size rfl 55 _ _ _ (h.held.get 5 rfl) Try.underlying55 rfl Sa.out⟩) hHeld ?_ ?_
  rotate_left
  · simp only [Act.put, List.setIfInBounds_toArray, List.set_cons_zero, List.set_cons_succ]
    rfl
  refine take_ (i := 12) (N := some 58) (v := .agg (vec a)) (a' := ?_) #[true, true, true, true, true, true, true, true, false, true, false, false, true, false, false, false, false, false, false, false, false, false, false, false, false, false, false, false, false, false, false, false, false, false, false, false, false, false, false, false, false, false, false, false, false, false] rfl rfl (by kernel_rfl) (fun _ _ _ h => h) (Or.inl ⟨by rfl, fun w' h => run_load_row 55 _ rfl w.heap.size rfl 55 _ _ _ (h.held.get 5 rfl) Try.underlying55 rfl Sa.out⟩) hHeld ?_ ?_
  rotate_left
  · simp only [Act.put, List.setIfInBounds_toArray, List.set_cons_zero, List.set_cons_succ]
    rfl
  refine one_ (i := 8) (N := some 54) #[true, true, true, true, true, true, true, true, true, true, false, false, true, false, false, false, false, false, false, false, false, false, false, false, false, false, false, false, false, false, false, false, false, false, false, false, false, false, false, false, false, false, false, false, false, false] rfl rfl (by kernel_rfl) (by decide) (fun K hK => ?_)
  refine goes_ Try.func30 (by kernel_rfl) rfl #[.agg (vec a)] (by rfl) rfl rfl (by (try simp only [List.map_toArray, List.map_cons, List.map_nil]); first | done | rfl) ?_
  (with_reducible refine (MA.out _).mono ?_)
  rintro e wr19 ⟨rfl, hr19⟩
  refine ⟨_, rfl, ?_⟩
  refine hK.out _ _ (hHeld.call hr19) (fun hHeld => ?_)
  clear hK K
  refine norm_ (a' := ?_) ?_ ?_
  rotate_left
  · show Act.put _ (some 54) _ = _
    simp only [Act.put, List.setIfInBounds_toArray, List.set_cons_zero, List.set_cons_succ]
    rfl
  refine one_ (i := 10) (N := some 56) #[true, true, true, true, true, true, true, true, true, true, true, false, true, false, false, false, false, false, false, false, false, false, false, false, false, false, false, false, false, false, false, false, false, false, false, false, false, false, false, false, false, false, false, false, false, false] rfl rfl (by kernel_rfl) (by decide) (fun K hK => ?_)
  refine goes_ Try.func30 (by kernel_rfl) rfl #[.agg (vec a)] (by rfl) rfl rfl (by (try simp only [List.map_toArray, List.map_cons, List.map_nil]); first | done | rfl) ?_
  (with_reducible refine (MA.out _).mono ?_)
  rintro e wr20 ⟨rfl, hr20⟩
  refine ⟨_, rfl, ?_⟩
  refine hK.out _ _ (hHeld.call hr20) (fun hHeld => ?_)
  clear hK K
  refine norm_ (a' := ?_) ?_ ?_
  rotate_left
  · show Act.put _ (some 56) _ = _
    simp only [Act.put, List.setIfInBounds_toArray, List.set_cons_zero, List.set_cons_succ]
    rfl
  refine one_ (i := 11) (N := some 57) #[true, true, true, true, true, true, true, true, true, true, true, true, true, false, false, false, false, false, false, false, false, false, false, false, false, false, false, false, false, false, false, false, false, false, false, false, false, false, false, false, false, false, false, false, false, false] rfl rfl (by kernel_rfl) (by decide) (fun K hK => ?_)
  refine goes_ Try.func29 (by kernel_rfl) rfl #[.agg (vec a), .agg (vec a)] (by rfl) rfl rfl (by (try simp only [List.map_toArray, List.map_cons, List.map_nil]); first | done | rfl) ?_
  (with_reducible refine (GA.out _).mono ?_)
  rintro e wr21 ⟨rfl, hr21⟩
  refine ⟨_, rfl, ?_⟩
  refine hK.out _ _ (hHeld.call hr21) (fun hHeld => ?_)
  clear hK K
  refine norm_ (a' := ?_) ?_ ?_
  rotate_left
  · show Act.put _ (some 57) _ = _
    simp only [Act.put, List.setIfInBounds_toArray, List.set_cons_zero, List.set_cons_succ]
    rfl
  refine one_ (i := 13) (N := some 59) #[true, true, true, true, true, true, true, true, true, true, true, true, true, true, false, false, false, false, false, false, false, false, false, false, false, false, false, false, false, false, false, false, false, false, false, false, false, false, false, false, false, false, false, false, false, false] rfl rfl (by kernel_rfl) (by decide) (fun K hK => ?_)
  refine goes_ Try.func30 (by kernel_rfl) rfl #[.agg (vec a)] (by rfl) rfl rfl (by (try simp only [List.map_toArray, List.map_cons, List.map_nil]); first | done | rfl) ?_
  (with_reducible refine (MA.out _).mono ?_)
  rintro e wr22 ⟨rfl, hr22⟩
  refine ⟨_, rfl, ?_⟩
  refine hK.out _ _ (hHeld.call hr22) (fun hHeld => ?_)
  clear hK K
  refine norm_ (a' := ?_) ?_ ?_
  rotate_left
  · show Act.put _ (some 59) _ = _
    simp only [Act.put, List.setIfInBounds_toArray, List.set_cons_zero, List.set_cons_succ]
    rfl
  refine take_ (i := 14) (N := some 60) (v := .bool true) (a' := ?_) #[true, true, true, true, true, true, true, true, true, true, true, true, true, true, true, false, false, false, false, false, false, false, false, false, false, false, false, false, false, false, false, false, false, false, false, false, false, false, false, false, false, false, false, false, false, false] rfl rfl (by kernel_rfl) (fun _ _ _ h => h) (Or.inl ⟨by rfl, fun w' h => by have heq := HEa.out; go_simp⟩) hHeld ?_ ?_
  rotate_left
  · simp only [Act.put, List.setIfInBounds_toArray, List.set_cons_zero, List.set_cons_succ]
    rfl
  refine pure_ (i := 15) (N := some 61) (v := ?_) (a' := ?_) #[true, true, true, true, true, true, true, true, true, true, true, true, true, true, true, true, false, false, false, false, false, false, false, false, false, false, false, false, false, false, false, false, false, false, false, false, false, false, false, false, false, false, false, false, false, false] rfl rfl (by kernel_rfl) (fun _ _ _ h => h) (Or.inl ⟨by rfl, ?_⟩) ?_ ?_
  rotate_left
  · intro w_
    go_simp
    try with_reducible rfl
  rotate_left
  · simp only [Act.put, List.setIfInBounds_toArray, List.set_cons_zero, List.set_cons_succ]
    rfl
  refine pure_ (i := 16) (N := some 62) (v := ?_) (a' := ?_) #[true, true, true, true, true, true, true, true, true, true, true, true, true, true, true, true, true, false, false, false, false, false, false, false, false, false, false, false, false, false, false, false, false, false, false, false, false, false, false, false, false, false, false, false, false, false] rfl rfl (by kernel_rfl) (fun _ _ _ h => h) (Or.inl ⟨by rfl, ?_⟩) ?_ ?_
  rotate_left
  · intro w_
    go_simp
    try with_reducible rfl
  rotate_left
  · simp only [Act.put, List.setIfInBounds_toArray, List.set_cons_zero, List.set_cons_succ]
    rfl
  refine pure_ (i := 17) (N := some 63) (v := ?_) (a' := ?_) #[true, true, true, true, true, true, true, true, true, true, true, true, true, true, true, true, true, true, false, false, false, false, false, false, false, false, false, false, false, false, false, false, false, false, false, false, false, false, false, false, false, false, false, false, false, false] rfl rfl (by kernel_rfl) (fun _ _ _ h => h) (Or.inl ⟨by rfl, ?_⟩) ?_ ?_
  rotate_left
  · intro w_
    go_simp
    try with_reducible rfl
  rotate_left
  · simp only [Act.put, List.setIfInBounds_toArray, List.set_cons_zero, List.set_cons_succ]
    rfl
  refine take_ (i := 19) (N := some 65) (v := .agg (vec o)) (a' := ?_) #[true, true, true, true, true, true, true, true, true, true, true, true, true, true, true, true, true, true, false, true, false, false, false, false, false, false, false, false, false, false, false, false, false, false, false, false, false, false, false, false, false, false, false, false, false, false] rfl rfl (by kernel_rfl) (fun _ _ _ h => h) (Or.inl ⟨by rfl, fun w' h => run_load_row 46 _ rfl bo rfl 46 _ _ _ (h.held.get 0 rfl) Try.underlying46 rfl So.out⟩) hHeld ?_ ?_
  rotate_left
  · simp only [Act.put, List.setIfInBounds_toArray, List.set_cons_zero, List.set_cons_succ]
    rfl
  refine one_ (i := 18) (N := some 64) #[true, true, true, true, true, true, true, true, true, true, true, true, true, true, true, true, true, true, true, true, false, false, false, false, false, false, false, false, false, false, false, false, false, false, false, false, false, false, false, false, false, false, false, false, false, false] rfl rfl (by kernel_rfl) (by decide) (fun K hK => ?_)
  refine goes_ Try.func31 (by kernel_rfl) rfl #[.pointer (some ⟨bm, 0, none⟩), .int .i64 0] (by rfl) rfl rfl (by (try simp only [List.map_toArray, List.map_cons, List.map_nil]); first | done | rfl) ?_
  (with_reducible refine (HR1.out _ hHeld).mono ?_)
  rintro e wr23 ⟨rfl, hr23⟩
  refine ⟨_, rfl, ?_⟩
  refine hK.out _ _ (hHeld.call hr23) (fun hHeld => ?_)
  clear hK K
  refine norm_ (a' := ?_) ?_ ?_
  rotate_left
  · show Act.put _ (some 64) _ = _
    simp only [Act.put, List.setIfInBounds_toArray, List.set_cons_zero, List.set_cons_succ]
    rfl
  refine take_ (i := 20) (N := some 66) (v := .bool true) (a' := ?_) #[true, true, true, true, true, true, true, true, true, true, true, true, true, true, true, true, true, true, true, true, true, false, false, false, false, false, false, false, false, false, false, false, false, false, false, false, false, false, false, false, false, false, false, false, false, false] rfl rfl (by kernel_rfl) (fun _ _ _ h => h) (Or.inl ⟨by rfl, fun w' h => by have heq := HEo.out; go_simp⟩) hHeld ?_ ?_
  rotate_left
  · simp only [Act.put, List.setIfInBounds_toArray, List.set_cons_zero, List.set_cons_succ]
    rfl
  refine pure_ (i := 21) (N := some 67) (v := ?_) (a' := ?_) #[true, true, true, true, true, true, true, true, true, true, true, true, true, true, true, true, true, true, true, true, true, true, false, false, false, false, false, false, false, false, false, false, false, false, false, false, false, false, false, false, false, false, false, false, false, false] rfl rfl (by kernel_rfl) (fun _ _ _ h => h) (Or.inl ⟨by rfl, ?_⟩) ?_ ?_
  rotate_left
  · intro w_
    go_simp
    try with_reducible rfl
  rotate_left
  · simp only [Act.put, List.setIfInBounds_toArray, List.set_cons_zero, List.set_cons_succ]
    rfl
  refine pure_ (i := 22) (N := some 68) (v := ?_) (a' := ?_) #[true, true, true, true, true, true, true, true, true, true, true, true, true, true, true, true, true, true, true, true, true, true, true, false, false, false, false, false, false, false, false, false, false, false, false, false, false, false, false, false, false, false, false, false, false, false] rfl rfl (by kernel_rfl) (fun _ _ _ h => h) (Or.inl ⟨by rfl, ?_⟩) ?_ ?_
  rotate_left
  · intro w_
    go_simp
    try with_reducible rfl
  rotate_left
  · simp only [Act.put, List.setIfInBounds_toArray, List.set_cons_zero, List.set_cons_succ]
    rfl
  refine pure_ (i := 23) (N := some 69) (v := ?_) (a' := ?_) #[true, true, true, true, true, true, true, true, true, true, true, true, true, true, true, true, true, true, true, true, true, true, true, true, false, false, false, false, false, false, false, false, false, false, false, false, false, false, false, false, false, false, false, false, false, false] rfl rfl (by kernel_rfl) (fun _ _ _ h => h) (Or.inl ⟨by rfl, ?_⟩) ?_ ?_
  rotate_left
  · intro w_
    go_simp
    try with_reducible rfl
  rotate_left
  · simp only [Act.put, List.setIfInBounds_toArray, List.set_cons_zero, List.set_cons_succ]
    rfl
  refine take_ (i := 25) (N := some 71) (v := .agg (vec zero9)) (a' := ?_) #[true, true, true, true, true, true, true, true, true, true, true, true, true, true, true, true, true, true, true, true, true, true, true, true, false, true, false, false, false, false, false, false, false, false, false, false, false, false, false, false, false, false, false, false, false, false] rfl rfl (by kernel_rfl) (fun _ _ _ h => h) (Or.inl ⟨by rfl, fun w' h => by have hb := build_none w'; unfold execOp; simp only [Act.eval]; simp [hb]⟩) hHeld ?_ ?_
  rotate_left
  · simp only [Act.put, List.setIfInBounds_toArray, List.set_cons_zero, List.set_cons_succ]
    rfl
  refine one_ (i := 24) (N := some 70) #[true, true, true, true, true, true, true, true, true, true, true, true, true, true, true, true, true, true, true, true, true, true, true, true, true, true, false, false, false, false, false, false, false, false, false, false, false, false, false, false, false, false, false, false, false, false] rfl rfl (by kernel_rfl) (by decide) (fun K hK => ?_)
  refine goes_ Try.func31 (by kernel_rfl) rfl #[.pointer (some ⟨bm, 0, none⟩), .int .i64 1] (by rfl) rfl rfl (by (try simp only [List.map_toArray, List.map_cons, List.map_nil]); first | done | rfl) ?_
  (with_reducible refine (HR2.out _ hHeld).mono ?_)
  rintro e wr24 ⟨rfl, hr24⟩
  refine ⟨_, rfl, ?_⟩
  refine hK.out _ _ (hHeld.call hr24) (fun hHeld => ?_)
  clear hK K
  refine norm_ (a' := ?_) ?_ ?_
  rotate_left
  · show Act.put _ (some 70) _ = _
    simp only [Act.put, List.setIfInBounds_toArray, List.set_cons_zero, List.set_cons_succ]
    rfl
  refine take_ (i := 26) (N := some 72) (v := .bool true) (a' := ?_) #[true, true, true, true, true, true, true, true, true, true, true, true, true, true, true, true, true, true, true, true, true, true, true, true, true, true, true, false, false, false, false, false, false, false, false, false, false, false, false, false, false, false, false, false, false, false] rfl rfl (by kernel_rfl) (fun _ _ _ h => h) (Or.inl ⟨by rfl, fun w' h => by have heq := HEz.out; go_simp⟩) hHeld ?_ ?_
  rotate_left
  · simp only [Act.put, List.setIfInBounds_toArray, List.set_cons_zero, List.set_cons_succ]
    rfl
  refine pure_ (i := 27) (N := some 73) (v := ?_) (a' := ?_) #[true, true, true, true, true, true, true, true, true, true, true, true, true, true, true, true, true, true, true, true, true, true, true, true, true, true, true, true, false, false, false, false, false, false, false, false, false, false, false, false, false, false, false, false, false, false] rfl rfl (by kernel_rfl) (fun _ _ _ h => h) (Or.inl ⟨by rfl, ?_⟩) ?_ ?_
  rotate_left
  · intro w_
    go_simp
    try with_reducible rfl
  rotate_left
  · simp only [Act.put, List.setIfInBounds_toArray, List.set_cons_zero, List.set_cons_succ]
    rfl
  refine pure_ (i := 28) (N := some 74) (v := ?_) (a' := ?_) #[true, true, true, true, true, true, true, true, true, true, true, true, true, true, true, true, true, true, true, true, true, true, true, true, true, true, true, true, true, false, false, false, false, false, false, false, false, false, false, false, false, false, false, false, false, false] rfl rfl (by kernel_rfl) (fun _ _ _ h => h) (Or.inl ⟨by rfl, ?_⟩) ?_ ?_
  rotate_left
  · intro w_
    go_simp
    try with_reducible rfl
  rotate_left
  · simp only [Act.put, List.setIfInBounds_toArray, List.set_cons_zero, List.set_cons_succ]
    rfl
  refine pure_ (i := 29) (N := some 75) (v := ?_) (a' := ?_) #[true, true, true, true, true, true, true, true, true, true, true, true, true, true, true, true, true, true, true, true, true, true, true, true, true, true, true, true, true, true, false, false, false, false, false, false, false, false, false, false, false, false, false, false, false, false] rfl rfl (by kernel_rfl) (fun _ _ _ h => h) (Or.inl ⟨by rfl, ?_⟩) ?_ ?_
  rotate_left
  · intro w_
    go_simp
    try with_reducible rfl
  rotate_left
  · simp only [Act.put, List.setIfInBounds_toArray, List.set_cons_zero, List.set_cons_succ]
    rfl
  refine pure_ (i := 30) (N := some 76) (v := ?_) (a' := ?_) #[true, true, true, true, true, true, true, true, true, true, true, true, true, true, true, true, true, true, true, true, true, true, true, true, true, true, true, true, true, true, true, false, false, false, false, false, false, false, false, false, false, false, false, false, false, false] rfl rfl (by kernel_rfl) (fun _ _ _ h => h) (Or.inl ⟨by rfl, ?_⟩) ?_ ?_
  rotate_left
  · intro w_
    go_simp
    try with_reducible rfl
  rotate_left
  · simp only [Act.put, List.setIfInBounds_toArray, List.set_cons_zero, List.set_cons_succ]
    rfl
  refine pure_ (i := 31) (N := some 77) (v := ?_) (a' := ?_) #[true, true, true, true, true, true, true, true, true, true, true, true, true, true, true, true, true, true, true, true, true, true, true, true, true, true, true, true, true, true, true, true, false, false, false, false, false, false, false, false, false, false, false, false, false, false] rfl rfl (by kernel_rfl) (fun _ _ _ h => h) (Or.inl ⟨by rfl, ?_⟩) ?_ ?_
  rotate_left
  · intro w_
    go_simp
    try with_reducible rfl
  rotate_left
  · simp only [Act.put, List.setIfInBounds_toArray, List.set_cons_zero, List.set_cons_succ]
    rfl
  first
    | (refine pure_ (i := 32) (N := some 78) (v := ?_) (a' := ?_) #[true, true, true, true, true, true, true, true, true, true, true, true, true, true, true, true, true, true, true, true, true, true, true, true, true, true, true, true, true, true, true, true, true, false, false, false, false, false, false, false, false, false, false, false, false, false] rfl rfl (by kernel_rfl) (fun _ _ _ h => h) (Or.inl ⟨by rfl, ?_⟩) ?_ ?_
       rotate_left
       · intro w_
         go_simp
         try with_reducible rfl
       rotate_left
       · simp only [Act.put, List.setIfInBounds_toArray, List.set_cons_zero, List.set_cons_succ]
         rfl)
    | (refine pure_ (i := 32) (N := some 78) (v := undef) (a' := ?_) #[true, true, true, true, true, true, true, true, true, true, true, true, true, true, true, true, true, true, true, true, true, true, true, true, true, true, true, true, true, true, true, true, true, false, false, false, false, false, false, false, false, false, false, false, false, false] rfl rfl (by kernel_rfl) (fun _ _ _ h => h) (Or.inr ⟨by rfl, rfl⟩) ?_ ?_
       rotate_left
       · simp only [Act.put, List.setIfInBounds_toArray, List.set_cons_zero, List.set_cons_succ]
         rfl)
  first
    | (refine pure_ (i := 33) (N := some 79) (v := ?_) (a' := ?_) #[true, true, true, true, true, true, true, true, true, true, true, true, true, true, true, true, true, true, true, true, true, true, true, true, true, true, true, true, true, true, true, true, true, true, false, false, false, false, false, false, false, false, false, false, false, false] rfl rfl (by kernel_rfl) (fun _ _ _ h => h) (Or.inl ⟨by rfl, ?_⟩) ?_ ?_
       rotate_left
       · intro w_
         go_simp
         try with_reducible rfl
       rotate_left
       · simp only [Act.put, List.setIfInBounds_toArray, List.set_cons_zero, List.set_cons_succ]
         rfl)
    | (refine pure_ (i := 33) (N := some 79) (v := undef) (a' := ?_) #[true, true, true, true, true, true, true, true, true, true, true, true, true, true, true, true, true, true, true, true, true, true, true, true, true, true, true, true, true, true, true, true, true, true, false, false, false, false, false, false, false, false, false, false, false, false] rfl rfl (by kernel_rfl) (fun _ _ _ h => h) (Or.inr ⟨by rfl, rfl⟩) ?_ ?_
       rotate_left
       · simp only [Act.put, List.setIfInBounds_toArray, List.set_cons_zero, List.set_cons_succ]
         rfl)
  refine pure_ (i := 34) (N := some 80) (v := ?_) (a' := ?_) #[true, true, true, true, true, true, true, true, true, true, true, true, true, true, true, true, true, true, true, true, true, true, true, true, true, true, true, true, true, true, true, true, true, true, true, false, false, false, false, false, false, false, false, false, false, false] rfl rfl (by kernel_rfl) (fun _ _ _ h => h) (Or.inl ⟨by rfl, ?_⟩) ?_ ?_
  rotate_left
  · intro w_
    go_simp
    try with_reducible rfl
  rotate_left
  · simp only [Act.put, List.setIfInBounds_toArray, List.set_cons_zero, List.set_cons_succ]
    rfl
  refine pure_ (i := 35) (N := some 81) (v := ?_) (a' := ?_) #[true, true, true, true, true, true, true, true, true, true, true, true, true, true, true, true, true, true, true, true, true, true, true, true, true, true, true, true, true, true, true, true, true, true, true, true, false, false, false, false, false, false, false, false, false, false] rfl rfl (by kernel_rfl) (fun _ _ _ h => h) (Or.inl ⟨by rfl, ?_⟩) ?_ ?_
  rotate_left
  · intro w_
    go_simp
    try with_reducible rfl
  rotate_left
  · simp only [Act.put, List.setIfInBounds_toArray, List.set_cons_zero, List.set_cons_succ]
    rfl
  first
    | (refine take_ (i := 36) (N := some 82) (v := .agg (vec o)) (a' := ?_) #[true, true, true, true, true, true, true, true, true, true, true, true, true, true, true, true, true, true, true, true, true, true, true, true, true, true, true, true, true, true, true, true, true, true, true, true, true, false, false, false, false, false, false, false, false, false] rfl rfl (by kernel_rfl) (fun _ _ _ h => h) (Or.inl ⟨by rfl, fun w' h => run_load_row 46 _ rfl bo rfl 46 _ _ _ (h.held.get 0 rfl) Try.underlying46 rfl So.out⟩) hHeld ?_ ?_
       rotate_left
       · simp only [Act.put, List.setIfInBounds_toArray, List.set_cons_zero, List.set_cons_succ]
         rfl)
    | (refine pure_ (i := 36) (N := some 82) (v := undef) (a' := ?_) #[true, true, true, true, true, true, true, true, true, true, true, true, true, true, true, true, true, true, true, true, true, true, true, true, true, true, true, true, true, true, true, true, true, true, true, true, true, false, false, false, false, false, false, false, false, false] rfl rfl (by kernel_rfl) (fun _ _ _ h => h) (Or.inr ⟨by rfl, rfl⟩) ?_ ?_
       rotate_left
       · simp only [Act.put, List.setIfInBounds_toArray, List.set_cons_zero, List.set_cons_succ]
         rfl)
  first
    | (refine take_ (i := 37) (N := some 83) (v := .agg (vec a)) (a' := ?_) #[true, true, true, true, true, true, true, true, true, true, true, true, true, true, true, true, true, true, true, true, true, true, true, true, true, true, true, true, true, true, true, true, true, true, true, true, true, true, false, false, false, false, false, false, false, false] rfl rfl (by kernel_rfl) (fun _ _ _ h => h) (Or.inl ⟨by rfl, fun w' h => run_load_row 55 _ rfl w.heap.size rfl 55 _ _ _ (h.held.get 5 rfl) Try.underlying55 rfl Sa.out⟩) hHeld ?_ ?_
       rotate_left
       · simp only [Act.put, List.setIfInBounds_toArray, List.set_cons_zero, List.set_cons_succ]
         rfl)
    | (refine pure_ (i := 37) (N := some 83) (v := undef) (a' := ?_) #[true, true, true, true, true, true, true, true, true, true, true, true, true, true, true, true, true, true, true, true, true, true, true, true, true, true, true, true, true, true, true, true, true, true, true, true, true, true, false, false, false, false, false, false, false, false] rfl rfl (by kernel_rfl) (fun _ _ _ h => h) (Or.inr ⟨by rfl, rfl⟩) ?_ ?_
       rotate_left
       · simp only [Act.put, List.setIfInBounds_toArray, List.set_cons_zero, List.set_cons_succ]
         rfl)
  first
    | (refine take_ (i := 39) (N := some 85) (v := .agg (vec b)) (a' := ?_) #[true, true, true, true, true, true, true, true, true, true, true, true, true, true, true, true, true, true, true, true, true, true, true, true, true, true, true, true, true, true, true, true, true, true, true, true, true, true, false, true, false, false, false, false, false, false] rfl rfl (by kernel_rfl) (fun _ _ _ h => h) (Or.inl ⟨by rfl, fun w' h => run_load_row 55 _ rfl (w.heap.size + 1) rfl 55 _ _ _ (h.held.get 4 rfl) Try.underlying55 rfl Sb.out⟩) hHeld ?_ ?_
       rotate_left
       · simp only [Act.put, List.setIfInBounds_toArray, List.set_cons_zero, List.set_cons_succ]
         rfl)
    | (refine pure_ (i := 39) (N := some 85) (v := undef) (a' := ?_) #[true, true, true, true, true, true, true, true, true, true, true, true, true, true, true, true, true, true, true, true, true, true, true, true, true, true, true, true, true, true, true, true, true, true, true, true, true, true, false, true, false, false, false, false, false, false] rfl rfl (by kernel_rfl) (fun _ _ _ h => h) (Or.inr ⟨by rfl, rfl⟩) ?_ ?_
       rotate_left
       · simp only [Act.put, List.setIfInBounds_toArray, List.set_cons_zero, List.set_cons_succ]
         rfl)
  first
    | (refine one_ (i := 38) (N := some 84) #[true, true, true, true, true, true, true, true, true, true, true, true, true, true, true, true, true, true, true, true, true, true, true, true, true, true, true, true, true, true, true, true, true, true, true, true, true, true, true, true, false, false, false, false, false, false] rfl rfl (by kernel_rfl) (by decide) (fun K hK => ?_)
       refine goes_ Try.func30 (by kernel_rfl) rfl #[.agg (vec a)] (by rfl) rfl rfl (by (try simp only [List.map_toArray, List.map_cons, List.map_nil]); first | done | rfl) ?_
       (with_reducible refine (MA.out _).mono ?_)
       rintro e wr25 ⟨rfl, hr25⟩
       refine ⟨_, rfl, ?_⟩
       refine hK.out _ _ (hHeld.call hr25) (fun hHeld => ?_)
       clear hK K
       refine norm_ (a' := ?_) ?_ ?_
       rotate_left
       · show Act.put _ (some 84) _ = _
         simp only [Act.put, List.setIfInBounds_toArray, List.set_cons_zero, List.set_cons_succ]
         rfl)
    | (refine pure_ (i := 38) (N := some 84) (v := undef) (a' := ?_) #[true, true, true, true, true, true, true, true, true, true, true, true, true, true, true, true, true, true, true, true, true, true, true, true, true, true, true, true, true, true, true, true, true, true, true, true, true, true, true, true, false, false, false, false, false, false] rfl rfl (by kernel_rfl) (fun _ _ _ h => h) (Or.inr ⟨by rfl, rfl⟩) ?_ ?_
       rotate_left
       · simp only [Act.put, List.setIfInBounds_toArray, List.set_cons_zero, List.set_cons_succ]
         rfl)
  first
    | (refine one_ (i := 40) (N := some 86) #[true, true, true, true, true, true, true, true, true, true, true, true, true, true, true, true, true, true, true, true, true, true, true, true, true, true, true, true, true, true, true, true, true, true, true, true, true, true, true, true, true, false, false, false, false, false] rfl rfl (by kernel_rfl) (by decide) (fun K hK => ?_)
       refine goes_ Try.func30 (by kernel_rfl) rfl #[.agg (vec b)] (by rfl) rfl rfl (by (try simp only [List.map_toArray, List.map_cons, List.map_nil]); first | done | rfl) ?_
       (with_reducible refine (MB.out _).mono ?_)
       rintro e wr26 ⟨rfl, hr26⟩
       refine ⟨_, rfl, ?_⟩
       refine hK.out _ _ (hHeld.call hr26) (fun hHeld => ?_)
       clear hK K
       refine norm_ (a' := ?_) ?_ ?_
       rotate_left
       · show Act.put _ (some 86) _ = _
         simp only [Act.put, List.setIfInBounds_toArray, List.set_cons_zero, List.set_cons_succ]
         rfl)
    | (refine pure_ (i := 40) (N := some 86) (v := undef) (a' := ?_) #[true, true, true, true, true, true, true, true, true, true, true, true, true, true, true, true, true, true, true, true, true, true, true, true, true, true, true, true, true, true, true, true, true, true, true, true, true, true, true, true, true, false, false, false, false, false] rfl rfl (by kernel_rfl) (fun _ _ _ h => h) (Or.inr ⟨by rfl, rfl⟩) ?_ ?_
       rotate_left
       · simp only [Act.put, List.setIfInBounds_toArray, List.set_cons_zero, List.set_cons_succ]
         rfl)
  first
    | (refine one_ (i := 41) (N := some 87) #[true, true, true, true, true, true, true, true, true, true, true, true, true, true, true, true, true, true, true, true, true, true, true, true, true, true, true, true, true, true, true, true, true, true, true, true, true, true, true, true, true, true, false, false, false, false] rfl rfl (by kernel_rfl) (by decide) (fun K hK => ?_)
       refine goes_ Try.func29 (by kernel_rfl) rfl #[.agg (vec a), .agg (vec b)] (by rfl) rfl rfl (by (try simp only [List.map_toArray, List.map_cons, List.map_nil]); first | done | rfl) ?_
       (with_reducible refine (G1.out _).mono ?_)
       rintro e wr27 ⟨rfl, hr27⟩
       refine ⟨_, rfl, ?_⟩
       refine hK.out _ _ (hHeld.call hr27) (fun hHeld => ?_)
       clear hK K
       refine norm_ (a' := ?_) ?_ ?_
       rotate_left
       · show Act.put _ (some 87) _ = _
         simp only [Act.put, List.setIfInBounds_toArray, List.set_cons_zero, List.set_cons_succ]
         rfl)
    | (refine pure_ (i := 41) (N := some 87) (v := undef) (a' := ?_) #[true, true, true, true, true, true, true, true, true, true, true, true, true, true, true, true, true, true, true, true, true, true, true, true, true, true, true, true, true, true, true, true, true, true, true, true, true, true, true, true, true, true, false, false, false, false] rfl rfl (by kernel_rfl) (fun _ _ _ h => h) (Or.inr ⟨by rfl, rfl⟩) ?_ ?_
       rotate_left
       · simp only [Act.put, List.setIfInBounds_toArray, List.set_cons_zero, List.set_cons_succ]
         rfl)
  first
    | (refine take_ (i := 42) (N := some 88) (v := .bool true) (a' := ?_) #[true, true, true, true, true, true, true, true, true, true, true, true, true, true, true, true, true, true, true, true, true, true, true, true, true, true, true, true, true, true, true, true, true, true, true, true, true, true, true, true, true, true, true, false, false, false] rfl rfl (by kernel_rfl) (fun _ _ _ h => h) (Or.inl ⟨by rfl, fun w' h => by have heq := HEo.out; go_simp⟩) hHeld ?_ ?_
       rotate_left
       · simp only [Act.put, List.setIfInBounds_toArray, List.set_cons_zero, List.set_cons_succ]
         rfl)
    | (refine pure_ (i := 42) (N := some 88) (v := undef) (a' := ?_) #[true, true, true, true, true, true, true, true, true, true, true, true, true, true, true, true, true, true, true, true, true, true, true, true, true, true, true, true, true, true, true, true, true, true, true, true, true, true, true, true, true, true, true, false, false, false] rfl rfl (by kernel_rfl) (fun _ _ _ h => h) (Or.inr ⟨by rfl, rfl⟩) ?_ ?_
       rotate_left
       · simp only [Act.put, List.setIfInBounds_toArray, List.set_cons_zero, List.set_cons_succ]
         rfl)
  refine pure_ (i := 43) (N := some 89) (v := ?_) (a' := ?_) #[true, true, true, true, true, true, true, true, true, true, true, true, true, true, true, true, true, true, true, true, true, true, true, true, true, true, true, true, true, true, true, true, true, true, true, true, true, true, true, true, true, true, true, true, false, false] rfl rfl (by kernel_rfl) (fun _ _ _ h => h) (Or.inl ⟨by rfl, ?_⟩) ?_ ?_
  rotate_left
  · intro w_
    go_simp
    try with_reducible rfl
  rotate_left
  · simp only [Act.put, List.setIfInBounds_toArray, List.set_cons_zero, List.set_cons_succ]
    rfl
  refine pure_ (i := 44) (N := some 90) (v := ?_) (a' := ?_) #[true, true, true, true, true, true, true, true, true, true, true, true, true, true, true, true, true, true, true, true, true, true, true, true, true, true, true, true, true, true, true, true, true, true, true, true, true, true, true, true, true, true, true, true, true, false] rfl rfl (by kernel_rfl) (fun _ _ _ h => h) (Or.inl ⟨by rfl, ?_⟩) ?_ ?_
  rotate_left
  · intro w_
    go_simp
    try with_reducible rfl
  rotate_left
  · simp only [Act.put, List.setIfInBounds_toArray, List.set_cons_zero, List.set_cons_succ]
    rfl
  refine pure_ (i := 45) (N := some 6) (v := ?_) (a' := ?_) #[true, true, true, true, true, true, true, true, true, true, true, true, true, true, true, true, true, true, true, true, true, true, true, true, true, true, true, true, true, true, true, true, true, true, true, true, true, true, true, true, true, true, true, true, true, true] rfl rfl (by kernel_rfl) (fun _ _ _ h => h) (Or.inl ⟨by rfl, ?_⟩) ?_ ?_
  rotate_left
  · intro w_
    go_simp
    try with_reducible rfl
  rotate_left
  · simp only [Act.put, List.setIfInBounds_toArray, List.set_cons_zero, List.set_cons_succ]
    rfl
  refine done_ (by kernel_rfl) ?_
  go_wp2
  go_ret
  exact ⟨rfl, hHeld.held.2⟩

theorem law_MatrixMerges {x y z : Value} {a b c : List Int} (hx : IsRow x a) (hy : IsRow y b) (hz : IsRow z c) (w : World) :
    Calls Try.prog 7 #[x, y, z] w fun e w' => e = .returned (.bool true) ∧ Below w.heap.size w w' := by
  obtain ⟨rfl, ha, _⟩ := hx
  obtain ⟨rfl, hb, _⟩ := hy
  obtain ⟨rfl, hc, _⟩ := hz
  cases pa : mayV a with
  | false => exact arm0 _ a b c ha hb hc pa rfl w
  | true =>
    cases pb : mayV b with
    | false => exact arm10 a b c ha hb hc pa pb w
    | true => exact arm11 a b c ha hb hc pa pb w
end Go.Proofs.Ytkjlakjihjfjdaa.matrixMerges
