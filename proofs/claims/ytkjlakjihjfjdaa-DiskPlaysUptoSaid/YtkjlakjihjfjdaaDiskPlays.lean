/- The law DiskPlays: the walk. -/
import Derived.Test.YtkjlakjihjfjdaaDiskPlaysMid
namespace Go.Proofs.Ytkjlakjihjfjdaa.diskPlays
open Go.RowKit Go.Proofs.YtkjlakjihjfjdaaW.PrintWords Go.Proofs.YtkjlakjihjfjdaaW.PrintLast Go.Proofs.YtkjlakjihjfjdaaW.PrintMore
set_option linter.unusedVariables false
set_option linter.unusedSimpArgs false

set_option maxHeartbeats 4000000 in
set_option maxRecDepth 100000 in
theorem law_DiskPlays (room : Int) (hr : (Lit.int .i64 room).wf = true) {v : Value} {A : Option Addr} {len cap : Nat} {l : List (Int × Int × ByteArray)} {w : World} (hv : AreDeeds 1048576 w v A len cap l) :
    Calls Try.prog 10 #[.int .i64 room, v] w fun e w' => e = .returned (.bool true) ∧ Below w.heap.size w w' := by
  have HS := Hd.mk disk_shown
  have HRN := Hd.mk (ref_New room)
  have HRS := Hd.mk @disk_same
  have hz := zeroRef
  obtain ⟨hr1, hr2⟩ := i64_of hr
  obtain ⟨rfl, hlc, hcm, hll, hsz, hc⟩ := hv
  have HV := Hd.mk (⟨hlc, hcm, hll, hsz, hc⟩ : _ ∧ _ ∧ _ ∧ _ ∧ _)
  have hR0 : 0 ≤ max room 0 := by omega
  have hR1 : max room 0 ≤ 9223372036854775807 := by omega
  clear hlc hcm hll hsz hc hr1 hr2 hr
  go_enter Try.func10, Try.ntmps10
  go_wp2_with fail
  refine (HS.out _).mono ?_; rintro e w1 ⟨rfl, h1⟩
  have H1 := Hd.mk (dS_New w room w1 h1)
  clear h1 HS
  go_wp2_with fail
  refine H1.out.mono ?_; rintro e w2 ⟨b, rfl, h2⟩
  generalize max room 0 = R at *
  have HR := Hd.mk (⟨hR0, hR1⟩ : _ ∧ _)
  have H2 := Hd.mk h2
  clear H1 h2 hR0 hR1
  go_wp2_with fail
  refine (HRN.out _).mono ?_; rintro e w3 ⟨rfl, h3⟩
  have H3 := Hd.mk h3
  clear h3 HRN
  go_upto_region 4 with (first | ((with_reducible refine gate_store (t := 74) rfl ?_); refine wpList_store_row rfl _ _ _ rfl w3.heap.size (rcells R ⟨#[]⟩ ⟨#[]⟩ ⟨#[]⟩) rfl rfl 74 (rcells 0 ⟨#[]⟩ ⟨#[]⟩ ⟨#[]⟩) (heap_alloc_new _ _) size_ref rfl (rcells_one _ _ _ _) ?_; have HW := Hd.mk ((Holds.nil w3).made (rcells 0 ⟨#[]⟩ ⟨#[]⟩ ⟨#[]⟩) (rcells R ⟨#[]⟩ ⟨#[]⟩ ⟨#[]⟩) 74); generalize ((w3.alloc (.cells (rcells 0 ⟨#[]⟩ ⟨#[]⟩ ⟨#[]⟩) 74 (0, 0))).setRow w3.heap.size (rcells R ⟨#[]⟩ ⟨#[]⟩ ⟨#[]⟩)) = W4 at HW ⊢))
  have HP : Hd (Both w b w3.heap.size R ⟨#[]⟩ ⟨#[]⟩ ⟨#[]⟩ W4) := ⟨by
    have hb := below_step H3.out HW.out.2
    obtain ⟨T, hT1, hT2, hD⟩ := H2.out.apart hb
    exact ⟨here hD (by rintro j (h | rfl); exact hT1 j h; exact hT2 _ H3.out.size (Array.getElem?_eq_some_iff.1 (HW.out.get 0 rfl)).1), HW.out.get 0 rfl, below_step H2.out.below hb, Nat.le_trans H2.out.below.size H3.out.size⟩⟩
  generalize w3.heap.size = p at *
  clear H2 H3 HW
  go_wp2_with fail
  go_loopg [8] 200 (fun kq v8 wr => ∃ i : Nat, i ≤ 200 ∧ i ≤ len ∧ v8 = .int .i64 (i : Int) ∧ Hd (kq + i = 200) ∧ ∃ snap safe rest : ByteArray, Hd (Both w b p R snap safe rest wr) ∧ Hd (Fine R i snap safe rest))
  case atStart => exact ⟨0, by omega, by omega, rfl, ⟨rfl⟩, ⟨#[]⟩, ⟨#[]⟩, ⟨#[]⟩, HP, ⟨fine_start HR.out.1⟩⟩
  case round =>
    clear HP
    obtain ⟨i, hi1, hi2, rfl, HK, snap, safe, rest, HB, HF⟩ := hrel
    by_cases hlt : i < len ∧ i < 200
    · obtain ⟨g1, g2⟩ := hlt
      have g1' : (i : Int) < (len : Int) := by omega
      have g2' : (i : Int) < 200 := by omega
      have hw1 : wrap64 ((i : Int) + 1) = ((i + 1 : Nat) : Int) := by unfold wrap64; omega
      obtain ⟨⟨kind, kp, s⟩, hd⟩ : ∃ d, l[i]? = some d := ⟨_, List.getElem?_eq_getElem (by rw [HV.out.2.2.1]; exact g1)⟩
      obtain ⟨a, rfl, c0, c1, c2⟩ := HV.out.2.2.2.2 i _ hd
      have hs := HV.out.2.2.2.1 _ (List.mem_of_getElem? hd)
      have HCE := Hd.mk (⟨c0, c1, c2⟩ : _ ∧ _ ∧ _)
      have HS1 := Hd.mk hs
      have hXS := Hd.mk (fine_size HF.out hi1)
      have HOK := Hd.mk (fine_ok HF.out HR.out.2)
      have HCP := Hd.mk (dS_Copy HB.out.hd (by rw [ByteArray.size_append]; have := hXS.out; omega))
      clear hs hd c0 c1 c2
      go_wp2_with fail
      refine HCP.out.mono ?_; rintro e W1 ⟨b2, rfl, hC⟩
      have HC := Hd.mk hC
      have HX1 := Hd.mk ((hC.below.block _ (Array.getElem?_eq_some_iff.1 HB.out.hx).1).trans HB.out.hx)
      clear HCP hC
      go_upto_region 9 with (first | ((with_reducible refine gate_dst (N := 34) rfl ?_); refine wpList_load_row rfl 74 _ rfl p rfl 74 (rcells R snap safe rest) (0, 0) _ HX1.out Try.underlying74 rfl size_ref ?_) | ((with_reducible refine gate_store (t := 74) rfl ?_); refine wpList_store_row rfl _ _ _ rfl W1.heap.size (rcells R snap safe rest) rfl rfl 74 (rcells 0 ⟨#[]⟩ ⟨#[]⟩ ⟨#[]⟩) (heap_alloc_new _ _) size_ref rfl (rcells_one _ _ _ _) ?_; have HW := Hd.mk ((Holds.nil W1).made (rcells 0 ⟨#[]⟩ ⟨#[]⟩ ⟨#[]⟩) (rcells R snap safe rest) 74); generalize ((W1.alloc (.cells (rcells 0 ⟨#[]⟩ ⟨#[]⟩ ⟨#[]⟩) 74 (0, 0))).setRow W1.heap.size (rcells R snap safe rest)) = W2 at HW ⊢))
      obtain ⟨T, hD2, hM⟩ := HB.out.mid HC.out HW.out (Nat.le_refl _)
      have HD2 := Hd.mk hD2
      have HM := Hd.mk hM
      have HM2 := Hd.mk (hM _ _ _ _ hD2)
      clear hD2 hM HC HX1 HW HB
      generalize W1.heap.size = qo at *
      generalize wr.heap.size = n0 at *
      have d0 : W2.cell? (a.add (i * 3)) = some (.int .i64 kind) := (HM2.out.bel.cell (World.block_lt_of_cell? w _ HCE.out.1)).trans HCE.out.1
      have d1 : W2.cell? ⟨(a.add (i * 3)).block, (a.add (i * 3)).off + 1, none⟩ = some (.int .i64 kp) := (HM2.out.bel.cell (World.block_lt_of_cell? w _ HCE.out.2.1)).trans HCE.out.2.1
      have d2 : W2.cell? ⟨(a.add (i * 3)).block, (a.add (i * 3)).off + 2, none⟩ = some (.string s) := (HM2.out.bel.cell (World.block_lt_of_cell? w _ HCE.out.2.2)).trans HCE.out.2.2
      by_cases k0 : kind = 0
      · subst k0
        by_cases hfit : (snap.size : Int) + safe.size + rest.size + s.size ≤ R
        · skip
          have HO := Hd.mk (dS_Append HD2.out s HR.out.2 (by rw [ByteArray.size_append]; omega) (by rw [ByteArray.size_append]; have := hXS.out; have : s.size ≤ 1048576 := HS1.out; omega))
          go_wp2_with fail
          refine HO.out.mono ?_; rintro e W3 ⟨rfl, h3⟩
          rw [show (safe ++ rest) ++ s = safe ++ (rest ++ s) from by apply ByteArray.ext; simp] at h3
          have HM3 := Hd.mk (HM.out _ _ _ _ h3)
          have D2 := Hd.mk ((HM3.out.bel.cell (World.block_lt_of_cell? w _ HCE.out.2.2)).trans HCE.out.2.2)
          clear HO HD2 HM HM2 h3 d0 d1 d2
          have HRA := Hd.mk (ref_Append R snap safe rest HOK.out s (by omega) (by have := hXS.out; have : s.size ≤ 1048576 := HS1.out; omega))
          go_upto_region 14 with (fail)
          refine start_ (n := 13) (S := fun W_ => Holds W3 [(p, .cells (rcells R snap safe rest) 74 (0, 0))] W_) (ds := [11]) #[false, false, false, false, false, false, false, false, false, false, false, false, false] (by kernel_rfl) rfl rfl (⟨by intro x hx; obtain rfl := List.mem_singleton.1 hx; exact HM3.out.hx, (Below.refl _ _).drew⟩) (fun hHeld => ?_)
          refine take_ (i := 0) (N := some 64) (v := .agg (rcells R snap safe rest)) (a' := ?_) #[true, false, false, false, false, false, false, false, false, false, false, false, false] rfl rfl (by kernel_rfl) (fun _ _ _ h => h) (Or.inl ⟨by rfl, fun w' h => run_load_rowD 74 _ rfl p rfl 74 _ _ _ (h.get 0 rfl) Try.underlying74 rfl size_ref⟩) hHeld ?_ ?_
          rotate_left
          · simp only [Act.put, List.setIfInBounds_toArray, List.set_cons_zero, List.set_cons_succ]
            rfl
          refine pure_ (i := 1) (N := some 65) (v := ?_) (a' := ?_) #[true, true, false, false, false, false, false, false, false, false, false, false, false] rfl rfl (by kernel_rfl) (fun _ _ _ h => h) (Or.inl ⟨by rfl, ?_⟩) ?_ ?_
          rotate_left
          · intro w_
            go_simp
            try with_reducible rfl
          rotate_left
          · simp only [Act.put, List.setIfInBounds_toArray, List.set_cons_zero, List.set_cons_succ]
            rfl
          refine pure_ (i := 2) (N := some 66) (v := ?_) (a' := ?_) #[true, true, true, false, false, false, false, false, false, false, false, false, false] rfl rfl (by kernel_rfl) (fun _ _ _ h => h) (Or.inl ⟨by rfl, ?_⟩) ?_ ?_
          rotate_left
          · intro w_
            go_simp
            try with_reducible rfl
          rotate_left
          · simp only [Act.put, List.setIfInBounds_toArray, List.set_cons_zero, List.set_cons_succ]
            rfl
          refine take_ (i := 3) (N := some 67) (v := .pointer (some (a.add (i * 3)))) (a' := ?_) #[true, true, true, true, false, false, false, false, false, false, false, false, false] rfl rfl (by kernel_rfl) (fun _ _ _ h => h) (Or.inl ⟨by rfl, fun w' h => by go_simp⟩) hHeld ?_ ?_
          rotate_left
          · simp only [Act.put, List.setIfInBounds_toArray, List.set_cons_zero, List.set_cons_succ]
            rfl
          refine pure_ (i := 4) (N := some 68) (v := ?_) (a' := ?_) #[true, true, true, true, true, false, false, false, false, false, false, false, false] rfl rfl (by kernel_rfl) (fun _ _ _ h => h) (Or.inl ⟨by rfl, ?_⟩) ?_ ?_
          rotate_left
          · intro w_
            go_simp
            try with_reducible rfl
          rotate_left
          · simp only [Act.put, List.setIfInBounds_toArray, List.set_cons_zero, List.set_cons_succ]
            rfl
          refine take_ (i := 5) (N := some 69) (v := .string s) (a' := ?_) #[true, true, true, true, true, true, false, false, false, false, false, false, false] rfl rfl (by kernel_rfl) (fun _ _ _ h => h) (Or.inl ⟨by rfl, fun w' h => by have hc : w'.cell? ⟨(a.add (i * 3)).block, (a.add (i * 3)).off + 2, none⟩ = some (.string s) := (h.2.cell (World.block_lt_of_cell? _ _ D2.out)).trans D2.out; go_simp⟩) hHeld ?_ ?_
          rotate_left
          · simp only [Act.put, List.setIfInBounds_toArray, List.set_cons_zero, List.set_cons_succ]
            rfl
          refine join_ (σ := Nat) 2 #[true, true, true, true, true, true, true, true, true, true, true, false, false] (fun q => [(70, .tuple #[.agg (rcells R snap safe (rest ++ s)), .int .i64 0]), (63, .tuple #[.agg (rcells R snap safe (rest ++ s)), .int .i64 0]), (71, .agg (rcells R snap safe (rest ++ s))), (72, .int .i64 0), (12, .pointer (some ⟨q, 0, none⟩))]) (fun q w_ => NewHolds W3 q (.cells (rcells 0 ⟨#[]⟩ ⟨#[]⟩ ⟨#[]⟩) 74 (0, 0)) ([(p, .cells (rcells R snap safe rest) 74 (0, 0))]) w_) ?_ (fun hcont => ?_)
          rotate_left
          · skip
            refine two_ (i := 6) (j := 10) (Ni := some 70) (Nj := some 12) #[true, true, true, true, true, true, true, false, false, false, false, false, false] #[true, true, true, true, true, true, false, false, false, false, true, false, false] rfl rfl rfl rfl (by kernel_rfl) (by decide) (by decide) (fun K hK => ?_) (fun K hK => ?_)
            · skip
              refine goes_ Try.func41 (by kernel_rfl) rfl #[.agg (rcells R snap safe rest), .string s] (by rfl) rfl rfl (by (try simp only [List.map_toArray, List.map_cons, List.map_nil]); first | done | rfl) ?_
              (with_reducible refine (HRA.out _).mono ?_)
              rintro e wq1 ⟨rfl, hq1⟩
              refine ⟨_, rfl, ?_⟩
              refine hK.out _ _ (hHeld.call hq1) (fun hHeld => ?_)
              clear hK K
              refine norm_ (a' := ?_) ?_ ?_
              rotate_left
              · show Act.put _ (some 70) _ = _
                simp only [Act.put, List.setIfInBounds_toArray, List.set_cons_zero, List.set_cons_succ]
                rfl
              refine pure_ (i := 7) (N := some 63) (v := .tuple #[.agg (rcells R snap safe (rest ++ s)), .int .i64 0]) (a' := ?_) #[true, true, true, true, true, true, true, true, false, false, false, false, false] rfl rfl (by kernel_rfl) (fun _ _ _ h => h) (Or.inl ⟨by rfl, ?_⟩) ?_ ?_
              · intro w_
                first | (go_simp; done) | (go_simp; rfl)
              rotate_left
              · simp only [Act.put, List.setIfInBounds_toArray, List.set_cons_zero, List.set_cons_succ]
                rfl
              refine pure_ (i := 8) (N := some 71) (v := .agg (rcells R snap safe (rest ++ s))) (a' := ?_) #[true, true, true, true, true, true, true, true, true, false, false, false, false] rfl rfl (by kernel_rfl) (fun _ _ _ h => h) (Or.inl ⟨by rfl, ?_⟩) ?_ ?_
              · intro w_
                first | (go_simp; done) | (go_simp; rfl)
              rotate_left
              · simp only [Act.put, List.setIfInBounds_toArray, List.set_cons_zero, List.set_cons_succ]
                rfl
              refine pure_ (i := 9) (N := some 72) (v := .int .i64 0) (a' := ?_) #[true, true, true, true, true, true, true, true, true, true, false, false, false] rfl rfl (by kernel_rfl) (fun _ _ _ h => h) (Or.inl ⟨by rfl, ?_⟩) ?_ ?_
              · intro w_
                first | (go_simp; done) | (go_simp; rfl)
              rotate_left
              · simp only [Act.put, List.setIfInBounds_toArray, List.set_cons_zero, List.set_cons_succ]
                rfl
              refine one_ (i := 10) (N := some 12) #[true, true, true, true, true, true, true, true, true, true, true, false, false] rfl rfl (by kernel_rfl) (by decide) (fun K hK => ?_)
              refine value_ (by rfl) rfl (run_alloc_ref rfl _ _) ?_
              have HQ := hHeld.fresh (.cells (rcells 0 ⟨#[]⟩ ⟨#[]⟩ ⟨#[]⟩) 74 (0, 0))
              refine hK.out _ _ HQ.tail (fun hHeld => ?_)
              clear hK K
              refine norm_ (a' := ?_) ?_ ?_
              rotate_left
              · show Act.put _ (some 12) _ = _
                simp only [Act.put, List.setIfInBounds_toArray, List.set_cons_zero, List.set_cons_succ]
                rfl
              have fin := hcont _ _ HQ
              simp only [putAll, Act.put, List.setIfInBounds_toArray, List.set_cons_zero, List.set_cons_succ] at fin
              exact fin
            · skip
              refine value_ (by rfl) rfl (run_alloc_ref rfl _ _) ?_
              have HQ := hHeld.fresh (.cells (rcells 0 ⟨#[]⟩ ⟨#[]⟩ ⟨#[]⟩) 74 (0, 0))
              refine hK.out _ _ HQ.tail (fun hHeld => ?_)
              clear hK K
              refine norm_ (a' := ?_) ?_ ?_
              rotate_left
              · show Act.put _ (some 12) _ = _
                simp only [Act.put, List.setIfInBounds_toArray, List.set_cons_zero, List.set_cons_succ]
                rfl
              refine one_ (i := 6) (N := some 70) #[true, true, true, true, true, true, true, false, false, false, true, false, false] rfl rfl (by kernel_rfl) (by decide) (fun K hK => ?_)
              refine goes_ Try.func41 (by kernel_rfl) rfl #[.agg (rcells R snap safe rest), .string s] (by rfl) rfl rfl (by (try simp only [List.map_toArray, List.map_cons, List.map_nil]); first | done | rfl) ?_
              (with_reducible refine (HRA.out _).mono ?_)
              rintro e wq2 ⟨rfl, hq2⟩
              refine ⟨_, rfl, ?_⟩
              refine hK.out _ _ (hHeld.call hq2) (fun hHeld => ?_)
              clear hK K
              replace HQ := HQ.call hq2
              refine norm_ (a' := ?_) ?_ ?_
              rotate_left
              · show Act.put _ (some 70) _ = _
                simp only [Act.put, List.setIfInBounds_toArray, List.set_cons_zero, List.set_cons_succ]
                rfl
              refine pure_ (i := 7) (N := some 63) (v := .tuple #[.agg (rcells R snap safe (rest ++ s)), .int .i64 0]) (a' := ?_) #[true, true, true, true, true, true, true, true, false, false, true, false, false] rfl rfl (by kernel_rfl) (fun _ _ _ h => h) (Or.inl ⟨by rfl, ?_⟩) ?_ ?_
              · intro w_
                first | (go_simp; done) | (go_simp; rfl)
              rotate_left
              · simp only [Act.put, List.setIfInBounds_toArray, List.set_cons_zero, List.set_cons_succ]
                rfl
              refine pure_ (i := 8) (N := some 71) (v := .agg (rcells R snap safe (rest ++ s))) (a' := ?_) #[true, true, true, true, true, true, true, true, true, false, true, false, false] rfl rfl (by kernel_rfl) (fun _ _ _ h => h) (Or.inl ⟨by rfl, ?_⟩) ?_ ?_
              · intro w_
                first | (go_simp; done) | (go_simp; rfl)
              rotate_left
              · simp only [Act.put, List.setIfInBounds_toArray, List.set_cons_zero, List.set_cons_succ]
                rfl
              refine pure_ (i := 9) (N := some 72) (v := .int .i64 0) (a' := ?_) #[true, true, true, true, true, true, true, true, true, true, true, false, false] rfl rfl (by kernel_rfl) (fun _ _ _ h => h) (Or.inl ⟨by rfl, ?_⟩) ?_ ?_
              · intro w_
                first | (go_simp; done) | (go_simp; rfl)
              rotate_left
              · simp only [Act.put, List.setIfInBounds_toArray, List.set_cons_zero, List.set_cons_succ]
                rfl
              have fin := hcont _ _ HQ
              simp only [putAll, Act.put, List.setIfInBounds_toArray, List.set_cons_zero, List.set_cons_succ] at fin
              exact fin
          intro q wq HQ
          simp only [putAll, Act.put, List.setIfInBounds_toArray, List.set_cons_zero, List.set_cons_succ]
          refine last_ (i := 11) (N := none) #[true, true, true, true, true, true, true, true, true, true, true, true, false] rfl rfl (by kernel_rfl) (by decide) (fun K hK => ?_)
          refine skip_ (by rfl) rfl (run_store_rowD _ _ _ rfl q (rcells R snap safe (rest ++ s)) rfl rfl 74 (rcells 0 ⟨#[]⟩ ⟨#[]⟩ ⟨#[]⟩) (HQ.1.get 0 rfl) size_ref rfl (rcells_one _ _ _ _)) ?_
          refine hK.out _ _ ?_
          clear hK K
          refine pure_ (i := 12) (N := some 13) (v := ?_) (a' := ?_) #[true, true, true, true, true, true, true, true, true, true, true, true, true] rfl rfl (by kernel_rfl) (fun _ _ _ h => h) (Or.inl ⟨by rfl, ?_⟩) ?_ ?_
          rotate_left
          · intro w_
            go_simp
            try with_reducible rfl
          rotate_left
          · simp only [Act.put, List.setIfInBounds_toArray, List.set_cons_zero, List.set_cons_succ]
            rfl
          refine done_ (by kernel_rfl) ?_
          have H4 := Hd.mk (HQ.set (rcells R snap safe (rest ++ s)))
          clear HQ hHeld D2 HRA
          generalize wq.setRow q (rcells R snap safe (rest ++ s)) = W4 at *
          have HM4 := Hd.mk (HM3.out.step H4.out.2)
          have HME := Hd.mk (HM4.out.setx snap safe (rest ++ s))
          go_upto_region 16 with (first | ((with_reducible refine gate_dst (N := 73) rfl ?_); refine wpList_load_row rfl 74 _ rfl q rfl 74 (rcells R snap safe (rest ++ s)) (0, 0) _ (H4.out.get 0 rfl) Try.underlying74 rfl size_ref ?_) | ((with_reducible refine gate_store (t := 74) rfl ?_); refine wpList_store_row rfl _ _ _ rfl p (rcells R snap safe (rest ++ s)) rfl rfl 74 (rcells R snap safe rest) HM4.out.hx size_ref rfl (rcells_one _ _ _ _) ?_))
          clear H4 HM4 HM3
          generalize W4.setRow p (rcells R snap safe (rest ++ s)) = W5 at *
          have HA := Hd.mk (disk_same HME.out.hd (fine_ok (fine_append HF.out HS1.out hfit) HR.out.2) (by rw [ByteArray.size_append]; have := hXS.out; have : s.size ≤ 1048576 := HS1.out; omega))
          have HB2 := Hd.mk (fun (w' : World) (h : Below W5.heap.size W5 w') => disk_same (HME.out.step h).hc HOK.out (by have := hXS.out; omega))
          go_wp2_with (first | ((with_reducible refine gate_dst (N := 107) rfl ?_); refine wpList_load_row rfl 74 _ rfl p rfl 74 (rcells R snap safe (rest ++ s)) (0, 0) _ HME.out.hx Try.underlying74 rfl size_ref ?_))
          refine HA.out.mono ?_; rintro e W6 ⟨rfl, h6⟩
          have HME2 := Hd.mk (HME.out.step h6)
          have HB3 := Hd.mk (HB2.out _ h6)
          clear HA HB2 HME h6
          go_wp2_with (first | ((with_reducible refine gate_dst (N := 112) rfl ?_); refine gate_guard (by rfl) ?_; refine wpList_load_row rfl 74 _ rfl qo rfl 74 (rcells R snap safe rest) (0, 0) _ HME2.out.hq Try.underlying74 rfl size_ref ?_))
          refine HB3.out.mono ?_; rintro e W7 ⟨rfl, h7⟩
          have HME3 := Hd.mk (HME2.out.step h7)
          clear HB3 HME2 h7
          go_wp2_with fail
          go_roundg (199 - i)
          case measure => have := HK.out; omega
          case rel => exact ⟨i + 1, by omega, by omega, by first | rfl | congr 1, ⟨by have := HK.out; omega⟩, snap, safe, (rest ++ s), ⟨HME3.out.both⟩, ⟨fine_append HF.out HS1.out hfit⟩⟩
        · skip
          have HO := Hd.mk (dS_Append_off HD2.out s HR.out.2 (by rw [ByteArray.size_append]; have := HF.out.1; omega) (by rw [ByteArray.size_append]; omega) (by rw [ByteArray.size_append]; have := hXS.out; omega))
          go_wp2_with fail
          refine HO.out.mono ?_; rintro e W3 ⟨rfl, h3⟩
          have HM3 := Hd.mk (HM.out _ _ _ _ h3)
          have D2 := Hd.mk ((HM3.out.bel.cell (World.block_lt_of_cell? w _ HCE.out.2.2)).trans HCE.out.2.2)
          clear HO HD2 HM HM2 h3 d0 d1 d2
          have HRA := Hd.mk (ref_Append_off R snap safe rest HOK.out s (by omega))
          go_upto_region 14 with (fail)
          refine start_ (n := 13) (S := fun W_ => Holds W3 [(p, .cells (rcells R snap safe rest) 74 (0, 0))] W_) (ds := [11]) #[false, false, false, false, false, false, false, false, false, false, false, false, false] (by kernel_rfl) rfl rfl (⟨by intro x hx; obtain rfl := List.mem_singleton.1 hx; exact HM3.out.hx, (Below.refl _ _).drew⟩) (fun hHeld => ?_)
          refine take_ (i := 0) (N := some 64) (v := .agg (rcells R snap safe rest)) (a' := ?_) #[true, false, false, false, false, false, false, false, false, false, false, false, false] rfl rfl (by kernel_rfl) (fun _ _ _ h => h) (Or.inl ⟨by rfl, fun w' h => run_load_rowD 74 _ rfl p rfl 74 _ _ _ (h.get 0 rfl) Try.underlying74 rfl size_ref⟩) hHeld ?_ ?_
          rotate_left
          · simp only [Act.put, List.setIfInBounds_toArray, List.set_cons_zero, List.set_cons_succ]
            rfl
          refine pure_ (i := 1) (N := some 65) (v := ?_) (a' := ?_) #[true, true, false, false, false, false, false, false, false, false, false, false, false] rfl rfl (by kernel_rfl) (fun _ _ _ h => h) (Or.inl ⟨by rfl, ?_⟩) ?_ ?_
          rotate_left
          · intro w_
            go_simp
            try with_reducible rfl
          rotate_left
          · simp only [Act.put, List.setIfInBounds_toArray, List.set_cons_zero, List.set_cons_succ]
            rfl
          refine pure_ (i := 2) (N := some 66) (v := ?_) (a' := ?_) #[true, true, true, false, false, false, false, false, false, false, false, false, false] rfl rfl (by kernel_rfl) (fun _ _ _ h => h) (Or.inl ⟨by rfl, ?_⟩) ?_ ?_
          rotate_left
          · intro w_
            go_simp
            try with_reducible rfl
          rotate_left
          · simp only [Act.put, List.setIfInBounds_toArray, List.set_cons_zero, List.set_cons_succ]
            rfl
          refine take_ (i := 3) (N := some 67) (v := .pointer (some (a.add (i * 3)))) (a' := ?_) #[true, true, true, true, false, false, false, false, false, false, false, false, false] rfl rfl (by kernel_rfl) (fun _ _ _ h => h) (Or.inl ⟨by rfl, fun w' h => by go_simp⟩) hHeld ?_ ?_
          rotate_left
          · simp only [Act.put, List.setIfInBounds_toArray, List.set_cons_zero, List.set_cons_succ]
            rfl
          refine pure_ (i := 4) (N := some 68) (v := ?_) (a' := ?_) #[true, true, true, true, true, false, false, false, false, false, false, false, false] rfl rfl (by kernel_rfl) (fun _ _ _ h => h) (Or.inl ⟨by rfl, ?_⟩) ?_ ?_
          rotate_left
          · intro w_
            go_simp
            try with_reducible rfl
          rotate_left
          · simp only [Act.put, List.setIfInBounds_toArray, List.set_cons_zero, List.set_cons_succ]
            rfl
          refine take_ (i := 5) (N := some 69) (v := .string s) (a' := ?_) #[true, true, true, true, true, true, false, false, false, false, false, false, false] rfl rfl (by kernel_rfl) (fun _ _ _ h => h) (Or.inl ⟨by rfl, fun w' h => by have hc : w'.cell? ⟨(a.add (i * 3)).block, (a.add (i * 3)).off + 2, none⟩ = some (.string s) := (h.2.cell (World.block_lt_of_cell? _ _ D2.out)).trans D2.out; go_simp⟩) hHeld ?_ ?_
          rotate_left
          · simp only [Act.put, List.setIfInBounds_toArray, List.set_cons_zero, List.set_cons_succ]
            rfl
          refine join_ (σ := Nat) 2 #[true, true, true, true, true, true, true, true, true, true, true, false, false] (fun q => [(70, .tuple #[.agg (rcells R snap safe rest), .int .i64 13]), (63, .tuple #[.agg (rcells R snap safe rest), .int .i64 13]), (71, .agg (rcells R snap safe rest)), (72, .int .i64 13), (12, .pointer (some ⟨q, 0, none⟩))]) (fun q w_ => NewHolds W3 q (.cells (rcells 0 ⟨#[]⟩ ⟨#[]⟩ ⟨#[]⟩) 74 (0, 0)) ([(p, .cells (rcells R snap safe rest) 74 (0, 0))]) w_) ?_ (fun hcont => ?_)
          rotate_left
          · skip
            refine two_ (i := 6) (j := 10) (Ni := some 70) (Nj := some 12) #[true, true, true, true, true, true, true, false, false, false, false, false, false] #[true, true, true, true, true, true, false, false, false, false, true, false, false] rfl rfl rfl rfl (by kernel_rfl) (by decide) (by decide) (fun K hK => ?_) (fun K hK => ?_)
            · skip
              refine goes_ Try.func41 (by kernel_rfl) rfl #[.agg (rcells R snap safe rest), .string s] (by rfl) rfl rfl (by (try simp only [List.map_toArray, List.map_cons, List.map_nil]); first | done | rfl) ?_
              (with_reducible refine (HRA.out _).mono ?_)
              rintro e wq1 ⟨rfl, hq1⟩
              refine ⟨_, rfl, ?_⟩
              refine hK.out _ _ (hHeld.call hq1) (fun hHeld => ?_)
              clear hK K
              refine norm_ (a' := ?_) ?_ ?_
              rotate_left
              · show Act.put _ (some 70) _ = _
                simp only [Act.put, List.setIfInBounds_toArray, List.set_cons_zero, List.set_cons_succ]
                rfl
              refine pure_ (i := 7) (N := some 63) (v := .tuple #[.agg (rcells R snap safe rest), .int .i64 13]) (a' := ?_) #[true, true, true, true, true, true, true, true, false, false, false, false, false] rfl rfl (by kernel_rfl) (fun _ _ _ h => h) (Or.inl ⟨by rfl, ?_⟩) ?_ ?_
              · intro w_
                first | (go_simp; done) | (go_simp; rfl)
              rotate_left
              · simp only [Act.put, List.setIfInBounds_toArray, List.set_cons_zero, List.set_cons_succ]
                rfl
              refine pure_ (i := 8) (N := some 71) (v := .agg (rcells R snap safe rest)) (a' := ?_) #[true, true, true, true, true, true, true, true, true, false, false, false, false] rfl rfl (by kernel_rfl) (fun _ _ _ h => h) (Or.inl ⟨by rfl, ?_⟩) ?_ ?_
              · intro w_
                first | (go_simp; done) | (go_simp; rfl)
              rotate_left
              · simp only [Act.put, List.setIfInBounds_toArray, List.set_cons_zero, List.set_cons_succ]
                rfl
              refine pure_ (i := 9) (N := some 72) (v := .int .i64 13) (a' := ?_) #[true, true, true, true, true, true, true, true, true, true, false, false, false] rfl rfl (by kernel_rfl) (fun _ _ _ h => h) (Or.inl ⟨by rfl, ?_⟩) ?_ ?_
              · intro w_
                first | (go_simp; done) | (go_simp; rfl)
              rotate_left
              · simp only [Act.put, List.setIfInBounds_toArray, List.set_cons_zero, List.set_cons_succ]
                rfl
              refine one_ (i := 10) (N := some 12) #[true, true, true, true, true, true, true, true, true, true, true, false, false] rfl rfl (by kernel_rfl) (by decide) (fun K hK => ?_)
              refine value_ (by rfl) rfl (run_alloc_ref rfl _ _) ?_
              have HQ := hHeld.fresh (.cells (rcells 0 ⟨#[]⟩ ⟨#[]⟩ ⟨#[]⟩) 74 (0, 0))
              refine hK.out _ _ HQ.tail (fun hHeld => ?_)
              clear hK K
              refine norm_ (a' := ?_) ?_ ?_
              rotate_left
              · show Act.put _ (some 12) _ = _
                simp only [Act.put, List.setIfInBounds_toArray, List.set_cons_zero, List.set_cons_succ]
                rfl
              have fin := hcont _ _ HQ
              simp only [putAll, Act.put, List.setIfInBounds_toArray, List.set_cons_zero, List.set_cons_succ] at fin
              exact fin
            · skip
              refine value_ (by rfl) rfl (run_alloc_ref rfl _ _) ?_
              have HQ := hHeld.fresh (.cells (rcells 0 ⟨#[]⟩ ⟨#[]⟩ ⟨#[]⟩) 74 (0, 0))
              refine hK.out _ _ HQ.tail (fun hHeld => ?_)
              clear hK K
              refine norm_ (a' := ?_) ?_ ?_
              rotate_left
              · show Act.put _ (some 12) _ = _
                simp only [Act.put, List.setIfInBounds_toArray, List.set_cons_zero, List.set_cons_succ]
                rfl
              refine one_ (i := 6) (N := some 70) #[true, true, true, true, true, true, true, false, false, false, true, false, false] rfl rfl (by kernel_rfl) (by decide) (fun K hK => ?_)
              refine goes_ Try.func41 (by kernel_rfl) rfl #[.agg (rcells R snap safe rest), .string s] (by rfl) rfl rfl (by (try simp only [List.map_toArray, List.map_cons, List.map_nil]); first | done | rfl) ?_
              (with_reducible refine (HRA.out _).mono ?_)
              rintro e wq2 ⟨rfl, hq2⟩
              refine ⟨_, rfl, ?_⟩
              refine hK.out _ _ (hHeld.call hq2) (fun hHeld => ?_)
              clear hK K
              replace HQ := HQ.call hq2
              refine norm_ (a' := ?_) ?_ ?_
              rotate_left
              · show Act.put _ (some 70) _ = _
                simp only [Act.put, List.setIfInBounds_toArray, List.set_cons_zero, List.set_cons_succ]
                rfl
              refine pure_ (i := 7) (N := some 63) (v := .tuple #[.agg (rcells R snap safe rest), .int .i64 13]) (a' := ?_) #[true, true, true, true, true, true, true, true, false, false, true, false, false] rfl rfl (by kernel_rfl) (fun _ _ _ h => h) (Or.inl ⟨by rfl, ?_⟩) ?_ ?_
              · intro w_
                first | (go_simp; done) | (go_simp; rfl)
              rotate_left
              · simp only [Act.put, List.setIfInBounds_toArray, List.set_cons_zero, List.set_cons_succ]
                rfl
              refine pure_ (i := 8) (N := some 71) (v := .agg (rcells R snap safe rest)) (a' := ?_) #[true, true, true, true, true, true, true, true, true, false, true, false, false] rfl rfl (by kernel_rfl) (fun _ _ _ h => h) (Or.inl ⟨by rfl, ?_⟩) ?_ ?_
              · intro w_
                first | (go_simp; done) | (go_simp; rfl)
              rotate_left
              · simp only [Act.put, List.setIfInBounds_toArray, List.set_cons_zero, List.set_cons_succ]
                rfl
              refine pure_ (i := 9) (N := some 72) (v := .int .i64 13) (a' := ?_) #[true, true, true, true, true, true, true, true, true, true, true, false, false] rfl rfl (by kernel_rfl) (fun _ _ _ h => h) (Or.inl ⟨by rfl, ?_⟩) ?_ ?_
              · intro w_
                first | (go_simp; done) | (go_simp; rfl)
              rotate_left
              · simp only [Act.put, List.setIfInBounds_toArray, List.set_cons_zero, List.set_cons_succ]
                rfl
              have fin := hcont _ _ HQ
              simp only [putAll, Act.put, List.setIfInBounds_toArray, List.set_cons_zero, List.set_cons_succ] at fin
              exact fin
          intro q wq HQ
          simp only [putAll, Act.put, List.setIfInBounds_toArray, List.set_cons_zero, List.set_cons_succ]
          refine last_ (i := 11) (N := none) #[true, true, true, true, true, true, true, true, true, true, true, true, false] rfl rfl (by kernel_rfl) (by decide) (fun K hK => ?_)
          refine skip_ (by rfl) rfl (run_store_rowD _ _ _ rfl q (rcells R snap safe rest) rfl rfl 74 (rcells 0 ⟨#[]⟩ ⟨#[]⟩ ⟨#[]⟩) (HQ.1.get 0 rfl) size_ref rfl (rcells_one _ _ _ _)) ?_
          refine hK.out _ _ ?_
          clear hK K
          refine pure_ (i := 12) (N := some 13) (v := ?_) (a' := ?_) #[true, true, true, true, true, true, true, true, true, true, true, true, true] rfl rfl (by kernel_rfl) (fun _ _ _ h => h) (Or.inl ⟨by rfl, ?_⟩) ?_ ?_
          rotate_left
          · intro w_
            go_simp
            try with_reducible rfl
          rotate_left
          · simp only [Act.put, List.setIfInBounds_toArray, List.set_cons_zero, List.set_cons_succ]
            rfl
          refine done_ (by kernel_rfl) ?_
          have H4 := Hd.mk (HQ.set (rcells R snap safe rest))
          clear HQ hHeld D2 HRA
          generalize wq.setRow q (rcells R snap safe rest) = W4 at *
          have HM4 := Hd.mk (HM3.out.step H4.out.2)
          have HME := Hd.mk (HM4.out.setx snap safe rest)
          go_upto_region 16 with (first | ((with_reducible refine gate_dst (N := 73) rfl ?_); refine wpList_load_row rfl 74 _ rfl q rfl 74 (rcells R snap safe rest) (0, 0) _ (H4.out.get 0 rfl) Try.underlying74 rfl size_ref ?_) | ((with_reducible refine gate_store (t := 74) rfl ?_); refine wpList_store_row rfl _ _ _ rfl p (rcells R snap safe rest) rfl rfl 74 (rcells R snap safe rest) HM4.out.hx size_ref rfl (rcells_one _ _ _ _) ?_))
          clear H4 HM4 HM3
          generalize W4.setRow p (rcells R snap safe rest) = W5 at *
          have HA := Hd.mk (disk_same HME.out.hd HOK.out (by have := hXS.out; omega))
          have HB2 := Hd.mk (fun (w' : World) (h : Below W5.heap.size W5 w') => disk_same (HME.out.step h).hc HOK.out (by have := hXS.out; omega))
          go_wp2_with (first | ((with_reducible refine gate_dst (N := 107) rfl ?_); refine wpList_load_row rfl 74 _ rfl p rfl 74 (rcells R snap safe rest) (0, 0) _ HME.out.hx Try.underlying74 rfl size_ref ?_))
          refine HA.out.mono ?_; rintro e W6 ⟨rfl, h6⟩
          have HME2 := Hd.mk (HME.out.step h6)
          have HB3 := Hd.mk (HB2.out _ h6)
          clear HA HB2 HME h6
          go_wp2_with (first | ((with_reducible refine gate_dst (N := 112) rfl ?_); refine gate_guard (by rfl) ?_; refine wpList_load_row rfl 74 _ rfl qo rfl 74 (rcells R snap safe rest) (0, 0) _ HME2.out.hq Try.underlying74 rfl size_ref ?_))
          refine HB3.out.mono ?_; rintro e W7 ⟨rfl, h7⟩
          have HME3 := Hd.mk (HME2.out.step h7)
          clear HB3 HME2 h7
          go_wp2_with fail
          go_roundg (199 - i)
          case measure => have := HK.out; omega
          case rel => exact ⟨i + 1, by omega, by omega, by first | rfl | congr 1, ⟨by have := HK.out; omega⟩, snap, safe, rest, ⟨HME3.out.both⟩, ⟨fine_next HF.out⟩⟩
      · by_cases k1 : kind = 1
        · subst k1
          have HO := Hd.mk (dS_Sync HD2.out)
          go_wp2_with fail
          refine HO.out.mono ?_; rintro e W3 ⟨rfl, h3⟩
          have h3 : DiskS T W2 b snap ((safe ++ rest) ++ ⟨#[]⟩) ((safe ++ rest).size : Nat) R W3 := by rw [append_none]; exact h3
          have HM3 := Hd.mk (HM.out _ _ _ _ h3)
          have HRA := Hd.mk (ref_Sync R snap safe rest (by have := hXS.out; omega))
          clear HO HD2 HM HM2 h3 d0 d1 d2
          go_wp2_with (first | ((with_reducible refine gate_dst (N := 81) rfl ?_); refine wpList_load_row rfl 74 _ rfl p rfl 74 (rcells R snap safe rest) (0, 0) _ HM3.out.hx Try.underlying74 rfl size_ref ?_))
          refine (HRA.out _).mono ?_; rintro e W4 ⟨rfl, h4⟩
          have HM4 := Hd.mk (HM3.out.step h4)
          have HME := Hd.mk (HM4.out.setx snap (safe ++ rest) ⟨#[]⟩)
          go_upto_region 27 with (first | ((with_reducible refine gate_store (t := 74) rfl ?_); refine wpList_store_row rfl _ _ _ rfl p (rcells R snap (safe ++ rest) ⟨#[]⟩) rfl rfl 74 (rcells R snap safe rest) HM4.out.hx size_ref rfl (rcells_one _ _ _ _) ?_))
          clear HM4 HM3 h4 HRA
          generalize W4.setRow p (rcells R snap (safe ++ rest) ⟨#[]⟩) = W5 at *
          have HA := Hd.mk (disk_same HME.out.hd (fine_ok (fine_sync HF.out) HR.out.2) (by rw [ByteArray.size_append]; have := hXS.out; show _ + 0 ≤ _; omega))
          have HB2 := Hd.mk (fun (w' : World) (h : Below W5.heap.size W5 w') => disk_same (HME.out.step h).hc HOK.out (by have := hXS.out; omega))
          go_wp2_with (first | ((with_reducible refine gate_dst (N := 107) rfl ?_); refine wpList_load_row rfl 74 _ rfl p rfl 74 (rcells R snap (safe ++ rest) ⟨#[]⟩) (0, 0) _ HME.out.hx Try.underlying74 rfl size_ref ?_))
          refine HA.out.mono ?_; rintro e W6 ⟨rfl, h6⟩
          have HME2 := Hd.mk (HME.out.step h6)
          have HB3 := Hd.mk (HB2.out _ h6)
          clear HA HB2 HME h6
          go_wp2_with (first | ((with_reducible refine gate_dst (N := 112) rfl ?_); refine gate_guard (by rfl) ?_; refine wpList_load_row rfl 74 _ rfl qo rfl 74 (rcells R snap safe rest) (0, 0) _ HME2.out.hq Try.underlying74 rfl size_ref ?_))
          refine HB3.out.mono ?_; rintro e W7 ⟨rfl, h7⟩
          have HME3 := Hd.mk (HME2.out.step h7)
          clear HB3 HME2 h7
          go_wp2_with fail
          go_roundg (199 - i)
          case measure => have := HK.out; omega
          case rel => exact ⟨i + 1, by omega, by omega, by first | rfl | congr 1, ⟨by have := HK.out; omega⟩, snap, (safe ++ rest), ⟨#[]⟩, ⟨HME3.out.both⟩, ⟨fine_sync HF.out⟩⟩
        · by_cases k2 : kind = 2
          · subst k2
            by_cases hfit : (s.size : Int) ≤ R
            · skip
              have HO := Hd.mk (dS_Switch HD2.out s hfit)
              go_wp2_with fail
              refine HO.out.mono ?_; rintro e W3 ⟨rfl, h3⟩
              have h3 : DiskS T W2 b s (⟨#[]⟩ ++ ⟨#[]⟩) ((⟨#[]⟩ : ByteArray).size : Nat) R W3 := by rw [append_none]; exact h3
              have HM3 := Hd.mk (HM.out _ _ _ _ h3)
              have D2 := Hd.mk ((HM3.out.bel.cell (World.block_lt_of_cell? w _ HCE.out.2.2)).trans HCE.out.2.2)
              clear HO HD2 HM HM2 h3 d0 d1 d2
              have HRA := Hd.mk (ref_Switch R snap safe rest s hfit)
              go_upto_region 23 with (fail)
              refine start_ (n := 13) (S := fun W_ => Holds W3 [(p, .cells (rcells R snap safe rest) 74 (0, 0))] W_) (ds := [11]) #[false, false, false, false, false, false, false, false, false, false, false, false, false] (by kernel_rfl) rfl rfl (⟨by intro x hx; obtain rfl := List.mem_singleton.1 hx; exact HM3.out.hx, (Below.refl _ _).drew⟩) (fun hHeld => ?_)
              refine take_ (i := 0) (N := some 93) (v := .agg (rcells R snap safe rest)) (a' := ?_) #[true, false, false, false, false, false, false, false, false, false, false, false, false] rfl rfl (by kernel_rfl) (fun _ _ _ h => h) (Or.inl ⟨by rfl, fun w' h => run_load_rowD 74 _ rfl p rfl 74 _ _ _ (h.get 0 rfl) Try.underlying74 rfl size_ref⟩) hHeld ?_ ?_
              rotate_left
              · simp only [Act.put, List.setIfInBounds_toArray, List.set_cons_zero, List.set_cons_succ]
                rfl
              refine pure_ (i := 1) (N := some 94) (v := ?_) (a' := ?_) #[true, true, false, false, false, false, false, false, false, false, false, false, false] rfl rfl (by kernel_rfl) (fun _ _ _ h => h) (Or.inl ⟨by rfl, ?_⟩) ?_ ?_
              rotate_left
              · intro w_
                go_simp
                try with_reducible rfl
              rotate_left
              · simp only [Act.put, List.setIfInBounds_toArray, List.set_cons_zero, List.set_cons_succ]
                rfl
              refine pure_ (i := 2) (N := some 95) (v := ?_) (a' := ?_) #[true, true, true, false, false, false, false, false, false, false, false, false, false] rfl rfl (by kernel_rfl) (fun _ _ _ h => h) (Or.inl ⟨by rfl, ?_⟩) ?_ ?_
              rotate_left
              · intro w_
                go_simp
                try with_reducible rfl
              rotate_left
              · simp only [Act.put, List.setIfInBounds_toArray, List.set_cons_zero, List.set_cons_succ]
                rfl
              refine take_ (i := 3) (N := some 96) (v := .pointer (some (a.add (i * 3)))) (a' := ?_) #[true, true, true, true, false, false, false, false, false, false, false, false, false] rfl rfl (by kernel_rfl) (fun _ _ _ h => h) (Or.inl ⟨by rfl, fun w' h => by go_simp⟩) hHeld ?_ ?_
              rotate_left
              · simp only [Act.put, List.setIfInBounds_toArray, List.set_cons_zero, List.set_cons_succ]
                rfl
              refine pure_ (i := 4) (N := some 97) (v := ?_) (a' := ?_) #[true, true, true, true, true, false, false, false, false, false, false, false, false] rfl rfl (by kernel_rfl) (fun _ _ _ h => h) (Or.inl ⟨by rfl, ?_⟩) ?_ ?_
              rotate_left
              · intro w_
                go_simp
                try with_reducible rfl
              rotate_left
              · simp only [Act.put, List.setIfInBounds_toArray, List.set_cons_zero, List.set_cons_succ]
                rfl
              refine take_ (i := 5) (N := some 98) (v := .string s) (a' := ?_) #[true, true, true, true, true, true, false, false, false, false, false, false, false] rfl rfl (by kernel_rfl) (fun _ _ _ h => h) (Or.inl ⟨by rfl, fun w' h => by have hc : w'.cell? ⟨(a.add (i * 3)).block, (a.add (i * 3)).off + 2, none⟩ = some (.string s) := (h.2.cell (World.block_lt_of_cell? _ _ D2.out)).trans D2.out; go_simp⟩) hHeld ?_ ?_
              rotate_left
              · simp only [Act.put, List.setIfInBounds_toArray, List.set_cons_zero, List.set_cons_succ]
                rfl
              refine join_ (σ := Nat) 2 #[true, true, true, true, true, true, true, true, true, true, true, false, false] (fun q => [(99, .tuple #[.agg (rcells R s ⟨#[]⟩ ⟨#[]⟩), .int .i64 0]), (92, .tuple #[.agg (rcells R s ⟨#[]⟩ ⟨#[]⟩), .int .i64 0]), (100, .agg (rcells R s ⟨#[]⟩ ⟨#[]⟩)), (101, .int .i64 0), (15, .pointer (some ⟨q, 0, none⟩))]) (fun q w_ => NewHolds W3 q (.cells (rcells 0 ⟨#[]⟩ ⟨#[]⟩ ⟨#[]⟩) 74 (0, 0)) ([(p, .cells (rcells R snap safe rest) 74 (0, 0))]) w_) ?_ (fun hcont => ?_)
              rotate_left
              · skip
                refine two_ (i := 6) (j := 10) (Ni := some 99) (Nj := some 15) #[true, true, true, true, true, true, true, false, false, false, false, false, false] #[true, true, true, true, true, true, false, false, false, false, true, false, false] rfl rfl rfl rfl (by kernel_rfl) (by decide) (by decide) (fun K hK => ?_) (fun K hK => ?_)
                · skip
                  refine goes_ Try.func43 (by kernel_rfl) rfl #[.agg (rcells R snap safe rest), .string s] (by rfl) rfl rfl (by (try simp only [List.map_toArray, List.map_cons, List.map_nil]); first | done | rfl) ?_
                  (with_reducible refine (HRA.out _).mono ?_)
                  rintro e wq1 ⟨rfl, hq1⟩
                  refine ⟨_, rfl, ?_⟩
                  refine hK.out _ _ (hHeld.call hq1) (fun hHeld => ?_)
                  clear hK K
                  refine norm_ (a' := ?_) ?_ ?_
                  rotate_left
                  · show Act.put _ (some 99) _ = _
                    simp only [Act.put, List.setIfInBounds_toArray, List.set_cons_zero, List.set_cons_succ]
                    rfl
                  refine pure_ (i := 7) (N := some 92) (v := .tuple #[.agg (rcells R s ⟨#[]⟩ ⟨#[]⟩), .int .i64 0]) (a' := ?_) #[true, true, true, true, true, true, true, true, false, false, false, false, false] rfl rfl (by kernel_rfl) (fun _ _ _ h => h) (Or.inl ⟨by rfl, ?_⟩) ?_ ?_
                  · intro w_
                    first | (go_simp; done) | (go_simp; rfl)
                  rotate_left
                  · simp only [Act.put, List.setIfInBounds_toArray, List.set_cons_zero, List.set_cons_succ]
                    rfl
                  refine pure_ (i := 8) (N := some 100) (v := .agg (rcells R s ⟨#[]⟩ ⟨#[]⟩)) (a' := ?_) #[true, true, true, true, true, true, true, true, true, false, false, false, false] rfl rfl (by kernel_rfl) (fun _ _ _ h => h) (Or.inl ⟨by rfl, ?_⟩) ?_ ?_
                  · intro w_
                    first | (go_simp; done) | (go_simp; rfl)
                  rotate_left
                  · simp only [Act.put, List.setIfInBounds_toArray, List.set_cons_zero, List.set_cons_succ]
                    rfl
                  refine pure_ (i := 9) (N := some 101) (v := .int .i64 0) (a' := ?_) #[true, true, true, true, true, true, true, true, true, true, false, false, false] rfl rfl (by kernel_rfl) (fun _ _ _ h => h) (Or.inl ⟨by rfl, ?_⟩) ?_ ?_
                  · intro w_
                    first | (go_simp; done) | (go_simp; rfl)
                  rotate_left
                  · simp only [Act.put, List.setIfInBounds_toArray, List.set_cons_zero, List.set_cons_succ]
                    rfl
                  refine one_ (i := 10) (N := some 15) #[true, true, true, true, true, true, true, true, true, true, true, false, false] rfl rfl (by kernel_rfl) (by decide) (fun K hK => ?_)
                  refine value_ (by rfl) rfl (run_alloc_ref rfl _ _) ?_
                  have HQ := hHeld.fresh (.cells (rcells 0 ⟨#[]⟩ ⟨#[]⟩ ⟨#[]⟩) 74 (0, 0))
                  refine hK.out _ _ HQ.tail (fun hHeld => ?_)
                  clear hK K
                  refine norm_ (a' := ?_) ?_ ?_
                  rotate_left
                  · show Act.put _ (some 15) _ = _
                    simp only [Act.put, List.setIfInBounds_toArray, List.set_cons_zero, List.set_cons_succ]
                    rfl
                  have fin := hcont _ _ HQ
                  simp only [putAll, Act.put, List.setIfInBounds_toArray, List.set_cons_zero, List.set_cons_succ] at fin
                  exact fin
                · skip
                  refine value_ (by rfl) rfl (run_alloc_ref rfl _ _) ?_
                  have HQ := hHeld.fresh (.cells (rcells 0 ⟨#[]⟩ ⟨#[]⟩ ⟨#[]⟩) 74 (0, 0))
                  refine hK.out _ _ HQ.tail (fun hHeld => ?_)
                  clear hK K
                  refine norm_ (a' := ?_) ?_ ?_
                  rotate_left
                  · show Act.put _ (some 15) _ = _
                    simp only [Act.put, List.setIfInBounds_toArray, List.set_cons_zero, List.set_cons_succ]
                    rfl
                  refine one_ (i := 6) (N := some 99) #[true, true, true, true, true, true, true, false, false, false, true, false, false] rfl rfl (by kernel_rfl) (by decide) (fun K hK => ?_)
                  refine goes_ Try.func43 (by kernel_rfl) rfl #[.agg (rcells R snap safe rest), .string s] (by rfl) rfl rfl (by (try simp only [List.map_toArray, List.map_cons, List.map_nil]); first | done | rfl) ?_
                  (with_reducible refine (HRA.out _).mono ?_)
                  rintro e wq2 ⟨rfl, hq2⟩
                  refine ⟨_, rfl, ?_⟩
                  refine hK.out _ _ (hHeld.call hq2) (fun hHeld => ?_)
                  clear hK K
                  replace HQ := HQ.call hq2
                  refine norm_ (a' := ?_) ?_ ?_
                  rotate_left
                  · show Act.put _ (some 99) _ = _
                    simp only [Act.put, List.setIfInBounds_toArray, List.set_cons_zero, List.set_cons_succ]
                    rfl
                  refine pure_ (i := 7) (N := some 92) (v := .tuple #[.agg (rcells R s ⟨#[]⟩ ⟨#[]⟩), .int .i64 0]) (a' := ?_) #[true, true, true, true, true, true, true, true, false, false, true, false, false] rfl rfl (by kernel_rfl) (fun _ _ _ h => h) (Or.inl ⟨by rfl, ?_⟩) ?_ ?_
                  · intro w_
                    first | (go_simp; done) | (go_simp; rfl)
                  rotate_left
                  · simp only [Act.put, List.setIfInBounds_toArray, List.set_cons_zero, List.set_cons_succ]
                    rfl
                  refine pure_ (i := 8) (N := some 100) (v := .agg (rcells R s ⟨#[]⟩ ⟨#[]⟩)) (a' := ?_) #[true, true, true, true, true, true, true, true, true, false, true, false, false] rfl rfl (by kernel_rfl) (fun _ _ _ h => h) (Or.inl ⟨by rfl, ?_⟩) ?_ ?_
                  · intro w_
                    first | (go_simp; done) | (go_simp; rfl)
                  rotate_left
                  · simp only [Act.put, List.setIfInBounds_toArray, List.set_cons_zero, List.set_cons_succ]
                    rfl
                  refine pure_ (i := 9) (N := some 101) (v := .int .i64 0) (a' := ?_) #[true, true, true, true, true, true, true, true, true, true, true, false, false] rfl rfl (by kernel_rfl) (fun _ _ _ h => h) (Or.inl ⟨by rfl, ?_⟩) ?_ ?_
                  · intro w_
                    first | (go_simp; done) | (go_simp; rfl)
                  rotate_left
                  · simp only [Act.put, List.setIfInBounds_toArray, List.set_cons_zero, List.set_cons_succ]
                    rfl
                  have fin := hcont _ _ HQ
                  simp only [putAll, Act.put, List.setIfInBounds_toArray, List.set_cons_zero, List.set_cons_succ] at fin
                  exact fin
              intro q wq HQ
              simp only [putAll, Act.put, List.setIfInBounds_toArray, List.set_cons_zero, List.set_cons_succ]
              refine last_ (i := 11) (N := none) #[true, true, true, true, true, true, true, true, true, true, true, true, false] rfl rfl (by kernel_rfl) (by decide) (fun K hK => ?_)
              refine skip_ (by rfl) rfl (run_store_rowD _ _ _ rfl q (rcells R s ⟨#[]⟩ ⟨#[]⟩) rfl rfl 74 (rcells 0 ⟨#[]⟩ ⟨#[]⟩ ⟨#[]⟩) (HQ.1.get 0 rfl) size_ref rfl (rcells_one _ _ _ _)) ?_
              refine hK.out _ _ ?_
              clear hK K
              refine pure_ (i := 12) (N := some 16) (v := ?_) (a' := ?_) #[true, true, true, true, true, true, true, true, true, true, true, true, true] rfl rfl (by kernel_rfl) (fun _ _ _ h => h) (Or.inl ⟨by rfl, ?_⟩) ?_ ?_
              rotate_left
              · intro w_
                go_simp
                try with_reducible rfl
              rotate_left
              · simp only [Act.put, List.setIfInBounds_toArray, List.set_cons_zero, List.set_cons_succ]
                rfl
              refine done_ (by kernel_rfl) ?_
              have H4 := Hd.mk (HQ.set (rcells R s ⟨#[]⟩ ⟨#[]⟩))
              clear HQ hHeld D2 HRA
              generalize wq.setRow q (rcells R s ⟨#[]⟩ ⟨#[]⟩) = W4 at *
              have HM4 := Hd.mk (HM3.out.step H4.out.2)
              have HME := Hd.mk (HM4.out.setx s ⟨#[]⟩ ⟨#[]⟩)
              go_upto_region 25 with (first | ((with_reducible refine gate_dst (N := 102) rfl ?_); refine wpList_load_row rfl 74 _ rfl q rfl 74 (rcells R s ⟨#[]⟩ ⟨#[]⟩) (0, 0) _ (H4.out.get 0 rfl) Try.underlying74 rfl size_ref ?_) | ((with_reducible refine gate_store (t := 74) rfl ?_); refine wpList_store_row rfl _ _ _ rfl p (rcells R s ⟨#[]⟩ ⟨#[]⟩) rfl rfl 74 (rcells R snap safe rest) HM4.out.hx size_ref rfl (rcells_one _ _ _ _) ?_))
              clear H4 HM4 HM3
              generalize W4.setRow p (rcells R s ⟨#[]⟩ ⟨#[]⟩) = W5 at *
              have HA := Hd.mk (disk_same HME.out.hd (fine_ok (fine_switch (i := i) hfit) HR.out.2) (by show 0 + 0 ≤ _; omega))
              have HB2 := Hd.mk (fun (w' : World) (h : Below W5.heap.size W5 w') => disk_same (HME.out.step h).hc HOK.out (by have := hXS.out; omega))
              go_wp2_with (first | ((with_reducible refine gate_dst (N := 107) rfl ?_); refine wpList_load_row rfl 74 _ rfl p rfl 74 (rcells R s ⟨#[]⟩ ⟨#[]⟩) (0, 0) _ HME.out.hx Try.underlying74 rfl size_ref ?_))
              refine HA.out.mono ?_; rintro e W6 ⟨rfl, h6⟩
              have HME2 := Hd.mk (HME.out.step h6)
              have HB3 := Hd.mk (HB2.out _ h6)
              clear HA HB2 HME h6
              go_wp2_with (first | ((with_reducible refine gate_dst (N := 112) rfl ?_); refine gate_guard (by rfl) ?_; refine wpList_load_row rfl 74 _ rfl qo rfl 74 (rcells R snap safe rest) (0, 0) _ HME2.out.hq Try.underlying74 rfl size_ref ?_))
              refine HB3.out.mono ?_; rintro e W7 ⟨rfl, h7⟩
              have HME3 := Hd.mk (HME2.out.step h7)
              clear HB3 HME2 h7
              go_wp2_with fail
              go_roundg (199 - i)
              case measure => have := HK.out; omega
              case rel => exact ⟨i + 1, by omega, by omega, by first | rfl | congr 1, ⟨by have := HK.out; omega⟩, s, ⟨#[]⟩, ⟨#[]⟩, ⟨HME3.out.both⟩, ⟨fine_switch hfit⟩⟩
            · skip
              have HO := Hd.mk (disk_Switch_off HD2.out s (by omega))
              go_wp2_with fail
              refine HO.out.mono ?_; rintro e W3 ⟨rfl, h3⟩
              have HM3 := Hd.mk (HM.out _ _ _ _ h3)
              have D2 := Hd.mk ((HM3.out.bel.cell (World.block_lt_of_cell? w _ HCE.out.2.2)).trans HCE.out.2.2)
              clear HO HD2 HM HM2 h3 d0 d1 d2
              have HRA := Hd.mk (ref_Switch_off R snap safe rest s (by omega))
              go_upto_region 23 with (fail)
              refine start_ (n := 13) (S := fun W_ => Holds W3 [(p, .cells (rcells R snap safe rest) 74 (0, 0))] W_) (ds := [11]) #[false, false, false, false, false, false, false, false, false, false, false, false, false] (by kernel_rfl) rfl rfl (⟨by intro x hx; obtain rfl := List.mem_singleton.1 hx; exact HM3.out.hx, (Below.refl _ _).drew⟩) (fun hHeld => ?_)
              refine take_ (i := 0) (N := some 93) (v := .agg (rcells R snap safe rest)) (a' := ?_) #[true, false, false, false, false, false, false, false, false, false, false, false, false] rfl rfl (by kernel_rfl) (fun _ _ _ h => h) (Or.inl ⟨by rfl, fun w' h => run_load_rowD 74 _ rfl p rfl 74 _ _ _ (h.get 0 rfl) Try.underlying74 rfl size_ref⟩) hHeld ?_ ?_
              rotate_left
              · simp only [Act.put, List.setIfInBounds_toArray, List.set_cons_zero, List.set_cons_succ]
                rfl
              refine pure_ (i := 1) (N := some 94) (v := ?_) (a' := ?_) #[true, true, false, false, false, false, false, false, false, false, false, false, false] rfl rfl (by kernel_rfl) (fun _ _ _ h => h) (Or.inl ⟨by rfl, ?_⟩) ?_ ?_
              rotate_left
              · intro w_
                go_simp
                try with_reducible rfl
              rotate_left
              · simp only [Act.put, List.setIfInBounds_toArray, List.set_cons_zero, List.set_cons_succ]
                rfl
              refine pure_ (i := 2) (N := some 95) (v := ?_) (a' := ?_) #[true, true, true, false, false, false, false, false, false, false, false, false, false] rfl rfl (by kernel_rfl) (fun _ _ _ h => h) (Or.inl ⟨by rfl, ?_⟩) ?_ ?_
              rotate_left
              · intro w_
                go_simp
                try with_reducible rfl
              rotate_left
              · simp only [Act.put, List.setIfInBounds_toArray, List.set_cons_zero, List.set_cons_succ]
                rfl
              refine take_ (i := 3) (N := some 96) (v := .pointer (some (a.add (i * 3)))) (a' := ?_) #[true, true, true, true, false, false, false, false, false, false, false, false, false] rfl rfl (by kernel_rfl) (fun _ _ _ h => h) (Or.inl ⟨by rfl, fun w' h => by go_simp⟩) hHeld ?_ ?_
              rotate_left
              · simp only [Act.put, List.setIfInBounds_toArray, List.set_cons_zero, List.set_cons_succ]
                rfl
              refine pure_ (i := 4) (N := some 97) (v := ?_) (a' := ?_) #[true, true, true, true, true, false, false, false, false, false, false, false, false] rfl rfl (by kernel_rfl) (fun _ _ _ h => h) (Or.inl ⟨by rfl, ?_⟩) ?_ ?_
              rotate_left
              · intro w_
                go_simp
                try with_reducible rfl
              rotate_left
              · simp only [Act.put, List.setIfInBounds_toArray, List.set_cons_zero, List.set_cons_succ]
                rfl
              refine take_ (i := 5) (N := some 98) (v := .string s) (a' := ?_) #[true, true, true, true, true, true, false, false, false, false, false, false, false] rfl rfl (by kernel_rfl) (fun _ _ _ h => h) (Or.inl ⟨by rfl, fun w' h => by have hc : w'.cell? ⟨(a.add (i * 3)).block, (a.add (i * 3)).off + 2, none⟩ = some (.string s) := (h.2.cell (World.block_lt_of_cell? _ _ D2.out)).trans D2.out; go_simp⟩) hHeld ?_ ?_
              rotate_left
              · simp only [Act.put, List.setIfInBounds_toArray, List.set_cons_zero, List.set_cons_succ]
                rfl
              refine join_ (σ := Nat) 2 #[true, true, true, true, true, true, true, true, true, true, true, false, false] (fun q => [(99, .tuple #[.agg (rcells R snap safe rest), .int .i64 13]), (92, .tuple #[.agg (rcells R snap safe rest), .int .i64 13]), (100, .agg (rcells R snap safe rest)), (101, .int .i64 13), (15, .pointer (some ⟨q, 0, none⟩))]) (fun q w_ => NewHolds W3 q (.cells (rcells 0 ⟨#[]⟩ ⟨#[]⟩ ⟨#[]⟩) 74 (0, 0)) ([(p, .cells (rcells R snap safe rest) 74 (0, 0))]) w_) ?_ (fun hcont => ?_)
              rotate_left
              · skip
                refine two_ (i := 6) (j := 10) (Ni := some 99) (Nj := some 15) #[true, true, true, true, true, true, true, false, false, false, false, false, false] #[true, true, true, true, true, true, false, false, false, false, true, false, false] rfl rfl rfl rfl (by kernel_rfl) (by decide) (by decide) (fun K hK => ?_) (fun K hK => ?_)
                · skip
                  refine goes_ Try.func43 (by kernel_rfl) rfl #[.agg (rcells R snap safe rest), .string s] (by rfl) rfl rfl (by (try simp only [List.map_toArray, List.map_cons, List.map_nil]); first | done | rfl) ?_
                  (with_reducible refine (HRA.out _).mono ?_)
                  rintro e wq1 ⟨rfl, hq1⟩
                  refine ⟨_, rfl, ?_⟩
                  refine hK.out _ _ (hHeld.call hq1) (fun hHeld => ?_)
                  clear hK K
                  refine norm_ (a' := ?_) ?_ ?_
                  rotate_left
                  · show Act.put _ (some 99) _ = _
                    simp only [Act.put, List.setIfInBounds_toArray, List.set_cons_zero, List.set_cons_succ]
                    rfl
                  refine pure_ (i := 7) (N := some 92) (v := .tuple #[.agg (rcells R snap safe rest), .int .i64 13]) (a' := ?_) #[true, true, true, true, true, true, true, true, false, false, false, false, false] rfl rfl (by kernel_rfl) (fun _ _ _ h => h) (Or.inl ⟨by rfl, ?_⟩) ?_ ?_
                  · intro w_
                    first | (go_simp; done) | (go_simp; rfl)
                  rotate_left
                  · simp only [Act.put, List.setIfInBounds_toArray, List.set_cons_zero, List.set_cons_succ]
                    rfl
                  refine pure_ (i := 8) (N := some 100) (v := .agg (rcells R snap safe rest)) (a' := ?_) #[true, true, true, true, true, true, true, true, true, false, false, false, false] rfl rfl (by kernel_rfl) (fun _ _ _ h => h) (Or.inl ⟨by rfl, ?_⟩) ?_ ?_
                  · intro w_
                    first | (go_simp; done) | (go_simp; rfl)
                  rotate_left
                  · simp only [Act.put, List.setIfInBounds_toArray, List.set_cons_zero, List.set_cons_succ]
                    rfl
                  refine pure_ (i := 9) (N := some 101) (v := .int .i64 13) (a' := ?_) #[true, true, true, true, true, true, true, true, true, true, false, false, false] rfl rfl (by kernel_rfl) (fun _ _ _ h => h) (Or.inl ⟨by rfl, ?_⟩) ?_ ?_
                  · intro w_
                    first | (go_simp; done) | (go_simp; rfl)
                  rotate_left
                  · simp only [Act.put, List.setIfInBounds_toArray, List.set_cons_zero, List.set_cons_succ]
                    rfl
                  refine one_ (i := 10) (N := some 15) #[true, true, true, true, true, true, true, true, true, true, true, false, false] rfl rfl (by kernel_rfl) (by decide) (fun K hK => ?_)
                  refine value_ (by rfl) rfl (run_alloc_ref rfl _ _) ?_
                  have HQ := hHeld.fresh (.cells (rcells 0 ⟨#[]⟩ ⟨#[]⟩ ⟨#[]⟩) 74 (0, 0))
                  refine hK.out _ _ HQ.tail (fun hHeld => ?_)
                  clear hK K
                  refine norm_ (a' := ?_) ?_ ?_
                  rotate_left
                  · show Act.put _ (some 15) _ = _
                    simp only [Act.put, List.setIfInBounds_toArray, List.set_cons_zero, List.set_cons_succ]
                    rfl
                  have fin := hcont _ _ HQ
                  simp only [putAll, Act.put, List.setIfInBounds_toArray, List.set_cons_zero, List.set_cons_succ] at fin
                  exact fin
                · skip
                  refine value_ (by rfl) rfl (run_alloc_ref rfl _ _) ?_
                  have HQ := hHeld.fresh (.cells (rcells 0 ⟨#[]⟩ ⟨#[]⟩ ⟨#[]⟩) 74 (0, 0))
                  refine hK.out _ _ HQ.tail (fun hHeld => ?_)
                  clear hK K
                  refine norm_ (a' := ?_) ?_ ?_
                  rotate_left
                  · show Act.put _ (some 15) _ = _
                    simp only [Act.put, List.setIfInBounds_toArray, List.set_cons_zero, List.set_cons_succ]
                    rfl
                  refine one_ (i := 6) (N := some 99) #[true, true, true, true, true, true, true, false, false, false, true, false, false] rfl rfl (by kernel_rfl) (by decide) (fun K hK => ?_)
                  refine goes_ Try.func43 (by kernel_rfl) rfl #[.agg (rcells R snap safe rest), .string s] (by rfl) rfl rfl (by (try simp only [List.map_toArray, List.map_cons, List.map_nil]); first | done | rfl) ?_
                  (with_reducible refine (HRA.out _).mono ?_)
                  rintro e wq2 ⟨rfl, hq2⟩
                  refine ⟨_, rfl, ?_⟩
                  refine hK.out _ _ (hHeld.call hq2) (fun hHeld => ?_)
                  clear hK K
                  replace HQ := HQ.call hq2
                  refine norm_ (a' := ?_) ?_ ?_
                  rotate_left
                  · show Act.put _ (some 99) _ = _
                    simp only [Act.put, List.setIfInBounds_toArray, List.set_cons_zero, List.set_cons_succ]
                    rfl
                  refine pure_ (i := 7) (N := some 92) (v := .tuple #[.agg (rcells R snap safe rest), .int .i64 13]) (a' := ?_) #[true, true, true, true, true, true, true, true, false, false, true, false, false] rfl rfl (by kernel_rfl) (fun _ _ _ h => h) (Or.inl ⟨by rfl, ?_⟩) ?_ ?_
                  · intro w_
                    first | (go_simp; done) | (go_simp; rfl)
                  rotate_left
                  · simp only [Act.put, List.setIfInBounds_toArray, List.set_cons_zero, List.set_cons_succ]
                    rfl
                  refine pure_ (i := 8) (N := some 100) (v := .agg (rcells R snap safe rest)) (a' := ?_) #[true, true, true, true, true, true, true, true, true, false, true, false, false] rfl rfl (by kernel_rfl) (fun _ _ _ h => h) (Or.inl ⟨by rfl, ?_⟩) ?_ ?_
                  · intro w_
                    first | (go_simp; done) | (go_simp; rfl)
                  rotate_left
                  · simp only [Act.put, List.setIfInBounds_toArray, List.set_cons_zero, List.set_cons_succ]
                    rfl
                  refine pure_ (i := 9) (N := some 101) (v := .int .i64 13) (a' := ?_) #[true, true, true, true, true, true, true, true, true, true, true, false, false] rfl rfl (by kernel_rfl) (fun _ _ _ h => h) (Or.inl ⟨by rfl, ?_⟩) ?_ ?_
                  · intro w_
                    first | (go_simp; done) | (go_simp; rfl)
                  rotate_left
                  · simp only [Act.put, List.setIfInBounds_toArray, List.set_cons_zero, List.set_cons_succ]
                    rfl
                  have fin := hcont _ _ HQ
                  simp only [putAll, Act.put, List.setIfInBounds_toArray, List.set_cons_zero, List.set_cons_succ] at fin
                  exact fin
              intro q wq HQ
              simp only [putAll, Act.put, List.setIfInBounds_toArray, List.set_cons_zero, List.set_cons_succ]
              refine last_ (i := 11) (N := none) #[true, true, true, true, true, true, true, true, true, true, true, true, false] rfl rfl (by kernel_rfl) (by decide) (fun K hK => ?_)
              refine skip_ (by rfl) rfl (run_store_rowD _ _ _ rfl q (rcells R snap safe rest) rfl rfl 74 (rcells 0 ⟨#[]⟩ ⟨#[]⟩ ⟨#[]⟩) (HQ.1.get 0 rfl) size_ref rfl (rcells_one _ _ _ _)) ?_
              refine hK.out _ _ ?_
              clear hK K
              refine pure_ (i := 12) (N := some 16) (v := ?_) (a' := ?_) #[true, true, true, true, true, true, true, true, true, true, true, true, true] rfl rfl (by kernel_rfl) (fun _ _ _ h => h) (Or.inl ⟨by rfl, ?_⟩) ?_ ?_
              rotate_left
              · intro w_
                go_simp
                try with_reducible rfl
              rotate_left
              · simp only [Act.put, List.setIfInBounds_toArray, List.set_cons_zero, List.set_cons_succ]
                rfl
              refine done_ (by kernel_rfl) ?_
              have H4 := Hd.mk (HQ.set (rcells R snap safe rest))
              clear HQ hHeld D2 HRA
              generalize wq.setRow q (rcells R snap safe rest) = W4 at *
              have HM4 := Hd.mk (HM3.out.step H4.out.2)
              have HME := Hd.mk (HM4.out.setx snap safe rest)
              go_upto_region 25 with (first | ((with_reducible refine gate_dst (N := 102) rfl ?_); refine wpList_load_row rfl 74 _ rfl q rfl 74 (rcells R snap safe rest) (0, 0) _ (H4.out.get 0 rfl) Try.underlying74 rfl size_ref ?_) | ((with_reducible refine gate_store (t := 74) rfl ?_); refine wpList_store_row rfl _ _ _ rfl p (rcells R snap safe rest) rfl rfl 74 (rcells R snap safe rest) HM4.out.hx size_ref rfl (rcells_one _ _ _ _) ?_))
              clear H4 HM4 HM3
              generalize W4.setRow p (rcells R snap safe rest) = W5 at *
              have HA := Hd.mk (disk_same HME.out.hd HOK.out (by have := hXS.out; omega))
              have HB2 := Hd.mk (fun (w' : World) (h : Below W5.heap.size W5 w') => disk_same (HME.out.step h).hc HOK.out (by have := hXS.out; omega))
              go_wp2_with (first | ((with_reducible refine gate_dst (N := 107) rfl ?_); refine wpList_load_row rfl 74 _ rfl p rfl 74 (rcells R snap safe rest) (0, 0) _ HME.out.hx Try.underlying74 rfl size_ref ?_))
              refine HA.out.mono ?_; rintro e W6 ⟨rfl, h6⟩
              have HME2 := Hd.mk (HME.out.step h6)
              have HB3 := Hd.mk (HB2.out _ h6)
              clear HA HB2 HME h6
              go_wp2_with (first | ((with_reducible refine gate_dst (N := 112) rfl ?_); refine gate_guard (by rfl) ?_; refine wpList_load_row rfl 74 _ rfl qo rfl 74 (rcells R snap safe rest) (0, 0) _ HME2.out.hq Try.underlying74 rfl size_ref ?_))
              refine HB3.out.mono ?_; rintro e W7 ⟨rfl, h7⟩
              have HME3 := Hd.mk (HME2.out.step h7)
              clear HB3 HME2 h7
              go_wp2_with fail
              go_roundg (199 - i)
              case measure => have := HK.out; omega
              case rel => exact ⟨i + 1, by omega, by omega, by first | rfl | congr 1, ⟨by have := HK.out; omega⟩, snap, safe, rest, ⟨HME3.out.both⟩, ⟨fine_next HF.out⟩⟩
          · skip
            obtain ⟨m, hm, hmr⟩ : ∃ m : Nat, (m : Int) = min (max kp 0) rest.size ∧ m ≤ rest.size := ⟨(min (max kp 0) (rest.size : Int)).toNat, by omega, by omega⟩
            have HO := Hd.mk (dS_Crash HD2.out (by rw [ByteArray.size_append]; omega) (by rw [ByteArray.size_append]; have := hXS.out; omega) kp (safe.size + m) (by rw [ByteArray.size_append]; omega))
            have HRA := Hd.mk (ref_Crash R snap safe rest (by have := hXS.out; omega) kp m hm)
            have HMR := Hd.mk hmr
            clear hm hmr
            go_wp2_with fail
            refine HO.out.mono ?_; rintro e W3 ⟨rfl, h3⟩
            have h3 : DiskS T W2 b snap ((safe ++ rest.extract 0 m) ++ ⟨#[]⟩) (((safe ++ rest.extract 0 m)).size : Nat) R W3 := by rw [append_none, ByteArray.size_append, ByteArray.size_extract, ← crash_split _ _ HMR.out, show min m rest.size - 0 = m from by have := HMR.out; omega]; exact h3
            have HM3 := Hd.mk (HM.out _ _ _ _ h3)
            have D2 := Hd.mk ((HM3.out.bel.cell (World.block_lt_of_cell? w _ HCE.out.2.1)).trans HCE.out.2.1)
            clear HO HD2 HM HM2 h3 d0 d1 d2
            go_upto_region 11 with (fail)
            refine start_ (n := 8) (S := fun W_ => Holds W3 [(p, .cells (rcells R snap safe rest) 74 (0, 0))] W_) (ds := [7]) #[false, false, false, false, false, false, false, false] (by kernel_rfl) rfl rfl (⟨by intro x hx; obtain rfl := List.mem_singleton.1 hx; exact HM3.out.hx, (Below.refl _ _).drew⟩) (fun hHeld => ?_)
            refine take_ (i := 0) (N := some 47) (v := .agg (rcells R snap safe rest)) (a' := ?_) #[true, false, false, false, false, false, false, false] rfl rfl (by kernel_rfl) (fun _ _ _ h => h) (Or.inl ⟨by rfl, fun w' h => run_load_rowD 74 _ rfl p rfl 74 _ _ _ (h.get 0 rfl) Try.underlying74 rfl size_ref⟩) hHeld ?_ ?_
            rotate_left
            · simp only [Act.put, List.setIfInBounds_toArray, List.set_cons_zero, List.set_cons_succ]
              rfl
            refine pure_ (i := 1) (N := some 48) (v := ?_) (a' := ?_) #[true, true, false, false, false, false, false, false] rfl rfl (by kernel_rfl) (fun _ _ _ h => h) (Or.inl ⟨by rfl, ?_⟩) ?_ ?_
            rotate_left
            · intro w_
              go_simp
              try with_reducible rfl
            rotate_left
            · simp only [Act.put, List.setIfInBounds_toArray, List.set_cons_zero, List.set_cons_succ]
              rfl
            refine pure_ (i := 2) (N := some 49) (v := ?_) (a' := ?_) #[true, true, true, false, false, false, false, false] rfl rfl (by kernel_rfl) (fun _ _ _ h => h) (Or.inl ⟨by rfl, ?_⟩) ?_ ?_
            rotate_left
            · intro w_
              go_simp
              try with_reducible rfl
            rotate_left
            · simp only [Act.put, List.setIfInBounds_toArray, List.set_cons_zero, List.set_cons_succ]
              rfl
            refine take_ (i := 3) (N := some 50) (v := .pointer (some (a.add (i * 3)))) (a' := ?_) #[true, true, true, true, false, false, false, false] rfl rfl (by kernel_rfl) (fun _ _ _ h => h) (Or.inl ⟨by rfl, fun w' h => by go_simp⟩) hHeld ?_ ?_
            rotate_left
            · simp only [Act.put, List.setIfInBounds_toArray, List.set_cons_zero, List.set_cons_succ]
              rfl
            refine pure_ (i := 4) (N := some 51) (v := ?_) (a' := ?_) #[true, true, true, true, true, false, false, false] rfl rfl (by kernel_rfl) (fun _ _ _ h => h) (Or.inl ⟨by rfl, ?_⟩) ?_ ?_
            rotate_left
            · intro w_
              go_simp
              try with_reducible rfl
            rotate_left
            · simp only [Act.put, List.setIfInBounds_toArray, List.set_cons_zero, List.set_cons_succ]
              rfl
            refine take_ (i := 5) (N := some 52) (v := .int .i64 kp) (a' := ?_) #[true, true, true, true, true, true, false, false] rfl rfl (by kernel_rfl) (fun _ _ _ h => h) (Or.inl ⟨by rfl, fun w' h => by have hc : w'.cell? ⟨(a.add (i * 3)).block, (a.add (i * 3)).off + 1, none⟩ = some (.int .i64 kp) := (h.2.cell (World.block_lt_of_cell? _ _ D2.out)).trans D2.out; go_simp⟩) hHeld ?_ ?_
            rotate_left
            · simp only [Act.put, List.setIfInBounds_toArray, List.set_cons_zero, List.set_cons_succ]
              rfl
            refine one_ (i := 6) (N := some 53) #[true, true, true, true, true, true, true, false] rfl rfl (by kernel_rfl) (by decide) (fun K hK => ?_)
            refine goes_ Try.func44 (by kernel_rfl) rfl #[.agg (rcells R snap safe rest), .int .i64 kp] (by rfl) rfl rfl (by (try simp only [List.map_toArray, List.map_cons, List.map_nil]); first | done | rfl) ?_
            (with_reducible refine (HRA.out _).mono ?_)
            rintro e wr1 ⟨rfl, hr1⟩
            refine ⟨_, rfl, ?_⟩
            refine hK.out _ _ (hHeld.call hr1) (fun hHeld => ?_)
            clear hK K
            refine norm_ (a' := ?_) ?_ ?_
            rotate_left
            · show Act.put _ (some 53) _ = _
              simp only [Act.put, List.setIfInBounds_toArray, List.set_cons_zero, List.set_cons_succ]
              rfl
            refine last_ (i := 7) (N := none) #[true, true, true, true, true, true, true, true] rfl rfl (by kernel_rfl) (by decide) (fun K hK => ?_)
            refine skip_ (by rfl) rfl (run_store_rowD _ _ _ rfl p (rcells R snap (safe ++ rest.extract 0 m) ⟨#[]⟩) rfl rfl 74 (rcells R snap safe rest) (hHeld.get 0 rfl) size_ref rfl (rcells_one _ _ _ _)) ?_
            refine hK.out _ _ ?_
            clear hK K
            refine done_ (by kernel_rfl) ?_
            have HM4 := Hd.mk (HM3.out.step hHeld.2)
            have HME := Hd.mk (HM4.out.setx snap (safe ++ rest.extract 0 m) ⟨#[]⟩)
            clear HM4 HM3 hHeld D2 HRA
            generalize wr1.setRow p (rcells R snap (safe ++ rest.extract 0 m) ⟨#[]⟩) = W5 at *
            have HA := Hd.mk (disk_same HME.out.hd (fine_ok (fine_crash HF.out HMR.out) HR.out.2) (by rw [ByteArray.size_append, ByteArray.size_extract]; have := hXS.out; show _ + 0 ≤ _; omega))
            have HB2 := Hd.mk (fun (w' : World) (h : Below W5.heap.size W5 w') => disk_same (HME.out.step h).hc HOK.out (by have := hXS.out; omega))
            go_wp2_with (first | ((with_reducible refine gate_dst (N := 107) rfl ?_); refine wpList_load_row rfl 74 _ rfl p rfl 74 (rcells R snap (safe ++ rest.extract 0 m) ⟨#[]⟩) (0, 0) _ HME.out.hx Try.underlying74 rfl size_ref ?_))
            refine HA.out.mono ?_; rintro e W6 ⟨rfl, h6⟩
            have HME2 := Hd.mk (HME.out.step h6)
            have HB3 := Hd.mk (HB2.out _ h6)
            clear HA HB2 HME h6
            go_wp2_with (first | ((with_reducible refine gate_dst (N := 112) rfl ?_); refine gate_guard (by rfl) ?_; refine wpList_load_row rfl 74 _ rfl qo rfl 74 (rcells R snap safe rest) (0, 0) _ HME2.out.hq Try.underlying74 rfl size_ref ?_))
            refine HB3.out.mono ?_; rintro e W7 ⟨rfl, h7⟩
            have HME3 := Hd.mk (HME2.out.step h7)
            clear HB3 HME2 h7
            go_wp2_with fail
            go_roundg (199 - i)
            case measure => have := HK.out; omega
            case rel => exact ⟨i + 1, by omega, by omega, by first | rfl | congr 1, ⟨by have := HK.out; omega⟩, snap, (safe ++ rest.extract 0 m), ⟨#[]⟩, ⟨HME3.out.both⟩, ⟨fine_crash HF.out HMR.out⟩⟩
    · clear HV
      by_cases g1 : i < len
      · have g1' : (i : Int) < (len : Int) := by omega
        have g2' : ¬ (i : Int) < 200 := by omega
        clear hlt g1
        go_wp2_with fail
        go_ret
        exact ⟨rfl, HB.out.bel⟩
      · have g1' : ¬ (i : Int) < (len : Int) := by omega
        clear hlt g1
        go_wp2_with fail
        go_ret
        exact ⟨rfl, HB.out.bel⟩
end Go.Proofs.Ytkjlakjihjfjdaa.diskPlays
