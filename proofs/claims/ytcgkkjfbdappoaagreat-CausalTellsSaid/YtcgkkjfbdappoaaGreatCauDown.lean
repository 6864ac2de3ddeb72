/- The library's heap of messages that are ready: down and Pop: their contracts. -/
import Derived.Test.YtcgkkjfbdappoaaGreatHeapAll
namespace Go.Proofs.YtcgkkjfbdappoaaGreat
open Go.RowKit Go.Proofs.YtcgkkjfbdappoaaGreatW.PrintWords Go.Proofs.YtcgkkjfbdappoaaGreatW.PrintLast Go.Proofs.YtcgkkjfbdappoaaGreatW.PrintMore
set_option linter.unusedVariables false
set_option linter.unusedSimpArgs false

set_option maxHeartbeats 2000000 in
set_option maxRecDepth 100000 in
theorem heap_down (r : Nat) (l : List MsgV) (n : Nat) (hn : l.length = n + 1) (hlen : n ≤ 50000000000) (b : Nat) (w : World) (h : Rdy b w r l) (hbs : b ≤ w.heap.size) :
    Calls Tryz.prog 60 #[.iface 69 (.pointer (some ⟨r, 0, none⟩)), .int .i64 0, .int .i64 (n : Int)] w fun e w' => (∃ v, e = .returned v) ∧ (∃ l', Rdy b w' r l' ∧ l'.length = n + 1 ∧ l'[n]? = l[n]?) ∧ Below b w w' := by
  have H0 := Hd.mk (⟨h, hbs, hn⟩ : _ ∧ _ ∧ _)
  have HL := Hd.mk hlen
  have eL : ∀ args w, (callFunc 153 args).run Tryz.prog w = .ok (.enter 153 args) w := enters_of Tryz.func153 (by kernel_rfl) rfl
  have eS : ∀ args w, (callFunc 156 args).run Tryz.prog w = .ok (.enter 156 args) w := enters_of Tryz.func156 (by kernel_rfl) rfl
  clear h hn hlen hbs
  go_enter Tryz.func60, Tryz.ntmps60
  go_wp2_with fail
  go_loopg [7] n (fun kq v7 w' => ∃ (i1 : Nat) (l1 : List MsgV), v7 = .int .i64 (i1 : Int) ∧ Hd (i1 + kq = n ∧ l1.length = n + 1 ∧ l1[n]? = l[n]? ∧ Rdy b w' r l1 ∧ Below b w w' ∧ b ≤ w'.heap.size ∧ (i1 < n ∨ i1 = 0)))
  case atStart => exact ⟨0, l, rfl, ⟨by omega, H0.out.2.2, rfl, H0.out.1, Below.refl _ _, H0.out.2.1, Or.inr rfl⟩⟩
  case round =>
    clear H0
    obtain ⟨i1, l1, rfl, HR⟩ := hrel
    have hin : i1 ≤ n := by have := HR.out.1; omega
    have hn5 := HL.out
    obtain ⟨j1, hj1⟩ : ∃ j1 : Nat, j1 = 2 * i1 + 1 := ⟨_, rfl⟩
    have HJ1 := Hd.mk hj1
    have e1 : 2 * (i1 : Int) + 1 = (j1 : Int) := by omega
    have hw1 : wrap64 (2 * (i1 : Int)) = 2 * (i1 : Int) := by unfold wrap64; omega
    have hw2 : wrap64 (j1 : Int) = (j1 : Int) := by unfold wrap64; omega
    have hp1 : ¬ (j1 : Int) < 0 := by omega
    have HLL := Hd.mk HR.out.2.1
    by_cases h1 : j1 < n
    · obtain ⟨j2, hj2⟩ : ∃ j2 : Nat, j2 = j1 + 1 := ⟨_, rfl⟩
      have HJ2 := Hd.mk hj2
      have e2 : (j1 : Int) + 1 = (j2 : Int) := by omega
      have hw3 : wrap64 (j2 : Int) = (j2 : Int) := by unfold wrap64; omega
      have hc1 : ¬ (n : Int) ≤ (j1 : Int) := by omega
      have HJa : Hd (j1 < n ∧ i1 < j1) := ⟨by omega, by omega⟩
      obtain ⟨xi, hxi⟩ : ∃ xi, l1[i1]? = some xi := ⟨_, List.getElem?_eq_getElem (by have := HLL.out; omega)⟩
      obtain ⟨x1, hx1⟩ : ∃ x1, l1[j1]? = some x1 := ⟨_, List.getElem?_eq_getElem (by have := HLL.out; omega)⟩
      have HXI := Hd.mk hxi
      have HX1 := Hd.mk hx1
      obtain ⟨v, hr, hbr, hown, hnr⟩ := HR.out.2.2.2.1
      obtain ⟨g, cap, rfl, hbg, -⟩ := hown.lit (fun e => by subst e; simp at hxi)
      have HRD := Hd.mk (⟨hbr, hnr⟩ : _ ∧ _)
      have HOWa := Hd.mk (⟨hr, hown⟩ : _ ∧ _)
      have HBa := Hd.mk (⟨HR.out.2.2.2.2.1, HR.out.2.2.2.2.2.1⟩ : _ ∧ _)
      clear hr hbr hown hnr hbg hxi hx1 hin hn5 hj1 hj2
      by_cases h2 : j2 < n
      · have hc2 : (j2 : Int) < (n : Int) := by omega
        have HJb : Hd (j2 < n ∧ i1 < j2) := ⟨h2, by have := HJ1.out; have := HJ2.out; omega⟩
        obtain ⟨x2, hx2⟩ : ∃ x2, l1[j2]? = some x2 := ⟨_, List.getElem?_eq_getElem (by have := HLL.out; omega)⟩
        have HLt := Hd.mk (rdy_Less g cap l1 j2 j1 x2 x1 hx2 HX1.out b wr HOWa.out.2)
        have mT := meth_Less HOWa.out.1
        simp only [Tryz.types_size, Nat.reduceAdd] at mT
        clear hx2 h1 h2
        rcases hv2 : lessM x2 x1 with _ | _
        · rw [hv2] at HLt
          clear hv2
          go_wp2_with fail
          refine HLt.out.mono ?_; rintro e w4 ⟨rfl, hb4⟩
          clear mT HLt
          have HOWc := Hd.mk (⟨(hb4.block _ (lt_of HOWa.out.1)).trans HOWa.out.1, HOWa.out.2.below hb4⟩ : _ ∧ _)
          have HBc := Hd.mk (⟨below_step' HBa.out.1 hb4 HBa.out.2, Nat.le_trans HBa.out.2 hb4.size⟩ : _ ∧ _)
          have HJc := HJa
          clear hb4 HJb
          obtain ⟨xj, hxj⟩ : ∃ xj, l1[j1]? = some xj := ⟨_, List.getElem?_eq_getElem (by have := HJc.out; have := HLL.out; omega)⟩
          have HLsc := Hd.mk (rdy_Less g cap l1 j1 i1 xj xi hxj HXI.out b w4 HOWc.out.2)
          have HXJ := Hd.mk hxj
          have mL := meth_Less HOWc.out.1
          simp only [Tryz.types_size, Nat.reduceAdd] at mL
          clear hxj
          rcases hv : lessM xj xi with _ | _
          · rw [hv] at HLsc
            clear hv
            go_wp2_with fail
            refine HLsc.out.mono ?_; rintro e w5 ⟨rfl, hb5⟩
            clear mL HLsc
            go_wp2_with fail
            go_ret
            exact ⟨⟨_, rfl⟩, ⟨l1, Rdy.call ⟨_, HOWc.out.1, HRD.out.1, HOWc.out.2, HRD.out.2⟩ hb5, HLL.out, HR.out.2.2.1⟩, below_step' HBc.out.1 hb5 HBc.out.2⟩
          · rw [hv] at HLsc
            clear hv
            go_wp2_with fail
            refine HLsc.out.mono ?_; rintro e w5 ⟨rfl, hb5⟩
            clear mL HLsc
            have hr5 := (hb5.block _ (lt_of HOWc.out.1)).trans HOWc.out.1
            have hown5 := HOWc.out.2.below hb5
            have HSw := Hd.mk (rdy_Swap g cap l1 i1 j1 xi xj HXI.out HXJ.out b w5 hown5)
            have mS := meth_Swap hr5
            simp only [Tryz.types_size, Nat.reduceAdd] at mS
            have HR5 := Hd.mk hr5
            clear hr5 hown5
            go_wp2_with fail
            refine HSw.out.mono ?_; rintro e w6 ⟨rfl, hown6, hb6, hfar⟩
            clear mS HSw
            have hgr : g ≠ r := fun e => HRD.out.2 (by rw [e]; rfl)
            have HQ : Hd (j1 + (n - j1) = n ∧ (swapL l1 i1 j1).length = n + 1 ∧ (swapL l1 i1 j1)[n]? = l[n]? ∧ Rdy b w6 r (swapL l1 i1 j1) ∧ Below b w w6 ∧ b ≤ w6.heap.size ∧ (j1 < n ∨ j1 = 0)) := by
              have hb3 := below_step' HBc.out.1 hb5 HBc.out.2
              have hjn := HJc.out
              refine ⟨by omega, by rw [swapL_len]; exact HLL.out, ?_, ⟨_, (hfar r (fun e => hgr e.symm)).trans HR5.out, HRD.out.1, hown6, HRD.out.2⟩, hb3.trans hb6, Nat.le_trans HBc.out.2 (Nat.le_trans hb5.size hb6.size), Or.inl hjn.1⟩
              rw [swapL_at HXI.out HXJ.out, if_neg (by omega), if_neg (by omega)]
              exact HR.out.2.2.1
            clear hown6 hfar hb6 hb5 HR5
            go_wp2_with fail
            go_roundg (n - j1)
            case measure => have := HR.out.1; have := HJc.out; omega
            case rel => exact ⟨j1, swapL l1 i1 j1, rfl, HQ⟩
        · rw [hv2] at HLt
          clear hv2
          go_wp2_with fail
          refine HLt.out.mono ?_; rintro e w4 ⟨rfl, hb4⟩
          clear mT HLt
          have HOWc := Hd.mk (⟨(hb4.block _ (lt_of HOWa.out.1)).trans HOWa.out.1, HOWa.out.2.below hb4⟩ : _ ∧ _)
          have HBc := Hd.mk (⟨below_step' HBa.out.1 hb4 HBa.out.2, Nat.le_trans HBa.out.2 hb4.size⟩ : _ ∧ _)
          have HJc := HJb
          clear hb4
          obtain ⟨xj, hxj⟩ : ∃ xj, l1[j2]? = some xj := ⟨_, List.getElem?_eq_getElem (by have := HJc.out; have := HLL.out; omega)⟩
          have HLsc := Hd.mk (rdy_Less g cap l1 j2 i1 xj xi hxj HXI.out b w4 HOWc.out.2)
          have HXJ := Hd.mk hxj
          have mL := meth_Less HOWc.out.1
          simp only [Tryz.types_size, Nat.reduceAdd] at mL
          clear hxj
          rcases hv : lessM xj xi with _ | _
          · rw [hv] at HLsc
            clear hv
            go_wp2_with fail
            refine HLsc.out.mono ?_; rintro e w5 ⟨rfl, hb5⟩
            clear mL HLsc
            go_wp2_with fail
            go_ret
            exact ⟨⟨_, rfl⟩, ⟨l1, Rdy.call ⟨_, HOWc.out.1, HRD.out.1, HOWc.out.2, HRD.out.2⟩ hb5, HLL.out, HR.out.2.2.1⟩, below_step' HBc.out.1 hb5 HBc.out.2⟩
          · rw [hv] at HLsc
            clear hv
            go_wp2_with fail
            refine HLsc.out.mono ?_; rintro e w5 ⟨rfl, hb5⟩
            clear mL HLsc
            have hr5 := (hb5.block _ (lt_of HOWc.out.1)).trans HOWc.out.1
            have hown5 := HOWc.out.2.below hb5
            have HSw := Hd.mk (rdy_Swap g cap l1 i1 j2 xi xj HXI.out HXJ.out b w5 hown5)
            have mS := meth_Swap hr5
            simp only [Tryz.types_size, Nat.reduceAdd] at mS
            have HR5 := Hd.mk hr5
            clear hr5 hown5
            go_wp2_with fail
            refine HSw.out.mono ?_; rintro e w6 ⟨rfl, hown6, hb6, hfar⟩
            clear mS HSw
            have hgr : g ≠ r := fun e => HRD.out.2 (by rw [e]; rfl)
            have HQ : Hd (j2 + (n - j2) = n ∧ (swapL l1 i1 j2).length = n + 1 ∧ (swapL l1 i1 j2)[n]? = l[n]? ∧ Rdy b w6 r (swapL l1 i1 j2) ∧ Below b w w6 ∧ b ≤ w6.heap.size ∧ (j2 < n ∨ j2 = 0)) := by
              have hb3 := below_step' HBc.out.1 hb5 HBc.out.2
              have hjn := HJc.out
              refine ⟨by omega, by rw [swapL_len]; exact HLL.out, ?_, ⟨_, (hfar r (fun e => hgr e.symm)).trans HR5.out, HRD.out.1, hown6, HRD.out.2⟩, hb3.trans hb6, Nat.le_trans HBc.out.2 (Nat.le_trans hb5.size hb6.size), Or.inl hjn.1⟩
              rw [swapL_at HXI.out HXJ.out, if_neg (by omega), if_neg (by omega)]
              exact HR.out.2.2.1
            clear hown6 hfar hb6 hb5 HR5
            go_wp2_with fail
            go_roundg (n - j2)
            case measure => have := HR.out.1; have := HJc.out; omega
            case rel => exact ⟨j2, swapL l1 i1 j2, rfl, HQ⟩
      · have hc2 : ¬ (j2 : Int) < (n : Int) := by omega
        clear h1 h2
        obtain ⟨xj, hxj⟩ : ∃ xj, l1[j1]? = some xj := ⟨_, List.getElem?_eq_getElem (by have := HJa.out; have := HLL.out; omega)⟩
        have HLsa := Hd.mk (rdy_Less g cap l1 j1 i1 xj xi hxj HXI.out b wr HOWa.out.2)
        have HXJ := Hd.mk hxj
        have mL := meth_Less HOWa.out.1
        simp only [Tryz.types_size, Nat.reduceAdd] at mL
        clear hxj
        rcases hv : lessM xj xi with _ | _
        · rw [hv] at HLsa
          clear hv
          go_wp2_with fail
          refine HLsa.out.mono ?_; rintro e w5 ⟨rfl, hb5⟩
          clear mL HLsa
          go_wp2_with fail
          go_ret
          exact ⟨⟨_, rfl⟩, ⟨l1, Rdy.call ⟨_, HOWa.out.1, HRD.out.1, HOWa.out.2, HRD.out.2⟩ hb5, HLL.out, HR.out.2.2.1⟩, below_step' HBa.out.1 hb5 HBa.out.2⟩
        · rw [hv] at HLsa
          clear hv
          go_wp2_with fail
          refine HLsa.out.mono ?_; rintro e w5 ⟨rfl, hb5⟩
          clear mL HLsa
          have hr5 := (hb5.block _ (lt_of HOWa.out.1)).trans HOWa.out.1
          have hown5 := HOWa.out.2.below hb5
          have HSw := Hd.mk (rdy_Swap g cap l1 i1 j1 xi xj HXI.out HXJ.out b w5 hown5)
          have mS := meth_Swap hr5
          simp only [Tryz.types_size, Nat.reduceAdd] at mS
          have HR5 := Hd.mk hr5
          clear hr5 hown5
          go_wp2_with fail
          refine HSw.out.mono ?_; rintro e w6 ⟨rfl, hown6, hb6, hfar⟩
          clear mS HSw
          have hgr : g ≠ r := fun e => HRD.out.2 (by rw [e]; rfl)
          have HQ : Hd (j1 + (n - j1) = n ∧ (swapL l1 i1 j1).length = n + 1 ∧ (swapL l1 i1 j1)[n]? = l[n]? ∧ Rdy b w6 r (swapL l1 i1 j1) ∧ Below b w w6 ∧ b ≤ w6.heap.size ∧ (j1 < n ∨ j1 = 0)) := by
            have hb3 := below_step' HBa.out.1 hb5 HBa.out.2
            have hjn := HJa.out
            refine ⟨by omega, by rw [swapL_len]; exact HLL.out, ?_, ⟨_, (hfar r (fun e => hgr e.symm)).trans HR5.out, HRD.out.1, hown6, HRD.out.2⟩, hb3.trans hb6, Nat.le_trans HBa.out.2 (Nat.le_trans hb5.size hb6.size), Or.inl hjn.1⟩
            rw [swapL_at HXI.out HXJ.out, if_neg (by omega), if_neg (by omega)]
            exact HR.out.2.2.1
          clear hown6 hfar hb6 hb5 HR5
          go_wp2_with fail
          go_roundg (n - j1)
          case measure => have := HR.out.1; have := HJa.out; omega
          case rel => exact ⟨j1, swapL l1 i1 j1, rfl, HQ⟩
    · have hc1 : (n : Int) ≤ (j1 : Int) := by omega
      clear h1 hin hn5 hj1
      go_wp2_with fail
      go_ret
      exact ⟨⟨_, rfl⟩, ⟨l1, HR.out.2.2.2.1, HLL.out, HR.out.2.2.1⟩, HR.out.2.2.2.2.1⟩
set_option maxHeartbeats 1000000 in
set_option maxRecDepth 100000 in
theorem heap_Pop (r : Nat) (l : List MsgV) (n : Nat) (m : MsgV) (hn : l.length = n + 1) (h0 : l[0]? = some m) (hlen : n ≤ 50000000000) (b : Nat) (w : World) (h : Rdy b w r l) (hbs : b ≤ w.heap.size) :
    Calls Tryz.prog 31 #[.iface 69 (.pointer (some ⟨r, 0, none⟩))] w fun e w' => e = .returned (.iface 38 (.agg (msgC m))) ∧ Below b w w' := by
  obtain ⟨v, hr, hbr, hown, hnr⟩ := h
  obtain ⟨g, cap, rfl, hbg, -⟩ := hown.lit (fun e => by subst e; simp at h0)
  have hgr : g ≠ r := fun e => hnr (by rw [e]; rfl)
  obtain ⟨z, hz⟩ : ∃ z, l[n]? = some z := ⟨_, List.getElem?_eq_getElem (by omega)⟩
  have eL : ∀ args w, (callFunc 30 args).run Tryz.prog w = .ok (.enter 30 args) w := enters_of Tryz.func30 (by kernel_rfl) rfl
  have eS : ∀ args w, (callFunc 156 args).run Tryz.prog w = .ok (.enter 156 args) w := enters_of Tryz.func156 (by kernel_rfl) rfl
  have eP : ∀ args w, (callFunc 154 args).run Tryz.prog w = .ok (.enter 154 args) w := enters_of Tryz.func154 (by kernel_rfl) rfl
  have mP := fun w => meth_Pop r w
  have mL := meth_Len hr
  have mS := meth_Swap hr
  simp only [Tryz.types_size, Nat.reduceAdd] at mP mL mS
  have HLen := Hd.mk (rdy_Len (some ⟨g, 0, none⟩) l.length cap)
  have HSw := Hd.mk (rdy_Swap g cap l 0 n m z h0 hz b w hown)
  have HD := Hd.mk (fun (w' : World) (hown' : rdyE.Own b w' (.slice (some ⟨g, 0, none⟩) l.length cap) (swapL l 0 n)) (hr' : w'.heap[r]? = some (.cells #[.slice (some ⟨g, 0, none⟩) l.length cap] 70 (0, 0))) (hs : b ≤ w'.heap.size) => heap_down r (swapL l 0 n) n (by rw [swapL_len]; exact hn) hlen b w' ⟨_, hr', hbr, hown', hnr⟩ hs)
  have HLast := Hd.mk (show (swapL l 0 n)[n]? = some m by rw [swapL_at h0 hz, if_pos rfl])
  have HF := Hd.mk (⟨hr, hgr, hbs⟩ : _ ∧ _ ∧ _)
  have hn1 : (l.length : Int) - 1 = (n : Int) := by omega
  have hw : wrap64 (n : Int) = (n : Int) := by unfold wrap64; omega
  clear hr hbr hown hnr hbg hgr hz h0 hlen hbs hn
  generalize l.length = nn at *
  go_enter Tryz.func31, Tryz.ntmps31
  go_wp2_with fail
  refine (HLen.out _).mono ?_; rintro e w1 ⟨rfl, rfl⟩
  clear mL HLen eL
  go_wp2_with fail
  refine HSw.out.mono ?_; rintro e w2 ⟨rfl, hown2, hb2, hfar⟩
  clear mS HSw eS
  have HD2 := Hd.mk (HD.out w2 hown2 ((hfar r (fun e => HF.out.2.1 e.symm)).trans HF.out.1) (Nat.le_trans HF.out.2.2 hb2.size))
  have HB := Hd.mk (⟨hb2, Nat.le_trans HF.out.2.2 hb2.size⟩ : _ ∧ _)
  clear HD hown2 hb2 hfar
  go_wp2_with fail
  refine HD2.out.mono ?_; rintro e w3 ⟨⟨v3, rfl⟩, ⟨l3, hrd, hl3, hm3⟩, hb3⟩
  have HP := Hd.mk (rdy_Pop r l3 n m hl3 (hm3.trans HLast.out) b w3 hrd)
  clear HD2 hrd hl3 hm3
  go_wp2_with fail
  refine HP.out.mono ?_; rintro e w4 ⟨rfl, hb4⟩
  clear mP HP
  go_wp2_with fail
  go_ret
  exact ⟨rfl, (HB.out.1.trans hb3).trans hb4⟩
end Go.Proofs.YtcgkkjfbdappoaaGreat
