/- The law CausalAll: the walk. -/
import Derived.Test.YtcgkkjfbdappoaaSerAll
import Derived.Test.YtcgkkjfbdappoaaIterAll
import Derived.Test.YtcgkkjfbdappoaaCausalOnce
namespace Go.Proofs.Ytcgkkjfbdappoaa.causalAll
open Go.RowKit Go.Proofs.YtcgkkjfbdappoaaW.PrintWords Go.Proofs.YtcgkkjfbdappoaaW.PrintLast Go.Proofs.YtcgkkjfbdappoaaW.PrintMore
open Go.Proofs.Ytcgkkjfbdappoaa.causalOnce (refmsg_size)
set_option linter.unusedVariables false
set_option linter.unusedSimpArgs false

theorem run_measure {k i : Nat} (h : k + i = 100) (hi : i < 100) : 99 - i < k := by omega
theorem run_next {i i2 : Nat} (hi : i < 100) (h2 : i2 = i + 1) : 99 - i + i2 = 100 := by omega
theorem run_measureN {n k i : Nat} (h : k + i = n) (hi : i < n) : n - 1 - i < k := by omega
theorem run_nextN {n i i2 : Nat} (hi : i < n) (h2 : i2 = i + 1) : n - 1 - i + i2 = n := by omega
theorem run_one {k k2 n a b : Nat} (h : k + a = n) (hl : b + 1 = a) (h2 : k2 = k + 1) : k2 + b = n := by omega
set_option maxHeartbeats 4000000 in
set_option maxRecDepth 100000 in
theorem law_CausalAll {Ao As At : Option Addr} {co cs ct : Nat} {lo : List OpV} {ls lt : List UInt8} {vo vs vt : Value} {w : World} (ho : InOps w vo Ao co lo) (hs : InBytes w vs As cs ls) (ht : InBytes w vt At ct lt) : Calls Try.prog 4 #[vo, vs, vt] w fun e w' => e = .returned (.bool true) ∧ Below w.heap.size w w' := by
  have HA := Hd.mk (⟨ho, hs, ht⟩ : _ ∧ _ ∧ _)
  have HT := ht.1
  subst HT
  have HS := Hd.mk (cau_shown w)
  have HN := Hd.mk (fun w => cau_New zero8 rfl (by kernel_rfl) w)
  clear ho hs ht
  go_enter Try.func4, Try.ntmps4
  go_wp2_with fail
  refine HS.out.mono ?_; rintro e w1 ⟨rfl, hb1⟩
  have HB1 := Hd.mk hb1
  have HHi := Hd.mk (cau_history w1 vo vs Ao As co cs lo ls (HA.out.1.keep hb1) (HA.out.2.1.keep hb1) ref_May17)
  clear HS hb1
  go_wp2_with fail
  refine HHi.out.mono ?_; rintro e w2 ⟨v8, h, rfl, hown, hist, hsm, hlen, hb2⟩
  obtain ⟨A8, c8, rfl⟩ := hown.slice
  have HB2 := Hd.mk (below_step HB1.out hb2)
  have HH := Hd.mk (⟨hist, hsm, hlen⟩ : _ ∧ _ ∧ _)
  obtain ⟨v9, w3, hrun, hown3, hgr⟩ := Elt.run_cat (own_empty refMsgE w2) (vb := .slice A8 h.length c8) (hown.below ((Below.refl _ _).alloc (Nat.le_refl _) _)).are (by simp; omega) (by simp)
  replace hown3 : refMsgE.Own w2.heap.size w3 v9 h := hown3
  have hb3 : Below w.heap.size w w3 := below_step HB2.out (((Below.refl _ _).alloc (Nat.le_refl _) _).grown hgr (by simp) (fun q e => (World.ownsRow.lt (own_empty refMsgE w2) q e).1))
  obtain ⟨A9, c9, rfl⟩ := hown3.slice
  have HSw : Hd (Sw w (.slice A9 h.length c9) h h w3) := ⟨⟨own_lower hown3 HB2.out.size, List.Perm.refl _, hb3⟩⟩
  have HCat := Hd.mk hrun
  generalize hn : h.length = n at *
  have HL := Hd.mk hn
  clear hown hown3 hgr hb2 hb3 hist hsm hlen hrun HHi HB1 HB2 hn
  go_upto_block 0 with (first | ((with_reducible refine gate_dst (N := 25) rfl ?_); refine wpList_valC rfl (run_catop rfl rfl rfl rfl HCat.out) ?_))
  go_cut [] from 19 (fun wc => ∃ lk, lk.length = n ∧ Sw w (.slice A9 n c9) h lk wc)
  case first =>
    go_wp2_with fail
    go_loopg [10] 100 (fun kq v10 w' => ∃ i : Nat, v10 = .int .i64 (i : Int) ∧ Hd (kq + i = 100 ∧ ∃ lk, lk.length = n ∧ Sw w (.slice A9 n c9) h lk w'))
    case atStart => exact ⟨0, rfl, ⟨by omega, h, HL.out, HSw.out⟩⟩
    case round =>
      clear HSw HCat
      obtain ⟨i, rfl, HR⟩ := hrel
      obtain ⟨hki, lk, hlk, hsw⟩ := HR.out
      have HSw := Hd.mk hsw
      have HLK := Hd.mk hlk
      have HKI := Hd.mk hki
      clear hsw hlk hki HR
      by_cases h1 : i < lt.length
      · have e1 : (i : Int) < (lt.length : Int) := by omega
        by_cases h2 : i < 100
        · have e2 : (i : Int) < 100 := by omega
          by_cases h3 : 0 < n
          · have e3 : 0 < (n : Int) := by omega
            obtain ⟨u, hu⟩ : ∃ u, lt[i]? = some u := ⟨_, List.getElem?_eq_getElem h1⟩
            obtain ⟨at1, rfl, -⟩ := HA.out.2.2.2.at hu
            have cu := byte_at (HA.out.2.2.2.keep HSw.out.bel) hu
            obtain ⟨j, hj⟩ : ∃ j : Nat, j = u.toNat % n := ⟨_, rfl⟩
            obtain ⟨m, hm⟩ : ∃ m : Nat, m = i % n := ⟨_, rfl⟩
            have hjn : j < n := hj ▸ Nat.mod_lt _ h3
            have hmn : m < n := hm ▸ Nat.mod_lt _ h3
            obtain ⟨x, hx⟩ : ∃ x, lk[j]? = some x := ⟨_, List.getElem?_eq_getElem (by rw [HLK.out]; exact hjn)⟩
            obtain ⟨y, hy⟩ : ∃ y, lk[m]? = some y := ⟨_, List.getElem?_eq_getElem (by rw [HLK.out]; exact hmn)⟩
            have htj : Int.tmod (u.toNat : Int) (n : Int) = (j : Int) := by rw [hj]; rfl
            have htm : Int.tmod (i : Int) (n : Int) = (m : Int) := by rw [hm]; rfl
            have htj2 : (u.toNat : Int) % (n : Int) = (j : Int) := by rw [hj]; rfl
            have htm2 : (i : Int) % (n : Int) = (m : Int) := by rw [hm]; rfl
            have hn0 : ¬ (n : Int) = 0 := by omega
            have hn1 : ¬ n = 0 := by omega
            obtain ⟨i2, hi2⟩ : ∃ i2 : Nat, i2 = i + 1 := ⟨_, rfl⟩
            have f1 : (i : Int) + 1 = (i2 : Int) := by omega
            have f2 := (wrap_nat (s := i2) (by omega)).1
            have HI2 := Hd.mk (⟨hi2, h2⟩ : _ ∧ _)
            clear hi2
            have HX := Hd.mk (⟨hx, hy, hjn, hmn⟩ : _ ∧ _ ∧ _ ∧ _)
            have jn : (j : Int) < (n : Int) := by omega
            have mn : (m : Int) < (n : Int) := by omega
            have wu := (wrap_nat (byte_lt u)).1
            obtain ⟨g, cap, hE, -⟩ := HSw.out.own.lit (fun e => by subst e; simp at hx)
            rw [HLK.out] at hE
            cases hE
            clear hj hm hx hy hjn hmn hu
            go_upto_region 8 with (fail)
            go_upto_region 9 with (first | ((with_reducible refine gate_dst (N := 52) rfl ?_); refine wpList_load_mid rfl 37 _ rfl g (j * 22) rfl (msgC x).toList _ (HSw.out.at HLK.out HX.out.1) Try.underlying37 rfl refmsg_size ?_) | ((with_reducible refine gate_store (t := 37) rfl ?_); refine wpList_store_row rfl _ _ _ rfl wr.heap.size (msgC x) rfl rfl 37 _ (heap_alloc_new wr _) refmsg_size rfl (msgC_one x) ?_))
            refine world_gen (fun W => Holds wr [(wr.heap.size, .cells (msgC x) 37 (0, 0))] W) ((Holds.nil wr).made _ (msgC x) 37) (fun W1 hK => ?_)
            have K1 := Hd.mk (⟨HSw.out.call hK.2, hK.get 0 rfl⟩ : _ ∧ _)
            have HNE := Hd.mk (show g ≠ wr.heap.size by have := HSw.out.lo.2; omega)
            clear hK HSw cu
            generalize wr.heap.size = b12 at *
            go_upto_region 10 with (first | ((with_reducible refine gate_dst (N := 61) rfl ?_); refine wpList_load_mid rfl 37 _ rfl g (m * 22) rfl (msgC y).toList _ (K1.out.1.at HLK.out HX.out.2.1) Try.underlying37 rfl refmsg_size ?_) | ((with_reducible refine gate_store (t := 37) rfl ?_); refine wpList_store_mid rfl 37 _ _ rfl g (j * 22) (msgC y) rfl rfl (K1.out.1.there HLK.out HX.out.2.2.1) refmsg_size (msgC_one y) ?_))
            refine world_gen (fun W => SwMid w g c9 n h lk j y W ∧ W.heap[b12]? = some (.cells (msgC x) 37 (0, 0))) ⟨K1.out.1.mid HLK.out HX.out.2.2.1 y, (setCells_far _ _ _ (Ne.symm HNE.out)).trans K1.out.2⟩ (fun W2 hK => ?_)
            have K2 := Hd.mk hK
            clear hK K1
            have m0 := Int.natCast_nonneg m
            have wm := wrap_nat (s := m) (Nat.lt_of_lt_of_le HX.out.2.2.2 (Nat.le_trans HH.out.2.2 (by decide)))
            refine start_ (n := 8) (S := fun W_ => SwMid w g c9 n h lk j y W_ ∧ W_.heap[b12]? = some (.cells (msgC x) 37 (0, 0))) (ds := [7]) #[false, false, false, false, false, false, false, false] (by kernel_rfl) rfl rfl (⟨K2.out.1.call (Below.refl _ _).drew, K2.out.2⟩) (fun hHeld => ?_)
            refine pure_ (i := 0) (N := some 63) (v := ?_) (a' := ?_) #[true, false, false, false, false, false, false, false] rfl rfl (by kernel_rfl) (fun _ _ _ h => h) (Or.inl ⟨by rfl, ?_⟩) ?_ ?_
            rotate_left
            · intro w_
              go_simp
              try with_reducible rfl
            rotate_left
            · simp only [Act.put, List.setIfInBounds_toArray, List.set_cons_zero, List.set_cons_succ]
              rfl
            refine pure_ (i := 1) (N := some 64) (v := ?_) (a' := ?_) #[true, true, false, false, false, false, false, false] rfl rfl (by kernel_rfl) (fun _ _ _ h => h) (Or.inl ⟨by rfl, ?_⟩) ?_ ?_
            rotate_left
            · intro w_
              go_simp
              try with_reducible rfl
            rotate_left
            · simp only [Act.put, List.setIfInBounds_toArray, List.set_cons_zero, List.set_cons_succ]
              rfl
            refine pure_ (i := 2) (N := some 65) (v := ?_) (a' := ?_) #[true, true, true, false, false, false, false, false] rfl rfl (by kernel_rfl) (fun _ _ _ h => h) (Or.inl ⟨by rfl, ?_⟩) ?_ ?_
            rotate_left
            · intro w_
              go_simp
              try with_reducible rfl
            rotate_left
            · simp only [Act.put, List.setIfInBounds_toArray, List.set_cons_zero, List.set_cons_succ]
              rfl
            refine pure_ (i := 3) (N := some 66) (v := ?_) (a' := ?_) #[true, true, true, true, false, false, false, false] rfl rfl (by kernel_rfl) (fun _ _ _ h => h) (Or.inl ⟨by rfl, ?_⟩) ?_ ?_
            rotate_left
            · intro w_
              go_simp
              try with_reducible rfl
            rotate_left
            · simp only [Act.put, List.setIfInBounds_toArray, List.set_cons_zero, List.set_cons_succ]
              rfl
            refine pure_ (i := 4) (N := some 67) (v := ?_) (a' := ?_) #[true, true, true, true, true, false, false, false] rfl rfl (by kernel_rfl) (fun _ _ _ h => h) (Or.inl ⟨by rfl, ?_⟩) ?_ ?_
            rotate_left
            · intro w_
              go_simp
              try with_reducible rfl
            rotate_left
            · simp only [Act.put, List.setIfInBounds_toArray, List.set_cons_zero, List.set_cons_succ]
              rfl
            refine take_ (i := 5) (N := some 68) (v := .agg (msgC x)) (a' := ?_) #[true, true, true, true, true, true, false, false] rfl rfl (by kernel_rfl) (fun _ _ _ h => h) (Or.inl ⟨by rfl, fun w' h => run_load_midC 37 _ rfl b12 0 (msgC x).toList rfl _ _ _ h.2 (fun j v hj => by simpa using hj) _ Try.underlying37 rfl refmsg_size⟩) hHeld ?_ ?_
            rotate_left
            · simp only [Act.put, List.setIfInBounds_toArray, List.set_cons_zero, List.set_cons_succ]
              rfl
            refine pure_ (i := 6) (N := some 69) (v := ?_) (a' := ?_) #[true, true, true, true, true, true, true, false] rfl rfl (by kernel_rfl) (fun _ _ _ h => h) (Or.inl ⟨by rfl, ?_⟩) ?_ ?_
            rotate_left
            · intro w_
              go_simp
              try with_reducible rfl
            rotate_left
            · simp only [Act.put, List.setIfInBounds_toArray, List.set_cons_zero, List.set_cons_succ]
              rfl
            refine last_ (i := 7) (N := none) #[true, true, true, true, true, true, true, true] rfl rfl (by kernel_rfl) (by decide) (fun K hK => ?_)
            refine skip_ (by rfl) rfl (run_store_midC 37 _ _ rfl g (m * 22) (msgC x) rfl rfl (hHeld.1.there HLK.out HX.out.2.2.2) refmsg_size (msgC_one x)) ?_
            refine hK.out _ _ ?_
            clear hK K
            refine done_ (by kernel_rfl) ?_
            have HSq := Hd.mk (hHeld.1.out HLK.out HX.out.1 HX.out.2.1)
            clear hHeld K2
            go_upto_region 6 with (fail)
            refine world_gen (fun W => (swapL lk j m).length = n ∧ Sw w (.slice (some ⟨g, 0, none⟩) n c9) h (swapL lk j m) W) HSq.out (fun W3 hK => ?_)
            have HSw := Hd.mk hK
            clear HSq hK htj htm htj2 htm2 wu hn0 hn1 jn mn wm m0 e1 e2 e3
            go_wp2_with fail
            go_roundg (99 - i)
            case measure => exact run_measure HKI.out HI2.out.2
            case rel => exact ⟨i2, by first | rfl | rw [f2], ⟨run_next HI2.out.2 HI2.out.1, _, HSw.out.1, HSw.out.2⟩⟩
          · have e3 : ¬ 0 < (n : Int) := by omega
            go_wp2_with fail
            go_meet
            case rel => exact ⟨lk, HLK.out, HSw.out⟩
        · have e2 : ¬ (i : Int) < 100 := by omega
          go_wp2_with fail
          go_meet
          case rel => exact ⟨lk, HLK.out, HSw.out⟩
      · have e1 : ¬ (i : Int) < (lt.length : Int) := by omega
        go_wp2_with fail
        go_meet
        case rel => exact ⟨lk, HLK.out, HSw.out⟩
  case rest =>
    obtain ⟨lk, hlk, hsw⟩ := hcut
    have HSw := Hd.mk hsw
    have HLK := Hd.mk hlk
    clear hsw hlk HCat
    go_wp2_with (first | ((with_reducible refine gate_dst (N := 70) rfl ?_); refine wpList_buildB rfl _ _ rfl #[] rfl (.agg (vec zero8)) (run_build _ _ _ _ (by kernel_rfl)) ?_))
    refine (HN.out _).mono ?_; rintro e w4 ⟨p, rfl, hN⟩
    have HR := Hd.mk (Run.start HSw.out.bel HSw.out.own hN)
    have HPm := Hd.mk HSw.out.perm
    clear HSw hN
    generalize wc.heap.size = B at *
    go_wp2_with fail
    go_loopg [15] n (fun kq v15 w' => ∃ i : Nat, v15 = .int .i64 (i : Int) ∧ Hd (kq + i = n ∧ Run w B p (.slice A9 n c9) lk zero8 (lk.take i) w'))
    case atStart => exact ⟨0, rfl, ⟨Nat.add_zero _, by rw [List.take_zero]; exact HR.out⟩⟩
    case round =>
      clear HR
      obtain ⟨i, rfl, HRR⟩ := hrel
      obtain ⟨hki, hr⟩ := HRR.out
      have HR := Hd.mk hr
      have HKI := Hd.mk hki
      clear hr hki HRR
      by_cases h1 : i < n
      · have e1 : (i : Int) < (n : Int) := by omega
        obtain ⟨j, hj⟩ : ∃ j : Nat, j = i / 2 := ⟨_, rfl⟩
        have hji : j ≤ i := by omega
        have hjn : j < n := by omega
        obtain ⟨x, hx⟩ : ∃ x, lk[i]? = some x := ⟨_, List.getElem?_eq_getElem (by rw [HLK.out]; exact h1)⟩
        obtain ⟨y, hy⟩ : ∃ y, lk[j]? = some y := ⟨_, List.getElem?_eq_getElem (by rw [HLK.out]; exact hjn)⟩
        have hdj : Int.tdiv (i : Int) 2 = (j : Int) := by rw [hj]; rfl
        have hdj2 : (i : Int) / 2 = (j : Int) := by rw [hj]; rfl
        have jn : (j : Int) < (n : Int) := by omega
        obtain ⟨i2, hi2⟩ : ∃ i2 : Nat, i2 = i + 1 := ⟨_, rfl⟩
        have f1 : (i : Int) + 1 = (i2 : Int) := by omega
        have h30 := HH.out.2.2
        have f2 := (wrap_nat (s := i2) (by omega)).1
        have f3 := (wrap_nat (s := j) (by omega)).1
        have HI2 := Hd.mk (⟨hi2, h1⟩ : _ ∧ _)
        obtain ⟨o1, o2, o3⟩ := take_offer HH.out.1 HPm.out hx
        have o4 := o3 j y hy hji
        obtain ⟨g, cap, hE, -⟩ := HR.out.own.lit (fun e => by subst e; simp at hx)
        rw [HLK.out] at hE
        cases hE
        have hxm := HPm.out.mem_iff.1 (List.mem_of_getElem? hx)
        have hym := HPm.out.mem_iff.1 (List.mem_of_getElem? hy)
        have HMd := Hd.mk (fun w => (msg_made x w : Calls Try.prog 9 #[.agg (msgC x)] w fun e w' => e = .returned (.agg (msgC x)) ∧ Below w.heap.size w w'))
        have HMe := Hd.mk (fun w => (msg_made y w : Calls Try.prog 9 #[.agg (msgC y)] w fun e w' => e = .returned (.agg (msgC y)) ∧ Below w.heap.size w w'))
        have hl1 : (lk.take i).length ≤ 50000000000 := by rw [List.length_take]; omega
        have hl2 : (lk.take i2).length ≤ 50000000000 := by rw [List.length_take]; omega
        have HOf := Hd.mk (fun w' (hb : Below wr.heap.size wr w') => buf_Offer _ p zero8 (lk.take i) x (HH.out.2.1 x hxm) hl1 w' (HR.out.call hb).buf)
        rw [o1, if_pos rfl, o2, ← hi2] at HOf
        have HOg := Hd.mk (fun w' (hb : BufAt (fun k => k < B) w' p zero8 (lk.take i2)) => buf_Offer _ p zero8 (lk.take i2) y (HH.out.2.1 y hym) hl2 w' hb)
        rw [← hi2] at o4
        rw [o4, if_neg (by simp)] at HOg
        have HX := Hd.mk (⟨hx, hy⟩ : _ ∧ _)
        clear o1 o2 o3 o4 hl1 hl2 hxm hym hx hy hj hji hjn hi2 h30
        go_wp2_with (first | ((with_reducible refine gate_dst (N := 84) rfl ?_); refine wpList_load_mid rfl 37 _ rfl g (i * 22) rfl (msgC x).toList _ (HR.out.at HLK.out HX.out.1) Try.underlying37 rfl refmsg_size ?_))
        refine (HMd.out _).mono ?_; rintro e w5 ⟨rfl, hb5⟩
        have HO5 := Hd.mk (HOf.out w5 hb5)
        have HR5 := Hd.mk (HR.out.call hb5)
        clear HOf hb5 HMd HR
        go_wp2_with fail
        refine HO5.out.mono ?_; rintro e w6 ⟨rfl, hbuf, hk⟩
        have HR6 := Hd.mk (HR5.out.keep hk hbuf)
        clear HO5 HR5 hk hbuf
        go_wp2_with (first | ((with_reducible refine gate_dst (N := 92) rfl ?_); refine wpList_load_mid rfl 37 _ rfl g (j * 22) rfl (msgC y).toList _ (HR6.out.at HLK.out HX.out.2) Try.underlying37 rfl refmsg_size ?_))
        refine (HMe.out _).mono ?_; rintro e w7 ⟨rfl, hb7⟩
        have HR7 := Hd.mk (HR6.out.call hb7)
        have HO7 := Hd.mk (HOg.out w7 HR7.out.buf)
        clear HOg hb7 HMe HR6
        go_wp2_with fail
        refine HO7.out.mono ?_; rintro e w8 ⟨rfl, hbuf, hk⟩
        have HR8 := Hd.mk (HR7.out.keep hk hbuf)
        clear HO7 HR7 hk hbuf hdj hdj2 f3 jn
        go_wp2_with fail
        go_roundg (n - 1 - i)
        case measure => exact run_measureN HKI.out HI2.out.2
        case rel => exact ⟨i2, by first | rfl | rw [f2], ⟨run_nextN HI2.out.2 HI2.out.1, HR8.out⟩⟩
      · have e1 : ¬ (i : Int) < (n : Int) := by omega
        have hin : lk.take i = lk := List.take_of_length_le (by have := HLK.out; omega)
        have HR9 := Hd.mk HR.out
        rw [hin] at HR9
        have HSe := Hd.mk (Seeing.begin HH.out.1 HPm.out)
        have HLn : Hd (0 + lk.length = n) := ⟨by rw [HLK.out, Nat.zero_add]⟩
        clear HR hin h1
        go_wp2_with fail
        go_loopg [14, 16] 100 (fun kq v14 v16 w' => ∃ k : Nat, v14 = .int .i64 (k : Int) ∧ v16 = .int .i64 (k : Int) ∧ Hd (kq + k = 100 ∧ ∃ s lb, Run w B p (.slice A9 n c9) lk s lb w' ∧ Seeing h (fun _ => false) s lb ∧ k + lb.length = n))
        case atStart => exact ⟨0, rfl, rfl, ⟨rfl, zero8, lk, HR9.out, HSe.out, HLn.out⟩⟩
        case round =>
          clear HR9 HSe HLn HKI
          obtain ⟨k, rfl, rfl, HRR⟩ := hrel
          obtain ⟨hkk, s, lb, hr, hs, hk⟩ := HRR.out
          have hn30 := HH.out.2.2
          have e3 : (k : Int) < 100 := by omega
          have HNx := Hd.mk (buf_Next _ p s lb (by omega) (fun m hm => HH.out.1.fine m ((hs.mem m).1 hm).1) _ hr.buf)
          obtain ⟨k2, hk2⟩ : ∃ k2 : Nat, k2 = k + 1 := ⟨_, rfl⟩
          have f1 : (k : Int) + 1 = (k2 : Int) := by omega
          have f2 := (wrap_nat (s := k2) (by omega)).1
          have HKK := Hd.mk (⟨hkk, hk2, show k < 100 by omega, hk⟩ : _ ∧ _ ∧ _ ∧ _)
          have HR := Hd.mk hr
          have HSe := Hd.mk hs
          clear hkk hk2 hk hr hs HRR hn30
          go_wp2_with fail
          refine HNx.out.mono ?_
          rintro e w7 ⟨hk7, ⟨hno, rfl, hbuf⟩ | ⟨m, hm, -, rfl, hbuf⟩⟩
          · have HR7 := Hd.mk (HR.out.keep hk7 hbuf)
            have hlb : lb = [] := Decidable.byContradiction fun hne => HSe.out.ready HH.out.1 hne hno
            subst hlb
            obtain rfl : k = n := by have := HKK.out.2.2.2; simpa using this
            clear HNx hk7 hbuf HR hno f1 f2
            go_upto_region 24 with (first | ((with_reducible refine gate_store (t := 34) rfl ?_); refine wpList_store_row rfl _ _ _ rfl w7.heap.size (msgC MsgV.zero) rfl rfl 34 _ (heap_alloc_new w7 _) msg_size rfl (msgC_one MsgV.zero) ?_))
            refine world_gen (fun W => Holds w7 [(w7.heap.size, .cells (msgC MsgV.zero) 34 (0, 0))] W) ((Holds.nil w7).made _ (msgC MsgV.zero) 34) (fun W8 hK => ?_)
            have HR8 := Hd.mk (HR7.out.call hK.2)
            clear hK HR7
            have HW := Hd.mk (wait_small _ p s [] (by decide) W8 HR8.out.buf)
            go_wp2_with fail
            refine HW.out.mono ?_; rintro e w9 ⟨v, rfl, hown, hb9⟩
            obtain ⟨A, cap, rfl⟩ := hown.slice
            have HB9 := Hd.mk (below_step HR8.out.bel hb9)
            clear hown hb9 HW HR8
            go_wp2_with fail
            go_ret
            exact ⟨by rfl, HB9.out⟩
          · obtain ⟨hst, hln⟩ := HSe.out.step HH.out.1 hm (by simp)
            have HR7 := Hd.mk (HR.out.keep hk7 hbuf)
            have HS7 := Hd.mk (⟨hst, run_one HKK.out.2.2.2 hln HKK.out.2.1⟩ : _ ∧ _)
            clear HNx hk7 hbuf HR hm hst hln
            generalize (lb.filter fun x => !sameM x m) = lf at *
            generalize upV s m.r.toNat = u at *
            go_upto_region 24 with (first | ((with_reducible refine gate_store (t := 34) rfl ?_); refine wpList_store_row rfl _ _ _ rfl w7.heap.size (msgC m) rfl rfl 34 _ (heap_alloc_new w7 _) msg_size rfl (msgC_one m) ?_))
            refine world_gen (fun W => Holds w7 [(w7.heap.size, .cells (msgC m) 34 (0, 0))] W) ((Holds.nil w7).made _ (msgC m) 34) (fun W8 hK => ?_)
            have HR8 := Hd.mk (HR7.out.call hK.2)
            clear hK HR7
            go_wp2_with fail
            go_roundg (99 - k)
            case measure => exact run_measure HKK.out.1 HKK.out.2.2.1
            case rel => exact ⟨k2, by first | rfl | rw [f2], by first | rfl | rw [f2], ⟨run_next HKK.out.2.2.1 HKK.out.2.1, u, lf, HR8.out, HS7.out.1, HS7.out.2⟩⟩
end Go.Proofs.Ytcgkkjfbdappoaa.causalAll
