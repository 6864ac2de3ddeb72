/- The law CausalLost: the walk. -/
import Derived.Test.YtcgkkjfbdappoaaCauMiss
import Derived.Test.YtcgkkjfbdappoaaIterAll
import Derived.Test.YtcgkkjfbdappoaaCausalAll
namespace Go.Proofs.Ytcgkkjfbdappoaa.causalLost
open Go.RowKit Go.Proofs.YtcgkkjfbdappoaaW.PrintWords Go.Proofs.YtcgkkjfbdappoaaW.PrintLast Go.Proofs.YtcgkkjfbdappoaaW.PrintMore
open Go.Proofs.Ytcgkkjfbdappoaa.causalOnce (refmsg_size)
open Go.Proofs.Ytcgkkjfbdappoaa.causalAll (run_measure run_next run_measureN run_nextN run_one)
set_option linter.unusedVariables false
set_option linter.unusedSimpArgs false

theorem run_oneL {k k2 n a b : Nat} (h : k + a + 1 = n) (hl : b + 1 = a) (h2 : k2 = k + 1) : k2 + b + 1 = n := by omega
theorem lt_round {i : Nat} (h : (i : Int) < 100) : i < 100 := by omega
theorem le_one {i j i2 j2 : Nat} (h : i ≤ j) (h1 : i2 = i + 1) (h2 : j2 = j + 1) : i2 ≤ j2 := by omega
theorem dep_cell {w : World} {b : Nat} {m : MsgV} (hb : w.heap[b]? = some (.cells (msgC m) 34 (0, 0))) {rr : Nat} (h8 : rr < 8) : w.cell? ⟨b, 1 + rr, none⟩ = some (.int .i64 (nth m.deps (rr : Int))) := by
  have h1 := nth_at m.deps_len h8
  refine (range_ofC hb 1 (vec m.deps).toList (msg_deps m)) rr _ ?_
  have h2 := vec_at h1
  simpa using h2
set_option maxHeartbeats 4000000 in
set_option maxRecDepth 100000 in
theorem law_CausalLost {Ao As : Option Addr} {co cs : Nat} {lo : List OpV} {ls : List UInt8} {vo vs : Value} {w : World} (ho : InOps w vo Ao co lo) (hs : InBytes w vs As cs ls) (a : Int) (ha : 0 ≤ a ∧ a < 256) : Calls Try.prog 5 #[vo, vs, .int .u8 a] w fun e w' => e = .returned (.bool true) ∧ Below w.heap.size w w' := by
  obtain ⟨u, rfl⟩ : ∃ u : Nat, a = (u : Int) := ⟨a.toNat, by omega⟩
  have hu : u < 256 := by omega
  have HA := Hd.mk (⟨ho, hs, hu⟩ : _ ∧ _ ∧ _)
  have HS := Hd.mk (cau_shown w)
  have HN := Hd.mk (fun w => cau_New zero8 rfl (by kernel_rfl) w)
  clear ho hs hu ha
  go_enter Try.func5, Try.ntmps5
  go_wp2_with fail
  refine HS.out.mono ?_; rintro e w1 ⟨rfl, hb1⟩
  have HB1 := Hd.mk hb1
  have HHi := Hd.mk (cau_history w1 vo vs Ao As co cs lo ls (HA.out.1.keep hb1) (HA.out.2.1.keep hb1) ref_May17)
  clear HS hb1
  go_wp2_with fail
  refine HHi.out.mono ?_; rintro e w2 ⟨v8, h, rfl, hown, hist, hsm, hlen, hb2⟩
  obtain ⟨A8, c8, rfl⟩ := hown.slice
  have HB2 := Hd.mk (below_step HB1.out hb2)
  have HH := Hd.mk (⟨hist, hsm, hlen⟩ : _ ∧ _ ∧ _)
  have HOw := Hd.mk hown
  generalize hn : h.length = n at *
  have HL := Hd.mk hn
  clear hown hb2 hist hsm hlen HHi HB1 hn
  go_wp2_with (first | ((with_reducible refine gate_dst (N := 24) rfl ?_); refine wpList_buildB rfl _ _ rfl #[] rfl (.agg (vec zero8)) (run_build _ _ _ _ (by kernel_rfl)) ?_))
  refine (HN.out _).mono ?_; rintro e w4 ⟨p, rfl, hN⟩
  have HR := Hd.mk (Run.start HB2.out HOw.out hN)
  clear HOw hN HN HB2
  generalize w2.heap.size = B at *
  by_cases h0 : n = 0
  · have e0 : (n : Int) = 0 := by omega
    go_wp2_with fail
    go_ret
    exact ⟨by rfl, HR.out.bel⟩
  · have e0 : ¬ (n : Int) = 0 := by omega
    have en : ((n : Int) == 0) = false := by simpa using h0
    have hn0 : 0 < n := by omega
    obtain ⟨k, hk⟩ : ∃ k : Nat, k = u % n := ⟨_, rfl⟩
    have hkn : k < n := hk ▸ Nat.mod_lt _ hn0
    have htk : Int.tmod (u : Int) (n : Int) = (k : Int) := by rw [hk]; rfl
    have htk2 : (u : Int) % (n : Int) = (k : Int) := by rw [hk]; rfl
    have wu := (wrap_nat (s := u) (by have := HA.out.2.2; omega)).1
    obtain ⟨x0, hx0⟩ : ∃ x, h[k]? = some x := ⟨_, List.getElem?_eq_getElem (by rw [HL.out]; exact hkn)⟩
    have HK := Hd.mk (⟨hx0, List.mem_of_getElem? hx0, hkn⟩ : _ ∧ _ ∧ _)
    obtain ⟨g, cap, hE, -⟩ := HR.out.own.lit (fun e => by subst e; simp at hx0)
    rw [HL.out] at hE
    cases hE
    clear hk hx0 hkn hn0
    go_wp2_with fail
    clear htk htk2 wu e0
    go_loopg [11] n (fun kq v11 w' => ∃ i : Nat, v11 = .int .i64 (i : Int) ∧ Hd (kq + i = n ∧ Run w B p (.slice (some ⟨g, 0, none⟩) n c8) h zero8 (butM x0 (h.take i)) w'))
    case atStart => exact ⟨0, rfl, ⟨Nat.add_zero _, by rw [butM_nil]; exact HR.out⟩⟩
    case round =>
      clear HR
      obtain ⟨i, rfl, HRR⟩ := hrel
      obtain ⟨hki, hr⟩ := HRR.out
      have HR := Hd.mk hr
      have HKI := Hd.mk hki
      clear hr hki HRR
      by_cases h1 : i < n
      · have e1 : (i : Int) < (n : Int) := by omega
        obtain ⟨i2, hi2⟩ : ∃ i2 : Nat, i2 = i + 1 := ⟨_, rfl⟩
        have f1 : (i : Int) + 1 = (i2 : Int) := by omega
        have h30 := HH.out.2.2
        have f2 := (wrap_nat (s := i2) (by omega)).1
        have HI2 := Hd.mk (⟨hi2, h1⟩ : _ ∧ _)
        by_cases hik : i = k
        · subst hik
          have hsk := miss_skip HK.out.1
          rw [← hi2] at hsk
          rw [hsk] at HR
          clear hi2 h30 hsk
          go_wp2_with fail
          go_roundg (n - 1 - i)
          case measure => exact run_measureN HKI.out HI2.out.2
          case rel => exact ⟨i2, by first | rfl | rw [f2], ⟨run_nextN HI2.out.2 HI2.out.1, HR.out⟩⟩
        · have eik : ¬ (i : Int) = (k : Int) := by omega
          obtain ⟨x, hx⟩ : ∃ x, h[i]? = some x := ⟨_, List.getElem?_eq_getElem (by rw [HL.out]; exact h1)⟩
          obtain ⟨o1, o2⟩ := miss_first HH.out.1 HK.out.1 hx hik
          have hxm := List.mem_of_getElem? hx
          have hl1 : (butM x0 (h.take i)).length ≤ 50000000000 := Nat.le_trans (List.length_filter_le _ _) (by rw [List.length_take]; omega)
          have HMd := Hd.mk (fun w => (msg_made x w : Calls Try.prog 9 #[.agg (msgC x)] w fun e w' => e = .returned (.agg (msgC x)) ∧ Below w.heap.size w w'))
          have HOf := Hd.mk (fun w' (hb : Below wr.heap.size wr w') => buf_Offer _ p zero8 (butM x0 (h.take i)) x (HH.out.2.1 x hxm) hl1 w' (HR.out.call hb).buf)
          rw [o1, if_pos rfl, o2, ← hi2] at HOf
          have HX := Hd.mk hx
          clear o1 o2 hl1 hxm hx hi2 h30
          go_wp2_with (first | ((with_reducible refine gate_dst (N := 56) rfl ?_); refine wpList_load_mid rfl 37 _ rfl g (i * 22) rfl (msgC x).toList _ (HR.out.at HL.out HX.out) Try.underlying37 rfl refmsg_size ?_))
          refine (HMd.out _).mono ?_; rintro e w5 ⟨rfl, hb5⟩
          have HO5 := Hd.mk (HOf.out w5 hb5)
          have HR5 := Hd.mk (HR.out.call hb5)
          clear HOf hb5 HMd HR
          go_wp2_with fail
          refine HO5.out.mono ?_; rintro e w6 ⟨rfl, hbuf, hk⟩
          have HR6 := Hd.mk (HR5.out.keep hk hbuf)
          clear HO5 HR5 hk hbuf
          go_wp2_with fail
          go_roundg (n - 1 - i)
          case measure => exact run_measureN HKI.out HI2.out.2
          case rel => exact ⟨i2, by first | rfl | rw [f2], ⟨run_nextN HI2.out.2 HI2.out.1, HR6.out⟩⟩
      · have e1 : ¬ (i : Int) < (n : Int) := by omega
        have hin : h.take i = h := List.take_of_length_le (by have := HL.out; omega)
        have HR9 := Hd.mk HR.out
        rw [hin] at HR9
        obtain ⟨m1, m2⟩ := Miss.begin HH.out.1 HK.out.2.1
        rw [HL.out] at m2
        have HM9 := Hd.mk m1
        have HLn : Hd (0 + (butM x0 h).length + 1 = n) := ⟨by rw [Nat.zero_add]; exact m2⟩
        clear HR hin h1 m1 m2
        go_wp2_with fail
        obtain ⟨rr, h8, hrr, -⟩ := fine_known (HH.out.1.fine x0 HK.out.2.1)
        have HRp := Hd.mk (⟨h8, hrr⟩ : _ ∧ _)
        clear h8 hrr
        go_loopg [12, 13] 100 (fun kq v12 v13 w' => ∃ j : Nat, v12 = .int .i64 (j : Int) ∧ v13 = .int .i64 (j : Int) ∧ Hd (kq + j = 100 ∧ ∃ s lb, Run w B p (.slice (some ⟨g, 0, none⟩) n c8) h s lb w' ∧ Miss h x0 s lb ∧ j + lb.length + 1 = n))
        case atStart => exact ⟨0, rfl, rfl, ⟨rfl, zero8, _, HR9.out, HM9.out, HLn.out⟩⟩
        case round =>
          clear HR9 HM9 HLn HKI
          obtain ⟨j, rfl, rfl, HRR⟩ := hrel
          obtain ⟨hkk, s, lb, hr, hs, hj⟩ := HRR.out
          have hn30 := HH.out.2.2
          have e3 : (j : Int) < 100 := by omega
          have HNx := Hd.mk (buf_Next _ p s lb (by omega) (fun m hm => HH.out.1.fine m ((hs.see.mem m).1 hm).1) _ hr.buf)
          obtain ⟨j2, hj2⟩ : ∃ j2 : Nat, j2 = j + 1 := ⟨_, rfl⟩
          have f1 : (j : Int) + 1 = (j2 : Int) := by omega
          have f2 := (wrap_nat (s := j2) (by omega)).1
          have HKK := Hd.mk (⟨hkk, hj2, show j < 100 by omega, hj⟩ : _ ∧ _ ∧ _ ∧ _)
          have HR := Hd.mk hr
          have HM := Hd.mk hs
          clear hkk hj2 hj hr hs HRR hn30
          go_wp2_with fail
          refine HNx.out.mono ?_
          rintro e w7 ⟨hk7, ⟨hno, rfl, hbuf⟩ | ⟨m, hm, -, rfl, hbuf⟩⟩
          · have HR7 := Hd.mk (HR.out.keep hk7 hbuf)
            clear HNx hk7 hbuf HR hno f1 f2
            go_upto_region 17 with (first | ((with_reducible refine gate_store (t := 34) rfl ?_); refine wpList_store_row rfl _ _ _ rfl w7.heap.size (msgC MsgV.zero) rfl rfl 34 _ (heap_alloc_new w7 _) msg_size rfl (msgC_one MsgV.zero) ?_))
            refine world_gen (fun W => Holds w7 [(w7.heap.size, .cells (msgC MsgV.zero) 34 (0, 0))] W) ((Holds.nil w7).made _ (msgC MsgV.zero) 34) (fun W8 hK => ?_)
            have HR8 := Hd.mk (HR7.out.call hK.2)
            clear hK HR7
            obtain ⟨o1, o2⟩ := HM.out.comes HH.out.1 HK.out.2.1
            have hl1 : lb.length ≤ 50000000000 := by have := HKK.out.2.2.2; have := HH.out.2.2; omega
            have HMd := Hd.mk (fun w => (msg_made x0 w : Calls Try.prog 9 #[.agg (msgC x0)] w fun e w' => e = .returned (.agg (msgC x0)) ∧ Below w.heap.size w w'))
            have HOf := Hd.mk (fun w' (hb : Below W8.heap.size W8 w') => buf_Offer _ p s lb x0 (HH.out.2.1 x0 HK.out.2.1) hl1 w' (HR8.out.call hb).buf)
            rw [o1, if_pos rfl] at HOf
            have HSe := Hd.mk o2
            have HLn : Hd (j + (lb ++ [x0]).length = n) := ⟨by rw [len1]; have := HKK.out.2.2.2; omega⟩
            clear o1 o2 hl1
            have kn : (k : Int) < (n : Int) := by have := HK.out.2.2; omega
            go_wp2_with (first | ((with_reducible refine gate_dst (N := 92) rfl ?_); refine wpList_load_mid rfl 37 _ rfl g (k * 22) rfl (msgC x0).toList _ (HR8.out.at HL.out HK.out.1) Try.underlying37 rfl refmsg_size ?_))
            refine (HMd.out _).mono ?_; rintro e w9 ⟨rfl, hb9⟩
            have HO9 := Hd.mk (HOf.out w9 hb9)
            have HR9 := Hd.mk (HR8.out.call hb9)
            clear HOf hb9 HMd HR8
            go_wp2_with fail
            refine HO9.out.mono ?_; rintro e wa ⟨rfl, hbuf, hk⟩
            have HRa := Hd.mk (HR9.out.keep hk hbuf)
            clear HO9 HR9 hk hbuf kn HKK HM
            generalize lb ++ [x0] = lc at *
            go_wp2_with fail
            go_loopg [12, 17] 100 (fun kq v12 v17 w' => ∃ j i : Nat, v12 = .int .i64 (j : Int) ∧ v17 = .int .i64 (i : Int) ∧ Hd (kq + i = 100 ∧ i ≤ j ∧ ∃ s lb, Run w B p (.slice (some ⟨g, 0, none⟩) n c8) h s lb w' ∧ Seeing h (fun _ => false) s lb ∧ j + lb.length = n))
            case atStart => exact ⟨j, 0, rfl, rfl, ⟨rfl, Nat.zero_le _, s, lc, HRa.out, HSe.out, HLn.out⟩⟩
            case round =>
              clear HRa HSe HLn
              obtain ⟨j, i, rfl, rfl, HRR⟩ := hrel
              obtain ⟨hkk, hij, s, lb, hr, hs, hj⟩ := HRR.out
              have hn30 := HH.out.2.2
              have e3 : (i : Int) < 100 := by omega
              have HNx := Hd.mk (buf_Next _ p s lb (by omega) (fun m hm => HH.out.1.fine m ((hs.mem m).1 hm).1) _ hr.buf)
              obtain ⟨j2, hj2⟩ : ∃ j2 : Nat, j2 = j + 1 := ⟨_, rfl⟩
              obtain ⟨i2, hi2⟩ : ∃ i2 : Nat, i2 = i + 1 := ⟨_, rfl⟩
              have f1 : (j : Int) + 1 = (j2 : Int) := by omega
              have f2 := (wrap_nat (s := j2) (by omega)).1
              have f3 : (i : Int) + 1 = (i2 : Int) := by omega
              have f4 := (wrap_nat (s := i2) (by omega)).1
              have HKK := Hd.mk (⟨hkk, hj2, lt_round e3, hj, hi2, le_one hij hi2 hj2⟩ : _ ∧ _ ∧ _ ∧ _ ∧ _ ∧ _)
              have HR := Hd.mk hr
              have HSe := Hd.mk hs
              clear hkk hj2 hi2 hij hj hr hs HRR hn30
              go_wp2_with fail
              refine HNx.out.mono ?_
              rintro e w7 ⟨hk7, ⟨hno, rfl, hbuf⟩ | ⟨m, hm, -, rfl, hbuf⟩⟩
              · have HR7 := Hd.mk (HR.out.keep hk7 hbuf)
                have hlb : lb = [] := Decidable.byContradiction fun hne => HSe.out.ready HH.out.1 hne hno
                subst hlb
                obtain rfl : j = n := by have := HKK.out.2.2.2.1; simpa using this
                clear HNx hk7 hbuf HR hno f1 f2 f3 f4
                go_upto_region 26 with (first | ((with_reducible refine gate_store (t := 34) rfl ?_); refine wpList_store_row rfl _ _ _ rfl w7.heap.size (msgC MsgV.zero) rfl rfl 34 _ (heap_alloc_new w7 _) msg_size rfl (msgC_one MsgV.zero) ?_))
                refine world_gen (fun W => Holds w7 [(w7.heap.size, .cells (msgC MsgV.zero) 34 (0, 0))] W) ((Holds.nil w7).made _ (msgC MsgV.zero) 34) (fun W8 hK => ?_)
                have HR8 := Hd.mk (HR7.out.call hK.2)
                clear hK HR7
                have HW := Hd.mk (wait_small _ p s [] (by decide) W8 HR8.out.buf)
                go_wp2_with fail
                refine HW.out.mono ?_; rintro e w9 ⟨v, rfl, hown, hb9⟩
                obtain ⟨A, cap, rfl⟩ := hown.slice
                have HB9 := Hd.mk (below_step HR8.out.bel hb9)
                clear hown hb9 HW HR8
                go_wp2_with fail
                go_ret
                exact ⟨by rfl, HB9.out⟩
              · obtain ⟨hst, hln⟩ := HSe.out.step HH.out.1 hm (by simp)
                have HR7 := Hd.mk (HR.out.keep hk7 hbuf)
                have HS7 := Hd.mk (⟨hst, run_one HKK.out.2.2.2.1 hln HKK.out.2.1⟩ : _ ∧ _)
                clear HNx hk7 hbuf HR hm hst hln
                generalize (lb.filter fun x => !sameM x m) = lf at *
                generalize upV s m.r.toNat = u at *
                go_upto_region 26 with (first | ((with_reducible refine gate_store (t := 34) rfl ?_); refine wpList_store_row rfl _ _ _ rfl w7.heap.size (msgC m) rfl rfl 34 _ (heap_alloc_new w7 _) msg_size rfl (msgC_one m) ?_))
                refine world_gen (fun W => Holds w7 [(w7.heap.size, .cells (msgC m) 34 (0, 0))] W) ((Holds.nil w7).made _ (msgC m) 34) (fun W8 hK => ?_)
                have HR8 := Hd.mk (HR7.out.call hK.2)
                clear hK HR7
                go_wp2_with fail
                go_roundg (99 - i)
                case measure => exact run_measure HKK.out.1 HKK.out.2.2.1
                case rel => exact ⟨j2, i2, by first | rfl | rw [f2], by first | rfl | rw [f4], ⟨run_next HKK.out.2.2.1 HKK.out.2.2.2.2.1, HKK.out.2.2.2.2.2, u, lf, HR8.out, HS7.out.1, HS7.out.2⟩⟩
          · have hdp := (HM.out.step HH.out.1 HK.out.2.1 hm)
            have HR7 := Hd.mk (HR.out.keep hk7 hbuf)
            have HS7 := Hd.mk (⟨hdp.1, run_oneL HKK.out.2.2.2 hdp.2.1 HKK.out.2.1⟩ : _ ∧ _)
            obtain ⟨d, hd⟩ : ∃ d, d = nth m.deps (rr : Int) := ⟨_, rfl⟩
            have hge : ¬ x0.q ≤ d := by have := hdp.2.2; rw [HRp.out.2] at this; omega
            have hge2 : decide (x0.q ≤ d) = false := decide_eq_false hge
            have HD := Hd.mk hd
            clear HNx hk7 hbuf HR hm hdp hd
            generalize (lb.filter fun x => !sameM x m) = lf at *
            generalize upV s m.r.toNat = u2 at *
            go_upto_region 17 with (first | ((with_reducible refine gate_store (t := 34) rfl ?_); refine wpList_store_row rfl _ _ _ rfl w7.heap.size (msgC m) rfl rfl 34 _ (heap_alloc_new w7 _) msg_size rfl (msgC_one m) ?_))
            refine world_gen (fun W => Holds w7 [(w7.heap.size, .cells (msgC m) 34 (0, 0))] W) ((Holds.nil w7).made _ (msgC m) 34) (fun W8 hK => ?_)
            have HR8 := Hd.mk (HR7.out.call hK.2)
            have HM8 := Hd.mk (hK.get 0 rfl)
            clear hK HR7
            generalize w7.heap.size = b14 at *
            go_upto_region 18 with (fail)
            have kn : (k : Int) < (n : Int) := by have := HK.out.2.2; omega
            have k0 := Int.natCast_nonneg k
            have hg8 : (rr : Int) < 8 := by have := HRp.out.1; omega
            have hg9 := Int.natCast_nonneg rr
            have hg0 : decide ((rr : Int) < 0) = false := decide_eq_false (by omega)
            have hg7 : decide ((7 : Int) < (rr : Int)) = false := decide_eq_false (by omega)
            refine start_ (n := 16) (S := fun W_ => Below W8.heap.size W8 W_) (ds := []) #[false, false, false, false, false, false, false, false, false, false, false, false, false, false, false, false] (by kernel_rfl) rfl rfl ((Below.refl _ _).drew) (fun hHeld => ?_)
            refine pure_ (i := 0) (N := some 70) (v := ?_) (a' := ?_) #[true, false, false, false, false, false, false, false, false, false, false, false, false, false, false, false] rfl rfl (by kernel_rfl) (fun _ _ _ h => h) (Or.inl ⟨by rfl, ?_⟩) ?_ ?_
            rotate_left
            · intro w_
              go_simp
              try with_reducible rfl
            rotate_left
            · simp only [Act.put, List.setIfInBounds_toArray, List.set_cons_zero, List.set_cons_succ]
              rfl
            refine pure_ (i := 1) (N := some 71) (v := ?_) (a' := ?_) #[true, true, false, false, false, false, false, false, false, false, false, false, false, false, false, false] rfl rfl (by kernel_rfl) (fun _ _ _ h => h) (Or.inl ⟨by rfl, ?_⟩) ?_ ?_
            rotate_left
            · intro w_
              go_simp
              try with_reducible rfl
            rotate_left
            · simp only [Act.put, List.setIfInBounds_toArray, List.set_cons_zero, List.set_cons_succ]
              rfl
            refine pure_ (i := 2) (N := some 72) (v := ?_) (a' := ?_) #[true, true, true, false, false, false, false, false, false, false, false, false, false, false, false, false] rfl rfl (by kernel_rfl) (fun _ _ _ h => h) (Or.inl ⟨by rfl, ?_⟩) ?_ ?_
            rotate_left
            · intro w_
              go_simp
              try with_reducible rfl
            rotate_left
            · simp only [Act.put, List.setIfInBounds_toArray, List.set_cons_zero, List.set_cons_succ]
              rfl
            refine pure_ (i := 3) (N := some 73) (v := ?_) (a' := ?_) #[true, true, true, true, false, false, false, false, false, false, false, false, false, false, false, false] rfl rfl (by kernel_rfl) (fun _ _ _ h => h) (Or.inl ⟨by rfl, ?_⟩) ?_ ?_
            rotate_left
            · intro w_
              go_simp
              try with_reducible rfl
            rotate_left
            · simp only [Act.put, List.setIfInBounds_toArray, List.set_cons_zero, List.set_cons_succ]
              rfl
            refine pure_ (i := 4) (N := some 74) (v := ?_) (a' := ?_) #[true, true, true, true, true, false, false, false, false, false, false, false, false, false, false, false] rfl rfl (by kernel_rfl) (fun _ _ _ h => h) (Or.inl ⟨by rfl, ?_⟩) ?_ ?_
            rotate_left
            · intro w_
              go_simp
              try with_reducible rfl
            rotate_left
            · simp only [Act.put, List.setIfInBounds_toArray, List.set_cons_zero, List.set_cons_succ]
              rfl
            refine pure_ (i := 5) (N := some 75) (v := ?_) (a' := ?_) #[true, true, true, true, true, true, false, false, false, false, false, false, false, false, false, false] rfl rfl (by kernel_rfl) (fun _ _ _ h => h) (Or.inl ⟨by rfl, ?_⟩) ?_ ?_
            rotate_left
            · intro w_
              go_simp
              try with_reducible rfl
            rotate_left
            · simp only [Act.put, List.setIfInBounds_toArray, List.set_cons_zero, List.set_cons_succ]
              rfl
            refine take_ (i := 6) (N := some 76) (v := .int .i64 (rr : Int)) (a' := ?_) #[true, true, true, true, true, true, true, false, false, false, false, false, false, false, false, false] rfl rfl (by kernel_rfl) (fun _ _ _ h => h) (Or.inl ⟨by rfl, fun w' h => by have c := ((HR8.out.call h).cell HL.out HK.out.1).2; rw [HRp.out.2] at c; go_simp⟩) hHeld ?_ ?_
            rotate_left
            · simp only [Act.put, List.setIfInBounds_toArray, List.set_cons_zero, List.set_cons_succ]
              rfl
            refine pure_ (i := 7) (N := some 77) (v := ?_) (a' := ?_) #[true, true, true, true, true, true, true, true, false, false, false, false, false, false, false, false] rfl rfl (by kernel_rfl) (fun _ _ _ h => h) (Or.inl ⟨by rfl, ?_⟩) ?_ ?_
            rotate_left
            · intro w_
              go_simp
              try with_reducible rfl
            rotate_left
            · simp only [Act.put, List.setIfInBounds_toArray, List.set_cons_zero, List.set_cons_succ]
              rfl
            refine pure_ (i := 8) (N := some 78) (v := ?_) (a' := ?_) #[true, true, true, true, true, true, true, true, true, false, false, false, false, false, false, false] rfl rfl (by kernel_rfl) (fun _ _ _ h => h) (Or.inl ⟨by rfl, ?_⟩) ?_ ?_
            rotate_left
            · intro w_
              go_simp
              try with_reducible rfl
            rotate_left
            · simp only [Act.put, List.setIfInBounds_toArray, List.set_cons_zero, List.set_cons_succ]
              rfl
            refine take_ (i := 9) (N := some 79) (v := .int .i64 d) (a' := ?_) #[true, true, true, true, true, true, true, true, true, true, false, false, false, false, false, false] rfl rfl (by kernel_rfl) (fun _ _ _ h => h) (Or.inl ⟨by rfl, fun w' h => by have c := dep_cell ((h.block b14 (lt_of HM8.out)).trans HM8.out) HRp.out.1; rw [← HD.out] at c; go_simp⟩) hHeld ?_ ?_
            rotate_left
            · simp only [Act.put, List.setIfInBounds_toArray, List.set_cons_zero, List.set_cons_succ]
              rfl
            refine pure_ (i := 10) (N := some 80) (v := ?_) (a' := ?_) #[true, true, true, true, true, true, true, true, true, true, true, false, false, false, false, false] rfl rfl (by kernel_rfl) (fun _ _ _ h => h) (Or.inl ⟨by rfl, ?_⟩) ?_ ?_
            rotate_left
            · intro w_
              go_simp
              try with_reducible rfl
            rotate_left
            · simp only [Act.put, List.setIfInBounds_toArray, List.set_cons_zero, List.set_cons_succ]
              rfl
            refine pure_ (i := 11) (N := some 81) (v := ?_) (a' := ?_) #[true, true, true, true, true, true, true, true, true, true, true, true, false, false, false, false] rfl rfl (by kernel_rfl) (fun _ _ _ h => h) (Or.inl ⟨by rfl, ?_⟩) ?_ ?_
            rotate_left
            · intro w_
              go_simp
              try with_reducible rfl
            rotate_left
            · simp only [Act.put, List.setIfInBounds_toArray, List.set_cons_zero, List.set_cons_succ]
              rfl
            refine pure_ (i := 12) (N := some 82) (v := ?_) (a' := ?_) #[true, true, true, true, true, true, true, true, true, true, true, true, true, false, false, false] rfl rfl (by kernel_rfl) (fun _ _ _ h => h) (Or.inl ⟨by rfl, ?_⟩) ?_ ?_
            rotate_left
            · intro w_
              go_simp
              try with_reducible rfl
            rotate_left
            · simp only [Act.put, List.setIfInBounds_toArray, List.set_cons_zero, List.set_cons_succ]
              rfl
            refine pure_ (i := 13) (N := some 83) (v := ?_) (a' := ?_) #[true, true, true, true, true, true, true, true, true, true, true, true, true, true, false, false] rfl rfl (by kernel_rfl) (fun _ _ _ h => h) (Or.inl ⟨by rfl, ?_⟩) ?_ ?_
            rotate_left
            · intro w_
              go_simp
              try with_reducible rfl
            rotate_left
            · simp only [Act.put, List.setIfInBounds_toArray, List.set_cons_zero, List.set_cons_succ]
              rfl
            refine take_ (i := 14) (N := some 84) (v := .int .i64 x0.q) (a' := ?_) #[true, true, true, true, true, true, true, true, true, true, true, true, true, true, true, false] rfl rfl (by kernel_rfl) (fun _ _ _ h => h) (Or.inl ⟨by rfl, fun w' h => by have c := ((HR8.out.call h).cell HL.out HK.out.1).1; go_simp⟩) hHeld ?_ ?_
            rotate_left
            · simp only [Act.put, List.setIfInBounds_toArray, List.set_cons_zero, List.set_cons_succ]
              rfl
            refine pure_ (i := 15) (N := some 85) (v := ?_) (a' := ?_) #[true, true, true, true, true, true, true, true, true, true, true, true, true, true, true, true] rfl rfl (by kernel_rfl) (fun _ _ _ h => h) (Or.inl ⟨by rfl, ?_⟩) ?_ ?_
            rotate_left
            · intro w_
              go_simp
              try with_reducible rfl
            rotate_left
            · simp only [Act.put, List.setIfInBounds_toArray, List.set_cons_zero, List.set_cons_succ]
              rfl
            refine done_ (by kernel_rfl) ?_
            have HR9 := Hd.mk (HR8.out.call hHeld)
            clear hHeld HR8 HM8 HD hge hge2 hg0 hg7 hg8 hg9 k0 kn
            go_wp2_with fail
            go_roundg (99 - j)
            case measure => exact run_measure HKK.out.1 HKK.out.2.2.1
            case rel => exact ⟨j2, by first | rfl | rw [f2], by first | rfl | rw [f2], ⟨run_next HKK.out.2.2.1 HKK.out.2.1, u2, lf, HR9.out, HS7.out.1, HS7.out.2⟩⟩
end Go.Proofs.Ytcgkkjfbdappoaa.causalLost
