/- Texts that belong together, in one. -/
import Derived.Test.YtcgkkjfbdappoaaGreatVecAll
import Derived.Test.YtcgkkjfbdappoaaGreatKeepAll
/- vector.May: its contract. -/
namespace Go.Proofs.YtcgkkjfbdappoaaGreat
open Go.RowKit Go.Proofs.YtcgkkjfbdappoaaGreatW.PrintWords Go.Proofs.YtcgkkjfbdappoaaGreatW.PrintLast Go.Proofs.YtcgkkjfbdappoaaGreatW.PrintMore
set_option linter.unusedVariables false
set_option linter.unusedSimpArgs false

/-- Whether a vector may be. -/
def mayV (v : List Int) : Bool := v.all fun x => decide (0 ≤ x) && decide (x ≤ 1073741824)
theorem mayV_cons (x : Int) (v : List Int) : mayV (x :: v) = ((decide (0 ≤ x) && decide (x ≤ 1073741824)) && mayV v) := rfl

set_option maxHeartbeats 1000000 in
set_option maxRecDepth 100000 in
theorem vec_May (v : List Int) (hv : v.length = 8) (w : World) :
    Calls Tryz.prog 7 #[.agg (vec v)] w fun e w' => e = .returned (.bool (mayV v)) ∧ Below w.heap.size w w' := by
  have H0 := Hd.mk (Holds.start1 w (.cells (vec v) 32))
  have HV := Hd.mk hv
  have S1 := Hd.mk (show (Tryz.prog.info? 32).map (·.size) = some (vec v).size by rw [vec_size, hv]; exact size_vec)
  clear hv
  go_enter Tryz.func7, Tryz.ntmps7
  go_upto_region 1 with (fail)
  generalize w.alloc (.cells (vec v) 32) = W at *
  go_wp2_with (first | ((with_reducible refine gate_load (t := 32) rfl ?_); refine wpList_load_row rfl _ _ rfl w.heap.size rfl 32 (vec v) (0, 0) _ (H0.out.get 0 rfl) Tryz.underlying32 rfl S1.out ?_))
  go_loopg [4, 6] 8 (fun kq v4 v6 w' => ∃ k : Nat, k ≤ 8 ∧ v6 = .int .i64 (k : Int) ∧ Hd (kq + k = 8) ∧ Hd (Below w.heap.size w w') ∧ Hd (mayV (v.drop k) = mayV v))
  case atStart => exact ⟨0, by omega, rfl, ⟨rfl⟩, ⟨H0.out.2⟩, ⟨rfl⟩⟩
  case round =>
    clear H0
    obtain ⟨k, hk, rfl, HK, HB, HM⟩ := hrel
    by_cases hlt : k < 8
    · obtain ⟨x, hx⟩ : ∃ x, v[k]? = some x := ⟨_, List.getElem?_eq_getElem (by rw [HV.out]; exact hlt)⟩
      have hix := index_vec HV.out hx
      have hd : v.drop k = x :: v.drop (k + 1) := by
        have h1 : k < v.length := by rw [HV.out]; exact hlt
        rw [List.drop_eq_getElem_cons h1]
        rw [List.getElem?_eq_getElem h1] at hx
        rw [Option.some.inj hx]
      have hm : mayV v = ((decide (0 ≤ x) && decide (x ≤ 1073741824)) && mayV (v.drop (k + 1))) := by rw [← HM.out, hd, mayV_cons]
      have HN := Hd.mk hm
      clear hx hd hm
      by_cases h0 : 0 ≤ x
      · have g0 : ¬ x < 0 := by omega
        by_cases h1 : x ≤ 1073741824
        · have g1 : ¬ 1073741824 < x := by omega
          have HQ := Hd.mk (show mayV (v.drop (k + 1)) = mayV v by rw [HN.out]; simp [h0, h1])
          clear HN
          go_wp2_with fail
          go_roundg (7 - k)
          case measure => have := HK.out; omega
          case rel => exact ⟨k + 1, by omega, by first | rfl | congr 1, ⟨by have := HK.out; omega⟩, HB, HQ⟩
        · have g1 : 1073741824 < x := by omega
          have HQ := Hd.mk (show mayV v = false by rw [HN.out]; simp [h0, h1])
          clear HN
          go_wp2_with fail
          go_ret
          exact ⟨by rw [HQ.out]; rfl, HB.out⟩
      · have g0 : x < 0 := by omega
        have HQ := Hd.mk (show mayV v = false by rw [HN.out]; simp [h0])
        clear HN
        go_wp2_with fail
        go_ret
        exact ⟨by rw [HQ.out]; rfl, HB.out⟩
    · obtain rfl : k = 8 := by omega
      have HQ := Hd.mk (show mayV v = true by rw [← HM.out, List.drop_eq_nil_of_le (by rw [HV.out]; omega)]; rfl)
      go_wp2_with fail
      go_ret
      exact ⟨by rw [HQ.out]; rfl, HB.out⟩
end Go.Proofs.YtcgkkjfbdappoaaGreat

/- vector's rep and Ready: their contracts. -/
namespace Go.Proofs.YtcgkkjfbdappoaaGreat
open Go.RowKit Go.Proofs.YtcgkkjfbdappoaaGreatW.PrintWords Go.Proofs.YtcgkkjfbdappoaaGreatW.PrintLast Go.Proofs.YtcgkkjfbdappoaaGreatW.PrintMore
set_option linter.unusedVariables false
set_option linter.unusedSimpArgs false

/-- Whether there is a replica. -/
def repV (n : Int) : Bool := decide (0 ≤ n) && decide (n < 8)
theorem vec_rep (n : Int) (w : World) : Calls Tryz.prog 57 #[.int .i64 n] w fun e w' => e = .returned (.bool (repV n)) ∧ Below w.heap.size w w' := by
  have hd : Hd (repV n = (decide (0 ≤ n) && decide (n < 8))) := ⟨rfl⟩
  by_cases h0 : 0 ≤ n
  · by_cases h1 : n < 8
    · have hr : repV n = true := by rw [hd.out]; simp [h0, h1]
      rw [hr]
      go_enter Tryz.func57, Tryz.ntmps57
      go_wp2
      go_ret
      exact ⟨rfl, Below.refl _ _⟩
    · have hr : repV n = false := by rw [hd.out]; simp [h0, h1]
      rw [hr]
      go_enter Tryz.func57, Tryz.ntmps57
      go_wp2
      go_ret
      exact ⟨rfl, Below.refl _ _⟩
  · have hr : repV n = false := by rw [hd.out]; simp [h0]
    have h0' : n < 0 := by omega
    rw [hr]
    go_enter Tryz.func57, Tryz.ntmps57
    go_wp2
    go_ret
    exact ⟨rfl, Below.refl _ _⟩

/-- A vector's number. -/
def nth (v : List Int) (n : Int) : Int := v.getD n.toNat 0
def readyV (v : List Int) (n seq : Int) (d : List Int) : Bool := repV n && decide (1 ≤ seq) && decide (nth v n = seq - 1) && decide (nth d n = seq - 1) && covL v d
theorem nth_at {v : List Int} {k : Nat} (hv : v.length = 8) (hk : k < 8) : v[k]? = some (nth v (k : Int)) := by
  unfold nth
  rw [Int.toNat_natCast, List.getD_eq_getElem?_getD, List.getElem?_eq_getElem (by omega)]; rfl

set_option maxHeartbeats 1000000 in
set_option maxRecDepth 100000 in
theorem vec_Ready (v d : List Int) (n seq : Int) (hs : seq ≤ 9223372036854775807) (hv : v.length = 8) (hd : d.length = 8) (w : World) :
    Calls Tryz.prog 28 #[.agg (vec v), .int .i64 n, .int .i64 seq, .agg (vec d)] w fun e w' => e = .returned (.bool (readyV v n seq d)) ∧ Below w.heap.size w w' := by
  have p1 : ((w.alloc (.cells (vec v) 32)).alloc (.cells (vec d) 32)).heap[w.heap.size]? = some (.cells (vec v) 32 (0, 0)) := heap_alloc2_old _ _ _
  have p2 : ((w.alloc (.cells (vec v) 32)).alloc (.cells (vec d) 32)).heap[w.heap.size + 1]? = some (.cells (vec d) 32 (0, 0)) := heap_alloc2_new _ _ _
  have pb : Below w.heap.size w ((w.alloc (.cells (vec v) 32)).alloc (.cells (vec d) 32)) := ((Below.refl _ _).alloc (Nat.le_refl _) _).alloc (by simp) _
  have PC := Hd.mk (⟨p1, p2, pb⟩ : _ ∧ _ ∧ _)
  have HR := Hd.mk (vec_rep n)
  have HC := Hd.mk (vec_Covers v d hv hd)
  have sa : (Tryz.prog.info? 32).map (·.size) = some (vec v).size := by rw [vec_size, hv]; exact size_vec
  have sb : (Tryz.prog.info? 32).map (·.size) = some (vec d).size := by rw [vec_size, hd]; exact size_vec
  have Sa := Hd.mk sa
  have Sb := Hd.mk sb
  have hdef : Hd (readyV v n seq d = (repV n && decide (1 ≤ seq) && decide (nth v n = seq - 1) && decide (nth d n = seq - 1) && covL v d)) := ⟨rfl⟩
  clear p1 p2 pb sa sb
  rcases hr : repV n with _ | _
  · rw [hr] at HR hdef
    have he : readyV v n seq d = false := by rw [hdef.out]; rfl
    rw [he]
    clear hdef he hr
    go_enter Tryz.func28, Tryz.ntmps28
    go_upto_region 1 with (fail)
    generalize (w.alloc (.cells (vec v) 32)).alloc (.cells (vec d) 32) = W at *
    go_wp2_with fail
    refine (HR.out _).mono ?_; rintro e w1 ⟨rfl, h1⟩
    go_wp2_with fail
    go_ret
    exact ⟨rfl, below_step PC.out.2.2 h1⟩
  · have hn : 0 ≤ n ∧ n < 8 := by unfold repV at hr; simpa using hr
    obtain ⟨k, rfl⟩ : ∃ k : Nat, n = (k : Int) := ⟨n.toNat, by omega⟩
    have hk : k < 8 := by omega
    have vk := nth_at hv hk
    have dk := nth_at hd hk
    have hn1 : 0 ≤ (k : Int) := by omega
    have hn2 : (k : Int) < 8 := by omega
    rw [hr] at HR hdef
    generalize nth v (k : Int) = x at vk hdef
    generalize nth d (k : Int) = y at dk hdef
    have VK := Hd.mk (vec_at vk)
    have DK := Hd.mk (vec_at dk)
    clear vk dk hr hn hv hd
    by_cases h1 : 1 ≤ seq
    · have g1 : ¬ seq < 1 := by omega
      have hw : wrap64 (seq - 1) = seq - 1 := by unfold wrap64; omega
      by_cases h2 : x = seq - 1
      · by_cases h3 : y = seq - 1
        · have he : readyV v (k : Int) seq d = covL v d := by rw [hdef.out]; simp [h1, h2, h3]
          rw [he]
          clear hdef he
          go_enter Tryz.func28, Tryz.ntmps28
          go_upto_region 1 with (fail)
          generalize (w.alloc (.cells (vec v) 32)).alloc (.cells (vec d) 32) = W at *
          go_wp2_with fail
          refine (HR.out _).mono ?_; rintro e w1 ⟨rfl, h4⟩
          have PD := Hd.mk (⟨(h4.block _ (Array.getElem?_eq_some_iff.1 PC.out.1).1).trans PC.out.1, (h4.block _ (Array.getElem?_eq_some_iff.1 PC.out.2.1).1).trans PC.out.2.1, below_step PC.out.2.2 h4⟩ : _ ∧ _ ∧ _)
          have c1 : w1.cell? ⟨w.heap.size, k, none⟩ = some (.int .i64 x) := by rw [cell_of_row w1 _ k _ _ _ PD.out.1]; exact VK.out
          have c2 : w1.cell? ⟨w.heap.size + 1, k, none⟩ = some (.int .i64 y) := by rw [cell_of_row w1 _ k _ _ _ PD.out.2.1]; exact DK.out
          clear PC h4
          go_wp2_with (first | ((with_reducible refine gate_dst (N := 32) rfl ?_); refine wpList_load_row rfl 32 _ rfl w.heap.size rfl 32 (vec v) (0, 0) _ PD.out.1 Tryz.underlying32 rfl Sa.out ?_) | ((with_reducible refine gate_dst (N := 33) rfl ?_); refine wpList_load_row rfl 32 _ rfl (w.heap.size + 1) rfl 32 (vec d) (0, 0) _ PD.out.2.1 Tryz.underlying32 rfl Sb.out ?_))
          refine (HC.out _).mono ?_; rintro e w2 ⟨rfl, h5⟩
          go_wp2_with fail
          go_ret
          exact ⟨rfl, below_step PD.out.2.2 h5⟩
        · have he : readyV v (k : Int) seq d = false := by rw [hdef.out]; simp [h1, h2, h3]
          have h3b : (y != seq - 1) = true := by simpa using h3
          rw [he]
          clear hdef he
          go_enter Tryz.func28, Tryz.ntmps28
          go_upto_region 1 with (fail)
          generalize (w.alloc (.cells (vec v) 32)).alloc (.cells (vec d) 32) = W at *
          go_wp2_with fail
          refine (HR.out _).mono ?_; rintro e w1 ⟨rfl, h4⟩
          have PD := Hd.mk (⟨(h4.block _ (Array.getElem?_eq_some_iff.1 PC.out.1).1).trans PC.out.1, (h4.block _ (Array.getElem?_eq_some_iff.1 PC.out.2.1).1).trans PC.out.2.1, below_step PC.out.2.2 h4⟩ : _ ∧ _ ∧ _)
          have c1 : w1.cell? ⟨w.heap.size, k, none⟩ = some (.int .i64 x) := by rw [cell_of_row w1 _ k _ _ _ PD.out.1]; exact VK.out
          have c2 : w1.cell? ⟨w.heap.size + 1, k, none⟩ = some (.int .i64 y) := by rw [cell_of_row w1 _ k _ _ _ PD.out.2.1]; exact DK.out
          clear PC h4
          go_wp2_with fail
          go_ret
          exact ⟨rfl, PD.out.2.2⟩
      · have he : readyV v (k : Int) seq d = false := by rw [hdef.out]; simp [h1, h2]
        rw [he]
        clear hdef he
        go_enter Tryz.func28, Tryz.ntmps28
        go_upto_region 1 with (fail)
        generalize (w.alloc (.cells (vec v) 32)).alloc (.cells (vec d) 32) = W at *
        go_wp2_with fail
        refine (HR.out _).mono ?_; rintro e w1 ⟨rfl, h4⟩
        have PD := Hd.mk (⟨(h4.block _ (Array.getElem?_eq_some_iff.1 PC.out.1).1).trans PC.out.1, below_step PC.out.2.2 h4⟩ : _ ∧ _)
        have c1 : w1.cell? ⟨w.heap.size, k, none⟩ = some (.int .i64 x) := by rw [cell_of_row w1 _ k _ _ _ PD.out.1]; exact VK.out
        clear PC h4
        go_wp2_with fail
        go_ret
        exact ⟨rfl, PD.out.2⟩
    · have he : readyV v (k : Int) seq d = false := by rw [hdef.out]; simp [h1]
      have g1 : seq < 1 := by omega
      rw [he]
      clear hdef he
      go_enter Tryz.func28, Tryz.ntmps28
      go_upto_region 1 with (fail)
      generalize (w.alloc (.cells (vec v) 32)).alloc (.cells (vec d) 32) = W at *
      go_wp2_with fail
      refine (HR.out _).mono ?_; rintro e w1 ⟨rfl, h4⟩
      go_wp2_with fail
      go_ret
      exact ⟨rfl, below_step PC.out.2.2 h4⟩
end Go.Proofs.YtcgkkjfbdappoaaGreat

/- vector.Tick: its contract. -/
namespace Go.Proofs.YtcgkkjfbdappoaaGreat
open Go.RowKit Go.Proofs.YtcgkkjfbdappoaaGreatW.PrintWords Go.Proofs.YtcgkkjfbdappoaaGreatW.PrintLast Go.Proofs.YtcgkkjfbdappoaaGreatW.PrintMore
set_option linter.unusedVariables false
set_option linter.unusedSimpArgs false

theorem run_store_row {P : Program} {o : Oper} {ρ : Operand → Value} {w : World} (ty : TypeId) (x y : Operand) (ho : o.op = .store ty x y)
    (g : Nat) (cells : Array Value) (hx : ρ x = .pointer (some ⟨g, 0, none⟩)) (hy : ρ y = .agg cells)
    (t : TypeId) (old : Array Value) (hg : w.heap[g]? = some (.cells old t (0, 0))) (hi : (P.info? ty).map (·.size) = some cells.size)
    (hold : old.size = cells.size) (h1 : cells.all (·.oneCell') = true) : (execOp ρ o).run P w = .ok .skip (w.setRow g cells) := by
  unfold execOp
  simp only [ho, hx, hy, Instr.storeAt, Instr.sureAddr, Sem.run_bind, Sem.run_pure, Result.andThen_ok, run_storeVar_row w g t ty old cells hg hi hold h1]

theorem Holds_cell {w : World} {l : List (Nat × Obj)} {w' : World} {q : Nat} {cs : Array Value} {t : TypeId} (h : Holds w ((q, .cells cs t (0, 0)) :: l) w') (i : Nat) (x : Value) (hq : w.heap.size ≤ q) (hl : ∀ p ∈ l, p.1 ≠ q) : Holds w ((q, .cells (cs.setIfInBounds i x) t (0, 0)) :: l) (w'.setCell ⟨q, i, none⟩ x) := by
  refine ⟨fun p hp => ?_, h.2.setCell hq _⟩
  rcases List.mem_cons.1 hp with rfl | hp
  · exact heap_setCell_same _ _ _ _ _ _ (h.get 0 rfl)
  · exact (heap_setCell_other _ _ _ _ (by simpa using hl p hp)).trans (h.1 p (List.mem_cons_of_mem _ hp))

/-- One more of a replica that there is. -/
def upV (v : List Int) (k : Nat) : List Int := v.set k (wrap64 (nth v k + 1))
theorem upV_len (v : List Int) (k : Nat) : (upV v k).length = v.length := by simp [upV]
theorem results_cell_tmp {P : Program} {fn : Func} {p q : Tmp} {ty : TypeId} (h : fn.results = #[.cell p ty, .tmp q]) (tmps : Array Value) (w : World) (g : Nat) (t : TypeId) (cs : Array Value) (fr : Nat × Nat) (d : TypeDesc)
    (hp : tmps.getD p undef = .pointer (some ⟨g, 0, none⟩)) (hg : w.heap[g]? = some (.cells cs t fr))
    (hu : P.underlying ty = some d) (hd : (match d with | .struct _ | .array _ _ => true | _ => false) = true) (hi : (P.info? ty).map (·.size) = some cs.size) :
    (results fn tmps).run P w = .ok (.tuple #[.agg cs, tmps.getD q undef]) w := by
  have hp' : tmps[p]?.getD undef = .pointer (some ⟨g, 0, none⟩) := by simpa using hp
  simp [results, h, hp', asAddr, run_loadVar_row w g t ty cs fr d hg hu hd hi]

set_option maxHeartbeats 1000000 in
set_option maxRecDepth 100000 in
/-- No such replica: the vector itself, and 0. -/
theorem vec_Tick_off (v : List Int) (n : Int) (hv : v.length = 8) (hr : repV n = false) (w : World) :
    Calls Tryz.prog 32 #[.agg (vec v), .int .i64 n] w fun e w' => e = .returned (.tuple #[.agg (vec v), .int .i64 0]) ∧ Below w.heap.size w w' := by
  have H0 := Hd.mk (Holds.start2 w (.cells (vec v) 32) (.cells (vec zero8) 32))
  have S1 := Hd.mk (show (Tryz.prog.info? 32).map (·.size) = some (vec v).size by rw [vec_size, hv]; exact size_vec)
  have S2 := Hd.mk (show (vec zero8).size = (vec v).size by rw [vec_size, vec_size, hv]; rfl)
  have HR := Hd.mk (vec_rep n)
  rw [hr] at HR
  have hz := zeroVec
  clear hv hr
  go_enter Tryz.func32, Tryz.ntmps32
  go_upto_region 1 with (fail)
  clear hz
  generalize (w.alloc (.cells (vec v) 32)).alloc (.cells (vec zero8) 32) = W at *
  go_wp2_with fail
  refine (HR.out _).mono ?_; rintro e w1 ⟨rfl, h1⟩
  have H1 := Hd.mk (H0.out.call h1)
  clear H0 h1
  go_wp2_with (first | ((with_reducible refine gate_load (t := 32) rfl ?_); refine wpList_load_row rfl _ _ rfl w.heap.size rfl 32 (vec v) (0, 0) _ (H1.out.get 1 rfl) Tryz.underlying32 rfl S1.out ?_) | ((with_reducible refine gate_store (t := 32) rfl ?_); refine wpList_store_row rfl _ _ _ rfl (w.heap.size + 1) (vec v) rfl rfl 32 (vec zero8) (H1.out.get 0 rfl) S1.out S2.out (vec_one _) ?_))
  exact bodyPost_ret (results_cell_tmp (p := 4) (q := 5) rfl _ _ (w.heap.size + 1) 32 (vec v) (0, 0) _ rfl (setRow_heap _ _ _ _ _ _ (H1.out.get 0 rfl)) Tryz.underlying32 rfl S1.out) rfl ⟨rfl, below_setRow H1.out.2 (by omega) _⟩

set_option maxHeartbeats 1000000 in
set_option maxRecDepth 100000 in
/-- One more. -/
theorem vec_Tick (v : List Int) (k : Nat) (hk : k < 8) (hv : v.length = 8) (w : World) :
    Calls Tryz.prog 32 #[.agg (vec v), .int .i64 (k : Int)] w fun e w' => e = .returned (.tuple #[.agg (vec (upV v k)), .int .i64 (wrap64 (nth v k + 1))]) ∧ Below w.heap.size w w' := by
  have H0 := Hd.mk (Holds.start2 w (.cells (vec v) 32) (.cells (vec zero8) 32))
  have S1 := Hd.mk (show (Tryz.prog.info? 32).map (·.size) = some (vec (upV v k)).size by rw [vec_size, upV_len, hv]; exact size_vec)
  have S2 := Hd.mk (show (vec zero8).size = (vec (upV v k)).size by rw [vec_size, vec_size, upV_len, hv]; rfl)
  have HR := Hd.mk (vec_rep k)
  have hr : repV k = true := by unfold repV; simp; omega
  rw [hr] at HR
  have hz := zeroVec
  have hn1 : 0 ≤ (k : Int) := by omega
  have hn2 : (k : Int) < 8 := by omega
  have HX := Hd.mk (vec_at (nth_at hv hk))
  have HU : Hd ((vec v).setIfInBounds k (.int .i64 (wrap64 (nth v k + 1))) = vec (upV v k)) := ⟨vec_set _ _ _⟩
  have HY : Hd ((vec (upV v k))[k]? = some (.int .i64 (wrap64 (nth v k + 1)))) := ⟨vec_at (by unfold upV; rw [List.getElem?_set_self (by omega)])⟩
  clear hv hr
  generalize nth v (k : Int) = x at *
  generalize upV v k = u at *
  go_enter Tryz.func32, Tryz.ntmps32
  go_upto_region 1 with (fail)
  clear hz
  generalize (w.alloc (.cells (vec v) 32)).alloc (.cells (vec zero8) 32) = W at *
  go_wp2_with fail
  refine (HR.out _).mono ?_; rintro e w1 ⟨rfl, h1⟩
  have H1 := Hd.mk (H0.out.call h1)
  clear H0 h1
  have hcx : w1.cell? ⟨w.heap.size, k, none⟩ = some (.int .i64 x) := by rw [cell_of_row w1 _ k _ _ _ (H1.out.get 1 rfl)]; exact HX.out
  have hfz : w1.frozen? ⟨w.heap.size, k, none⟩ = false := frozen_of_row w1 _ k _ _ (H1.out.get 1 rfl)
  have hlt : w.heap.size < w1.heap.size := H1.out.lt 1 rfl
  go_upto_region 4 with (fail)
  have H2 : Hd (Holds w [(w.heap.size + 1, .cells (vec zero8) 32 (0, 0)), (w.heap.size, .cells (vec u) 32 (0, 0))] (w1.setCell ⟨w.heap.size, k, none⟩ (.int .i64 (wrap64 (x + 1))))) := by
    refine ⟨fun p hp => ?_, H1.out.2.setCell (Nat.le_refl _) _⟩
    rcases List.mem_cons.1 hp with rfl | hp
    · exact (heap_setCell_other _ _ _ _ (by simp)).trans (H1.out.get 0 rfl)
    · obtain rfl := List.mem_singleton.1 hp
      show _ = some (Obj.cells (vec u) _ _)
      rw [← HU.out]
      exact heap_setCell_same _ _ _ _ _ _ (H1.out.get 1 rfl)
  clear H1 hcx hfz hlt
  generalize w1.setCell ⟨w.heap.size, k, none⟩ (.int .i64 (wrap64 (x + 1))) = W2 at *
  refine st_ 6 (S := fun W_ => w.heap.size < W_.heap.size ∧ W_.heap[w.heap.size]? = some (.cells (vec u) 32 (0, 0))) (ds := []) (⟨H2.out.lt 1 rfl, H2.out.get 1 rfl⟩) (fun hHeld => ?_)
  refine tk_ 0 (some 15) (.agg (vec u)) rfl (fun w' h => run_load_row 32 _ rfl w.heap.size rfl 32 _ _ _ h.2 Tryz.underlying32 rfl S1.out) hHeld ?_
  refine pu_ 1 (some 16) ?_
  refine pu_ 2 (some 17) ?_
  refine tk_ 3 (some 18) (.int .i64 (wrap64 (x + 1))) rfl (fun w' h => by have hc : w'.cell? ⟨w.heap.size, k, none⟩ = some (.int .i64 (wrap64 (x + 1))) := (by rw [cell_of_row w' _ k _ _ _ h.2]; exact HY.out); go_simp) hHeld ?_
  refine one_ (i := 4) (N := none) #[true, true, true, true, true, false] rfl rfl (by kernel_rfl) (by decide) (fun K hK => ?_)
  refine skip_ (by rfl) rfl (run_store_row _ _ _ rfl (w.heap.size + 1) (vec u) rfl rfl 32 (vec zero8) (H2.out.drew.get 0 rfl) S1.out S2.out (vec_one _)) ?_
  refine hK.out _ _ (⟨by simpa using hHeld.1, (setRow_other _ _ _ _ (by omega)).trans hHeld.2⟩) (fun hHeld => ?_)
  clear hK K
  refine pu_ 5 (some 5) ?_
  refine done_ (by kernel_rfl) ?_
  go_wp2_with fail
  exact bodyPost_ret (results_cell_tmp (p := 4) (q := 5) rfl _ _ (w.heap.size + 1) 32 (vec u) (0, 0) _ rfl (setRow_heap _ _ _ _ _ _ (H2.out.drew.get 0 rfl)) Tryz.underlying32 rfl S1.out) rfl ⟨rfl, below_setRow H2.out.drew.2 (by omega) _⟩
end Go.Proofs.YtcgkkjfbdappoaaGreat
