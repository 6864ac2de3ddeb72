/- vector's rep and Ready: their contracts. -/
import Derived.Test.YtfcopeecgbgljaaVecCovers
namespace Go.Proofs.Ytfcopeecgbgljaa
open Go.RowKit Go.Proofs.YtfcopeecgbgljaaW.PrintWords Go.Proofs.YtfcopeecgbgljaaW.PrintLast Go.Proofs.YtfcopeecgbgljaaW.PrintMore
set_option linter.unusedVariables false
set_option linter.unusedSimpArgs false

/-- Whether there is a replica. -/
def repB (n : Int) : Bool := decide (0 ≤ n) && decide (n < 8)
theorem vec_rep (n : Int) (w : World) : Calls Try.prog 46 #[.int .i64 n] w fun e w' => e = .returned (.bool (repB n)) ∧ Below w.heap.size w w' := by
  have hd : Hd (repB n = (decide (0 ≤ n) && decide (n < 8))) := ⟨rfl⟩
  by_cases h0 : 0 ≤ n
  · by_cases h1 : n < 8
    · have hr : repB n = true := by rw [hd.out]; simp [h0, h1]
      rw [hr]
      go_enter Try.func46, Try.ntmps46
      go_wp2
      go_ret
      exact ⟨rfl, Below.refl _ _⟩
    · have hr : repB n = false := by rw [hd.out]; simp [h0, h1]
      rw [hr]
      go_enter Try.func46, Try.ntmps46
      go_wp2
      go_ret
      exact ⟨rfl, Below.refl _ _⟩
  · have hr : repB n = false := by rw [hd.out]; simp [h0]
    have h0' : n < 0 := by omega
    rw [hr]
    go_enter Try.func46, Try.ntmps46
    go_wp2
    go_ret
    exact ⟨rfl, Below.refl _ _⟩

/-- A vector's number. -/
def nth (v : List Int) (n : Int) : Int := v.getD n.toNat 0
def readyV (v : List Int) (n seq : Int) (d : List Int) : Bool := repB n && decide (1 ≤ seq) && decide (nth v n = seq - 1) && decide (nth d n = seq - 1) && covL v d
theorem nth_at {v : List Int} {k : Nat} (hv : v.length = 8) (hk : k < 8) : v[k]? = some (nth v (k : Int)) := by
  unfold nth
  rw [Int.toNat_natCast, List.getD_eq_getElem?_getD, List.getElem?_eq_getElem (by omega)]; rfl

set_option maxHeartbeats 1000000 in
set_option maxRecDepth 100000 in
theorem vec_Ready (v d : List Int) (n seq : Int) (hs : seq ≤ 9223372036854775807) (hv : v.length = 8) (hd : d.length = 8) (w : World) :
    Calls Try.prog 20 #[.agg (vec v), .int .i64 n, .int .i64 seq, .agg (vec d)] w fun e w' => e = .returned (.bool (readyV v n seq d)) ∧ Below w.heap.size w w' := by
  have p1 : ((w.alloc (.cells (vec v) 24)).alloc (.cells (vec d) 24)).heap[w.heap.size]? = some (.cells (vec v) 24 (0, 0)) := heap_alloc2_old _ _ _
  have p2 : ((w.alloc (.cells (vec v) 24)).alloc (.cells (vec d) 24)).heap[w.heap.size + 1]? = some (.cells (vec d) 24 (0, 0)) := heap_alloc2_new _ _ _
  have pb : Below w.heap.size w ((w.alloc (.cells (vec v) 24)).alloc (.cells (vec d) 24)) := ((Below.refl _ _).alloc (Nat.le_refl _) _).alloc (by simp) _
  have PC := Hd.mk (⟨p1, p2, pb⟩ : _ ∧ _ ∧ _)
  have HR := Hd.mk (vec_rep n)
  have HC := Hd.mk (vec_Covers v d hv hd)
  have sa : (Try.prog.info? 24).map (·.size) = some (vec v).size := by rw [vec_size, hv]; exact size_vec
  have sb : (Try.prog.info? 24).map (·.size) = some (vec d).size := by rw [vec_size, hd]; exact size_vec
  have Sa := Hd.mk sa
  have Sb := Hd.mk sb
  have hdef : Hd (readyV v n seq d = (repB n && decide (1 ≤ seq) && decide (nth v n = seq - 1) && decide (nth d n = seq - 1) && covL v d)) := ⟨rfl⟩
  clear p1 p2 pb sa sb
  rcases hr : repB n with _ | _
  · rw [hr] at HR hdef
    have he : readyV v n seq d = false := by rw [hdef.out]; rfl
    rw [he]
    clear hdef he hr
    go_enter Try.func20, Try.ntmps20
    go_upto_region 1 with (fail)
    generalize (w.alloc (.cells (vec v) 24)).alloc (.cells (vec d) 24) = W at *
    go_wp2_with fail
    refine (HR.out _).mono ?_; rintro e w1 ⟨rfl, h1⟩
    go_wp2_with fail
    go_ret
    exact ⟨rfl, below_step PC.out.2.2 h1⟩
  · have hn : 0 ≤ n ∧ n < 8 := by unfold repB at hr; simpa using hr
    obtain ⟨k, rfl⟩ : ∃ k : Nat, n = (k : Int) := ⟨n.toNat, by omega⟩
    have hk : k < 8 := by omega
    have vk := nth_at hv hk
    have dk := nth_at hd hk
    have hn1 : 0 ≤ (k : Int) := by omega
    have hn2 : (k : Int) < 8 := by omega
    rw [hr] at HR hdef
    generalize nth v (k : Int) = x at vk hdef
    generalize nth d (k : Int) = y at dk hdef
    have VK := Hd.mk (vec_at vk)
    have DK := Hd.mk (vec_at dk)
    clear vk dk hr hn hv hd
    by_cases h1 : 1 ≤ seq
    · have g1 : ¬ seq < 1 := by omega
      have hw : wrap64 (seq - 1) = seq - 1 := by unfold wrap64; omega
      by_cases h2 : x = seq - 1
      · by_cases h3 : y = seq - 1
        · have he : readyV v (k : Int) seq d = covL v d := by rw [hdef.out]; simp [h1, h2, h3]
          rw [he]
          clear hdef he
          go_enter Try.func20, Try.ntmps20
          go_upto_region 1 with (fail)
          generalize (w.alloc (.cells (vec v) 24)).alloc (.cells (vec d) 24) = W at *
          go_wp2_with fail
          refine (HR.out _).mono ?_; rintro e w1 ⟨rfl, h4⟩
          have PD := Hd.mk (⟨(h4.block _ (Array.getElem?_eq_some_iff.1 PC.out.1).1).trans PC.out.1, (h4.block _ (Array.getElem?_eq_some_iff.1 PC.out.2.1).1).trans PC.out.2.1, below_step PC.out.2.2 h4⟩ : _ ∧ _ ∧ _)
          have c1 : w1.cell? ⟨w.heap.size, k, none⟩ = some (.int .i64 x) := by rw [cell_of_row w1 _ k _ _ _ PD.out.1]; exact VK.out
          have c2 : w1.cell? ⟨w.heap.size + 1, k, none⟩ = some (.int .i64 y) := by rw [cell_of_row w1 _ k _ _ _ PD.out.2.1]; exact DK.out
          clear PC h4
          go_wp2_with (first | ((with_reducible refine gate_dst (N := 32) rfl ?_); refine wpList_load_row rfl 24 _ rfl w.heap.size rfl 24 (vec v) (0, 0) _ PD.out.1 Try.underlying24 rfl Sa.out ?_) | ((with_reducible refine gate_dst (N := 33) rfl ?_); refine wpList_load_row rfl 24 _ rfl (w.heap.size + 1) rfl 24 (vec d) (0, 0) _ PD.out.2.1 Try.underlying24 rfl Sb.out ?_))
          refine (HC.out _).mono ?_; rintro e w2 ⟨rfl, h5⟩
          go_wp2_with fail
          go_ret
          exact ⟨rfl, below_step PD.out.2.2 h5⟩
        · have he : readyV v (k : Int) seq d = false := by rw [hdef.out]; simp [h1, h2, h3]
          have h3b : (y != seq - 1) = true := by simpa using h3
          rw [he]
          clear hdef he
          go_enter Try.func20, Try.ntmps20
          go_upto_region 1 with (fail)
          generalize (w.alloc (.cells (vec v) 24)).alloc (.cells (vec d) 24) = W at *
          go_wp2_with fail
          refine (HR.out _).mono ?_; rintro e w1 ⟨rfl, h4⟩
          have PD := Hd.mk (⟨(h4.block _ (Array.getElem?_eq_some_iff.1 PC.out.1).1).trans PC.out.1, (h4.block _ (Array.getElem?_eq_some_iff.1 PC.out.2.1).1).trans PC.out.2.1, below_step PC.out.2.2 h4⟩ : _ ∧ _ ∧ _)
          have c1 : w1.cell? ⟨w.heap.size, k, none⟩ = some (.int .i64 x) := by rw [cell_of_row w1 _ k _ _ _ PD.out.1]; exact VK.out
          have c2 : w1.cell? ⟨w.heap.size + 1, k, none⟩ = some (.int .i64 y) := by rw [cell_of_row w1 _ k _ _ _ PD.out.2.1]; exact DK.out
          clear PC h4
          go_wp2_with fail
          go_ret
          exact ⟨rfl, PD.out.2.2⟩
      · have he : readyV v (k : Int) seq d = false := by rw [hdef.out]; simp [h1, h2]
        rw [he]
        clear hdef he
        go_enter Try.func20, Try.ntmps20
        go_upto_region 1 with (fail)
        generalize (w.alloc (.cells (vec v) 24)).alloc (.cells (vec d) 24) = W at *
        go_wp2_with fail
        refine (HR.out _).mono ?_; rintro e w1 ⟨rfl, h4⟩
        have PD := Hd.mk (⟨(h4.block _ (Array.getElem?_eq_some_iff.1 PC.out.1).1).trans PC.out.1, below_step PC.out.2.2 h4⟩ : _ ∧ _)
        have c1 : w1.cell? ⟨w.heap.size, k, none⟩ = some (.int .i64 x) := by rw [cell_of_row w1 _ k _ _ _ PD.out.1]; exact VK.out
        clear PC h4
        go_wp2_with fail
        go_ret
        exact ⟨rfl, PD.out.2⟩
    · have he : readyV v (k : Int) seq d = false := by rw [hdef.out]; simp [h1]
      have g1 : seq < 1 := by omega
      rw [he]
      clear hdef he
      go_enter Try.func20, Try.ntmps20
      go_upto_region 1 with (fail)
      generalize (w.alloc (.cells (vec v) 24)).alloc (.cells (vec d) 24) = W at *
      go_wp2_with fail
      refine (HR.out _).mono ?_; rintro e w1 ⟨rfl, h4⟩
      go_wp2_with fail
      go_ret
      exact ⟨rfl, below_step PC.out.2.2 h4⟩
end Go.Proofs.Ytfcopeecgbgljaa
