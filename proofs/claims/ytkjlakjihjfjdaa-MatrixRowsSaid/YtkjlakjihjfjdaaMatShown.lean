/- matrix: Tell, whatever is told; thimblelaw18.shown: true. -/
import Derived.Test.YtkjlakjihjfjdaaMatStab
namespace Go.Proofs.Ytkjlakjihjfjdaa
open Go.RowKit Go.Proofs.YtkjlakjihjfjdaaW.PrintWords Go.Proofs.YtkjlakjihjfjdaaW.PrintLast Go.Proofs.YtkjlakjihjfjdaaW.PrintMore
set_option linter.unusedVariables false
set_option linter.unusedSimpArgs false

/-- Whether what is told is taken. -/
def takes (n rep : Int) (r : List Int) : Bool := inM n rep && mayV r
/-- The rows behind what is told. -/
def told (n : Int) (L : List Int) (rep : Int) (r : List Int) : List Int := if takes n rep r then tellM L rep.toNat r else L
theorem told_len {n : Int} {L : List Int} {rep : Int} {r : List Int} (hL : L.length = 72) (hn : n ≤ 8) (hr : r.length = 9) : (told n L rep r).length = 72 := by
  unfold told
  split
  · rename_i h
    simp [takes, inM] at h
    exact tellM_len hL (by omega) hr
  · exact hL
theorem But.ofBelow {b : Nat} {w w' : World} (h : Below w.heap.size w w') : But b w w' := ⟨h.os, h.tape, h.output, h.size, fun k hk _ => h.block k hk⟩
theorem mat_TellG {b : Nat} {n : Int} {L r : List Int} {w : World} (h : MatIs b n L w) (hL : L.length = 72) (hn : n ≤ 8) (rep : Int) (hr : r.length = 9) :
    Calls Try.prog 24 #[.pointer (some ⟨b, 0, none⟩), .int .i64 rep, .agg (vec r)] w fun e w' => e = .returned (.bool (takes n rep r)) ∧ But b w w' ∧ MatIs b n (told n L rep r) w' := by
  unfold told
  cases hq : takes n rep r with
  | false =>
    refine (mat_Tell_off h rep hr (by unfold takes at hq; cases h1 : inM n rep <;> simp_all)).mono ?_
    rintro e w' ⟨rfl, hb⟩
    exact ⟨rfl, But.ofBelow hb, (hb.block _ (Array.getElem?_eq_some_iff.1 h).1).trans h⟩
  | true =>
    have hq2 := hq
    simp [takes, inM] at hq2
    obtain ⟨k, rfl⟩ : ∃ k : Nat, rep = (k : Int) := ⟨rep.toNat, by omega⟩
    refine (mat_Tell h hL k hq2.1.2 (by omega) hr hq2.2).mono ?_
    rintro e w' ⟨rfl, hb, hm⟩
    exact ⟨rfl, hb, by simpa using hm⟩
theorem MH.new {w : World} {l : List (Nat × Obj)} {n : Int} {L : List Int} {W W' : World} (h : Holds w l W) (hn : NewHolds W W.heap.size (.cells (vec (n :: L)) 98 (0, 0)) [] W') : MH w l W.heap.size n L W' :=
  ⟨h.call hn.1.2, hn.1.get 0 rfl, fun p hp => Nat.ne_of_lt (Array.getElem?_eq_some_iff.1 (h.1 p hp)).1, h.2.size⟩

theorem build_vec1 (x : Int) (w : World) : (Instr.build 35 #[(0, .int .i64 x)]).run Try.prog w = .ok (.agg (vec [x, 0, 0, 0, 0, 0, 0, 0])) w := run_build w _ _ _ (by kernel_rfl)
theorem shown_stab1 : stabM 2 (told 2 zero72 0 [1, 0, 0, 0, 0, 0, 0, 0, 4]) = 0 := stabM_bad ⟨1, 0, by omega, by omega, by decide⟩
theorem shown_stab2 : stabM 2 (told 2 (told 2 zero72 0 [1, 0, 0, 0, 0, 0, 0, 0, 4]) 1 [1, 0, 0, 0, 0, 0, 0, 0, 7]) = 4 := by
  rw [stabM_good]
  · decide
  · rintro ⟨i, k, hi, hk, h⟩
    have hi2 : i = 0 ∨ i = 1 := by omega
    have hk2 : k = 0 ∨ k = 1 := by omega
    rcases hi2 with rfl | rfl <;> rcases hk2 with rfl | rfl <;> exact absurd h (by decide)

set_option maxHeartbeats 2000000 in
set_option maxRecDepth 100000 in
theorem mat_shown (w : World) : Calls Try.prog 20 #[] w fun e w' => e = .returned (.bool true) ∧ Below w.heap.size w w' := by
  have HN := Hd.mk (mat_New 2 (by omega) (by omega))
  have e1 := Hd.mk shown_stab1
  have e2 := Hd.mk shown_stab2
  have l1 : Hd ((told 2 zero72 0 [1, 0, 0, 0, 0, 0, 0, 0, 4]).length = 72) := ⟨told_len rfl (by omega) rfl⟩
  have l2 : Hd ((told 2 (told 2 zero72 0 [1, 0, 0, 0, 0, 0, 0, 0, 4]) 1 [1, 0, 0, 0, 0, 0, 0, 0, 7]).length = 72) := ⟨told_len l1.out (by omega) rfl⟩
  have b1 : takes 2 0 [1, 0, 0, 0, 0, 0, 0, 0, 4] = true := by decide
  have b2 : takes 2 1 [1, 0, 0, 0, 0, 0, 0, 0, 7] = true := by decide
  have b3 : takes 2 2 zero9 = false := by decide
  have HT1 := Hd.mk (fun (w' : World) (b : Nat) (h : MatIs b 2 zero72 w') => mat_TellG h rfl (by omega) 0 (r := [1, 0, 0, 0, 0, 0, 0, 0, 4]) rfl)
  rw [b1] at HT1
  generalize told 2 zero72 0 [1, 0, 0, 0, 0, 0, 0, 0, 4] = L1 at *
  have HT2 := Hd.mk (fun (w' : World) (b : Nat) (h : MatIs b 2 L1 w') => mat_TellG h l1.out (by omega) 1 (r := [1, 0, 0, 0, 0, 0, 0, 0, 7]) rfl)
  rw [b2] at HT2
  generalize told 2 L1 1 [1, 0, 0, 0, 0, 0, 0, 0, 7] = L2 at *
  have HS1 := Hd.mk (fun (w' : World) (b : Nat) (h : MatIs b 2 L1 w') => mat_Stable (n := 2) h l1.out (by omega) (by omega))
  rw [e1.out] at HS1
  have HS2 := Hd.mk (fun (w' : World) (b : Nat) (h : MatIs b 2 L2 w') => mat_Stable (n := 2) h l2.out (by omega) (by omega))
  rw [e2.out] at HS2
  have HT3 := Hd.mk (fun (w' : World) (b : Nat) (h : MatIs b 2 L2 w') => mat_Tell_off h 2 (r := zero9) rfl (Or.inl (by decide)))
  clear b1 b2 b3 e1 e2 l1 l2
  go_enter Try.func20, Try.ntmps20
  go_wp2_with fail
  refine (HN.out _).mono ?_; rintro e w1 ⟨rfl, h1⟩
  have H1 := Hd.mk (MH.new (Holds.nil w) h1)
  generalize w.heap.size = b at H1 ⊢
  clear h1 HN
  go_wp2_with (first | ((with_reducible refine gate_dst (N := 7) rfl ?_); refine wpList_build rfl _ _ rfl #[(0, .int .i64 1)] (by simp only [List.map_toArray, List.map_cons, List.map_nil]; rfl) _ (build_vec1 1 _) ?_) | ((with_reducible refine gate_dst (N := 8) rfl ?_); refine wpList_build rfl _ _ rfl #[(0, .agg (vec [1, 0, 0, 0, 0, 0, 0, 0])), (1, .int .i64 4)] (by simp only [List.map_toArray, List.map_cons, List.map_nil]; rfl) _ (build_row rfl 4 _) ?_) | ((with_reducible refine gate_dst (N := 13) rfl ?_); refine wpList_build rfl _ _ rfl #[(0, .int .i64 1)] (by simp only [List.map_toArray, List.map_cons, List.map_nil]; rfl) _ (build_vec1 1 _) ?_) | ((with_reducible refine gate_dst (N := 14) rfl ?_); refine wpList_build rfl _ _ rfl #[(0, .agg (vec [1, 0, 0, 0, 0, 0, 0, 0])), (1, .int .i64 7)] (by simp only [List.map_toArray, List.map_cons, List.map_nil]; rfl) _ (build_row rfl 7 _) ?_))
  refine (HT1.out _ _ H1.out.mat).mono ?_; rintro e w2 ⟨rfl, h2, h2'⟩
  have H2 := Hd.mk (H1.out.tell h2 h2')
  clear H1 HT1 h2 h2'
  go_wp2_with (first | ((with_reducible refine gate_dst (N := 7) rfl ?_); refine wpList_build rfl _ _ rfl #[(0, .int .i64 1)] (by simp only [List.map_toArray, List.map_cons, List.map_nil]; rfl) _ (build_vec1 1 _) ?_) | ((with_reducible refine gate_dst (N := 8) rfl ?_); refine wpList_build rfl _ _ rfl #[(0, .agg (vec [1, 0, 0, 0, 0, 0, 0, 0])), (1, .int .i64 4)] (by simp only [List.map_toArray, List.map_cons, List.map_nil]; rfl) _ (build_row rfl 4 _) ?_) | ((with_reducible refine gate_dst (N := 13) rfl ?_); refine wpList_build rfl _ _ rfl #[(0, .int .i64 1)] (by simp only [List.map_toArray, List.map_cons, List.map_nil]; rfl) _ (build_vec1 1 _) ?_) | ((with_reducible refine gate_dst (N := 14) rfl ?_); refine wpList_build rfl _ _ rfl #[(0, .agg (vec [1, 0, 0, 0, 0, 0, 0, 0])), (1, .int .i64 7)] (by simp only [List.map_toArray, List.map_cons, List.map_nil]; rfl) _ (build_row rfl 7 _) ?_))
  refine (HS1.out _ _ H2.out.mat).mono ?_; rintro e w3 ⟨rfl, h3⟩
  have H3 := Hd.mk (H2.out.call h3)
  clear H2 HS1 h3
  go_wp2_with (first | ((with_reducible refine gate_dst (N := 7) rfl ?_); refine wpList_build rfl _ _ rfl #[(0, .int .i64 1)] (by simp only [List.map_toArray, List.map_cons, List.map_nil]; rfl) _ (build_vec1 1 _) ?_) | ((with_reducible refine gate_dst (N := 8) rfl ?_); refine wpList_build rfl _ _ rfl #[(0, .agg (vec [1, 0, 0, 0, 0, 0, 0, 0])), (1, .int .i64 4)] (by simp only [List.map_toArray, List.map_cons, List.map_nil]; rfl) _ (build_row rfl 4 _) ?_) | ((with_reducible refine gate_dst (N := 13) rfl ?_); refine wpList_build rfl _ _ rfl #[(0, .int .i64 1)] (by simp only [List.map_toArray, List.map_cons, List.map_nil]; rfl) _ (build_vec1 1 _) ?_) | ((with_reducible refine gate_dst (N := 14) rfl ?_); refine wpList_build rfl _ _ rfl #[(0, .agg (vec [1, 0, 0, 0, 0, 0, 0, 0])), (1, .int .i64 7)] (by simp only [List.map_toArray, List.map_cons, List.map_nil]; rfl) _ (build_row rfl 7 _) ?_))
  refine (HT2.out _ _ H3.out.mat).mono ?_; rintro e w4 ⟨rfl, h4, h4'⟩
  have H4 := Hd.mk (H3.out.tell h4 h4')
  clear H3 HT2 h4 h4'
  go_wp2_with fail
  refine (HS2.out _ _ H4.out.mat).mono ?_; rintro e w5 ⟨rfl, h5⟩
  have H5 := Hd.mk (H4.out.call h5)
  clear H4 HS2 h5
  go_wp2_with (first | ((with_reducible refine gate_dst (N := 31) rfl ?_); refine gate_guard (by rfl) ?_; refine wpList_build rfl _ _ rfl #[] (by simp) (.agg (vec zero9)) (build_none _) ?_))
  refine (HT3.out _ _ H5.out.mat).mono ?_; rintro e w6 ⟨rfl, h6⟩
  have H6 := Hd.mk (H5.out.call h6)
  clear H5 HT3 h6
  go_wp2_with fail
  go_ret
  exact ⟨rfl, H6.out.held.2⟩
end Go.Proofs.Ytkjlakjihjfjdaa
