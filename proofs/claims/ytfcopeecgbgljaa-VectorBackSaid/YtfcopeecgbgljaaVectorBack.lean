/- The law VectorBack: the walk, and the law. -/
import Derived.Test.YtfcopeecgbgljaaVecBack
import Derived.Test.YtfcopeecgbgljaaVecShown
import Derived.Test.YtfcopeecgbgljaaVecOpen
namespace Go.Proofs.Ytfcopeecgbgljaa.vectorBack
open Go.RowKit Go.Proofs.YtfcopeecgbgljaaW.PrintWords Go.Proofs.YtfcopeecgbgljaaW.PrintLast Go.Proofs.YtfcopeecgbgljaaW.PrintMore Pk
set_option linter.unusedVariables false
set_option linter.unusedSimpArgs false

set_option maxHeartbeats 2000000 in
set_option maxRecDepth 100000 in
theorem walk (v x y : List Int) (s p q1 q2 p2 : ByteArray) (c1 c2 : Int) (b : Bool) (hv : v.length = 8) (hx : x.length = 8) (hy : y.length = 8) (hs : s.size ≤ 2000) (hps : p.size ≤ 80) (w : World)
    (H1 : Hd (∀ w, Calls Try.prog 27 #[.agg (vec v)] w fun e w' => e = .returned (.string p) ∧ Below w.heap.size w w'))
    (H2 : Hd (∀ w, Calls Try.prog 26 #[.string (p ++ s)] w fun e w' => e = .returned (.tuple #[.agg (vec x), .string q1, .int .i64 c1]) ∧ Below w.heap.size w w'))
    (H3 : Hd (∀ w, Calls Try.prog 26 #[.string s] w fun e w' => e = .returned (.tuple #[.agg (vec y), .string q2, .int .i64 c2]) ∧ Below w.heap.size w w'))
    (H4 : Hd (∀ w, Calls Try.prog 18 #[.agg (vec v)] w fun e w' => e = .returned (.bool b) ∧ Below w.heap.size w w'))
    (hb : (b = true ∧ v = x ∧ s = q1 ∧ c1 = 0) ∨ (b = false ∧ q1 = ⟨#[]⟩ ∧ c1 = 2))
    (hp2 : p2.size ≤ 80) (hq2 : q2.size ≤ 2000)
    (H5 : Hd (∀ w, Calls Try.prog 27 #[.agg (vec y)] w fun e w' => e = .returned (.string p2) ∧ Below w.heap.size w w'))
    (H6 : Hd (∀ w, Calls Try.prog 18 #[.agg (vec y)] w fun e w' => e = .returned (.bool true) ∧ Below w.heap.size w w'))
    (hc : (c2 = 0 ∧ p2 ++ q2 = s) ∨ c2 = 2) :
    Calls Try.prog 10 #[.agg (vec v), .string s] w fun e w' => e = .returned (.bool true) ∧ Below w.heap.size w w' := by
  have K0 := Hd.mk (Holds.start1 w (.cells (vec v) 22))
  have HS := Hd.mk vec_shown
  have hB := Hd.mk hb
  have hC := Hd.mk hc
  have S1 := Hd.mk (show (Try.prog.info? 22).map (·.size) = some (vec v).size by rw [vec_size, hv]; exact size_eight)
  have S2 := Hd.mk (show (Try.prog.info? 24).map (·.size) = some (vec x).size by rw [vec_size, hx]; exact size_vec)
  have S3 := Hd.mk (show (vec zero8).size = (vec x).size by rw [vec_size, vec_size, hx]; rfl)
  have S4 := Hd.mk (show (Try.prog.info? 24).map (·.size) = some (vec y).size by rw [vec_size, hy]; exact size_vec)
  have S5 := Hd.mk (show (vec zero8).size = (vec y).size by rw [vec_size, vec_size, hy]; rfl)
  have same : ∀ w, (Op.equalIn 10000 24 (.agg (vec x)) (.agg (vec x))).run Try.prog w = .ok true w := by
    intro w
    have := eqVec 9998 hx hx w
    rw [show eqV x x = true from by simp [eqV]] at this
    exact this
  have HE := Hd.mk same
  have hz := zeroVec
  have hsum : p.size + s.size ≤ 9223372036854775807 := by omega
  have hsum2 : p2.size + q2.size ≤ 9223372036854775807 := by omega
  clear hb hc hv hx hy same
  go_enter Try.func10, Try.ntmps10
  go_upto_region 1 with (fail)
  generalize w.alloc (.cells (vec v) 22) = W at *
  go_wp2_with fail
  refine (HS.out _).mono ?_; rintro e w1 ⟨rfl, h1⟩
  have K1 := Hd.mk (K0.out.call h1)
  clear K0 h1
  go_wp2_with (first | ((with_reducible refine gate_dst (N := 19) rfl ?_); refine wpList_load_row rfl 22 _ rfl w.heap.size rfl 22 (vec v) (0, 0) _ (K1.out.get 0 rfl) Try.underlying22 rfl S1.out ?_))
  refine (H1.out _).mono ?_; rintro e w2 ⟨rfl, h1⟩
  have K2 := Hd.mk (K1.out.call h1)
  clear K1 h1
  go_wp2_with fail
  refine (H2.out _).mono ?_; rintro e w3 ⟨rfl, h1⟩
  have K3 := Hd.mk (((K2.out.call h1).fresh (.cells (vec zero8) 24)).set (vec x))
  clear K2 h1
  go_upto_region 5 with (first | ((with_reducible refine gate_store (t := 24) rfl ?_); refine wpList_store_row rfl _ _ _ rfl w3.heap.size (vec x) rfl rfl 24 (vec zero8) (heap_alloc_new _ _) S2.out S3.out (vec_one _) ?_; generalize (w3.alloc (.cells (vec zero8) 24)).setRow w3.heap.size (vec x) = W3 at *; generalize w3.heap.size = bx at *))
  go_wp2_with fail
  refine (H3.out _).mono ?_; rintro e w4 ⟨rfl, h1⟩
  have K4 := Hd.mk (((K3.out.call h1).fresh (.cells (vec zero8) 24)).set (vec y))
  clear K3 h1
  go_upto_region 6 with (first | ((with_reducible refine gate_store (t := 24) rfl ?_); refine wpList_store_row rfl _ _ _ rfl w4.heap.size (vec y) rfl rfl 24 (vec zero8) (heap_alloc_new _ _) S4.out S5.out (vec_one _) ?_; generalize (w4.alloc (.cells (vec zero8) 24)).setRow w4.heap.size (vec y) = W4 at *; generalize w4.heap.size = b_y at *))
  go_wp2_with (first | ((with_reducible refine gate_dst (N := 33) rfl ?_); refine wpList_load_row rfl 22 _ rfl w.heap.size rfl 22 (vec v) (0, 0) _ (K4.out.get 2 rfl) Try.underlying22 rfl S1.out ?_))
  refine (H4.out _).mono ?_; rintro e w5 ⟨rfl, h1⟩
  have K5 := Hd.mk (K4.out.call h1)
  clear K4 h1
  go_upto_region 7 with (fail)
  have heq := HE.out
  have hcat : c2 = 0 → p2 ++ q2 = s := fun h => by rcases hC.out with h2 | h2; exact h2.2; omega
  rcases hB.out with ⟨rfl, rfl, rfl, rfl⟩ | ⟨rfl, rfl, rfl⟩
  · rcases hC.out with ⟨rfl, _⟩ | rfl
    · have hcat2 := hcat rfl
      clear hcat hB hC
      go_wp2_with (first | ((with_reducible refine gate_dst (N := 43) rfl ?_); refine gate_guard (by rfl) ?_; refine wpList_load_row rfl 24 _ rfl bx rfl 24 (vec v) (0, 0) _ (K5.out.get 1 rfl) Try.underlying24 rfl S2.out ?_) | ((with_reducible refine gate_dst (N := 44) rfl ?_); refine gate_guard (by rfl) ?_; refine wpList_load_row rfl 22 _ rfl w.heap.size rfl 22 (vec v) (0, 0) _ (K5.out.get 2 rfl) Try.underlying22 rfl S1.out ?_) | ((with_reducible refine gate_dst (N := 69) rfl ?_); refine gate_guard (by rfl) ?_; refine wpList_load_row rfl 24 _ rfl b_y rfl 24 (vec y) (0, 0) _ (K5.out.get 0 rfl) Try.underlying24 rfl S4.out ?_))
      refine (H6.out _).mono ?_; rintro e w6 ⟨rfl, h1⟩
      have K6 := Hd.mk (K5.out.call h1)
      clear K5 h1
      go_wp2_with (first | ((with_reducible refine gate_dst (N := 72) rfl ?_); refine gate_guard (by rfl) ?_; refine wpList_load_row rfl 24 _ rfl b_y rfl 24 (vec y) (0, 0) _ (K6.out.get 0 rfl) Try.underlying24 rfl S4.out ?_))
      refine (H5.out _).mono ?_; rintro e w7 ⟨rfl, h1⟩
      have K7 := Hd.mk (K6.out.call h1)
      clear K6 h1
      go_wp2_with fail
      go_ret
      exact ⟨rfl, K7.out.2⟩
    · clear hcat hB hC
      go_wp2_with (first | ((with_reducible refine gate_dst (N := 43) rfl ?_); refine gate_guard (by rfl) ?_; refine wpList_load_row rfl 24 _ rfl bx rfl 24 (vec v) (0, 0) _ (K5.out.get 1 rfl) Try.underlying24 rfl S2.out ?_) | ((with_reducible refine gate_dst (N := 44) rfl ?_); refine gate_guard (by rfl) ?_; refine wpList_load_row rfl 22 _ rfl w.heap.size rfl 22 (vec v) (0, 0) _ (K5.out.get 2 rfl) Try.underlying22 rfl S1.out ?_))
      go_ret
      exact ⟨rfl, K5.out.2⟩
  · rcases hC.out with ⟨rfl, _⟩ | rfl
    · have hcat2 := hcat rfl
      clear hcat hB hC
      go_wp2_with (first | ((with_reducible refine gate_dst (N := 69) rfl ?_); refine gate_guard (by rfl) ?_; refine wpList_load_row rfl 24 _ rfl b_y rfl 24 (vec y) (0, 0) _ (K5.out.get 0 rfl) Try.underlying24 rfl S4.out ?_))
      refine (H6.out _).mono ?_; rintro e w6 ⟨rfl, h1⟩
      have K6 := Hd.mk (K5.out.call h1)
      clear K5 h1
      go_wp2_with (first | ((with_reducible refine gate_dst (N := 72) rfl ?_); refine gate_guard (by rfl) ?_; refine wpList_load_row rfl 24 _ rfl b_y rfl 24 (vec y) (0, 0) _ (K6.out.get 0 rfl) Try.underlying24 rfl S4.out ?_))
      refine (H5.out _).mono ?_; rintro e w7 ⟨rfl, h1⟩
      have K7 := Hd.mk (K6.out.call h1)
      clear K6 h1
      go_wp2_with fail
      go_ret
      exact ⟨rfl, K7.out.2⟩
    · clear hcat hB hC
      go_wp2_with fail
      go_ret
      exact ⟨rfl, K5.out.2⟩

set_option maxRecDepth 100000 in
theorem law_VectorBack {z : Value} {v : List Int} (hv : IsEight z v) (s : ByteArray) (hs : s.size ≤ 140737488351232) (w : World) :
    Calls Try.prog 10 #[z, .string s] w fun e w' => e = .returned (.bool true) ∧ Below w.heap.size w w' := by
  obtain ⟨rfl, hv, hb⟩ := hv
  by_cases hg : 2000 < s.size
  · have K0 := Hd.mk (Holds.start1 w (.cells (vec v) 22))
    have HS := Hd.mk vec_shown
    clear hv hb
    go_enter Try.func10, Try.ntmps10
    go_upto_region 1 with (fail)
    generalize w.alloc (.cells (vec v) 22) = W at *
    go_wp2_with fail
    refine (HS.out _).mono ?_; rintro e w1 ⟨rfl, h1⟩
    have K1 := Hd.mk (K0.out.call h1)
    clear K0 h1
    go_wp2_with fail
    go_ret
    exact ⟨rfl, K1.out.2⟩
  · have hps : (putV v).size ≤ 80 := by have := putV_size v hb; rw [hv] at this; exact this
    have E2 := vec_Take (putV v ++ s) (by rw [size_app]; omega)
    rw [tkV_put hv hb s] at E2
    have E3 := vec_Take s (by omega)
    have first : ∃ (x : List Int) (c1 : Int) (q1 : ByteArray), x.length = 8 ∧ (∀ w, Calls Try.prog 26 #[.string (putV v ++ s)] w fun e w' => e = .returned (.tuple #[.agg (vec x), .string q1, .int .i64 c1]) ∧ Below w.heap.size w w') ∧
        ((mayV v = true ∧ v = x ∧ s = q1 ∧ c1 = 0) ∨ (mayV v = false ∧ q1 = ⟨#[]⟩ ∧ c1 = 2)) := by
      cases hm : mayV v with
      | true => rw [hm] at E2; exact ⟨v, 0, s, hv, E2, Or.inl ⟨rfl, rfl, rfl, rfl⟩⟩
      | false => rw [hm] at E2; exact ⟨zero8, 2, ⟨#[]⟩, rfl, E2, Or.inr ⟨rfl, rfl, rfl⟩⟩
    obtain ⟨x, c1, q1, hx, H2, hb2⟩ := first
    have z8 : Fits64 zero8 := by intro y hy; simp [zero8] at hy; omega
    cases hT : tkV s.data.toList with
    | none =>
      rw [hT] at E3
      exact walk v x zero8 s (putV v) q1 ⟨#[]⟩ (putV zero8) c1 2 (mayV v) hv hx rfl (by omega) hps w ⟨vec_Put v hv hb⟩ ⟨H2⟩ ⟨E3⟩ ⟨vec_May v hv⟩ hb2 (putV_size zero8 z8) (by decide) ⟨vec_Put zero8 rfl z8⟩ ⟨vec_May zero8 rfl⟩ (Or.inr rfl)
    | some p =>
      obtain ⟨y, q⟩ := p
      rw [hT] at E3
      obtain ⟨hy, hyb, hym, hcat, hql⟩ := tkV_very hT
      have M := vec_May y hy
      rw [hym] at M
      have hpy := putV_size y hyb
      rw [hy] at hpy
      exact walk v x y s (putV v) q1 ⟨q.toArray⟩ (putV y) c1 0 (mayV v) hv hx hy (by omega) hps w ⟨vec_Put v hv hb⟩ ⟨H2⟩ ⟨E3⟩ ⟨vec_May v hv⟩ hb2 hpy (by rw [size_of]; omega) ⟨vec_Put y hy hyb⟩ ⟨M⟩ (Or.inl ⟨rfl, hcat⟩)
end Go.Proofs.Ytfcopeecgbgljaa.vectorBack
