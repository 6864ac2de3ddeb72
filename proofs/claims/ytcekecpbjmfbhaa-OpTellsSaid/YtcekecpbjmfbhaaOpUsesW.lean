/- op.Uses: the inodes that an operation names: its walk. -/
import Derived.Test.YtcekecpbjmfbhaaOpMay2
import Derived.Test.YtcekecpbjmfbhaaElts
namespace Go.Proofs.Ytcekecpbjmfbhaa
open Go.RowKit Go.Proofs.YtcekecpbjmfbhaaW.PrintWords Go.Proofs.YtcekecpbjmfbhaaW.PrintLast Go.Proofs.YtcekecpbjmfbhaaW.PrintMore
set_option linter.unusedVariables false
set_option linter.unusedSimpArgs false

/-- Stamps in a slice. -/
def stE : Elt (Int × Int) where
  ty := 48
  sl := 54
  n := 2
  bytes := 16
  zero := .agg #[.int .i64 0, .int .i64 0]
  enc := fun p => [.int .i64 p.1, .int .i64 p.2]
  pos := by decide
  len := fun _ => rfl
  one := fun x u hu => by simp at hu; rcases hu with rfl | rfl <;> rfl
  info := by kernel_rfl
  zlen := rfl
  und := Try.underlying54
  small := by decide
theorem own_base {α : Type} {E : Elt α} {b c : Nat} {w : World} {v : Value} {l : List α} (h : E.Own b w v l) (hc : c ≤ b) : E.Own c w v l := by
  obtain ⟨hl, ⟨rfl, hn⟩ | ⟨g, cap, cur, rfl, h0, h2⟩⟩ := h
  · exact ⟨hl, .inl ⟨rfl, hn⟩⟩
  · exact ⟨hl, .inr ⟨g, cap, cur, rfl, Nat.le_trans hc h0, h2⟩⟩
/-- The inodes that an operation names, so many fields on. -/
def usesAt (f : Nat) (a i t : Int × Int) : Nat → List (Int × Int)
  | 0 => []
  | 1 => if f &&& 1 = 0 then [] else [a]
  | 2 => (if f &&& 1 = 0 then [] else [a]) ++ (if f &&& 2 = 0 then [] else [i])
  | _ => (if f &&& 1 = 0 then [] else [a]) ++ (if f &&& 2 = 0 then [] else [i]) ++ (if f &&& 4 = 0 then [] else [t])
theorem usesAt_yes {f : Nat} {a i t : Int × Int} : (¬ f &&& 1 = 0 → usesAt f a i t 1 = usesAt f a i t 0 ++ [a]) ∧ (¬ f &&& 2 = 0 → usesAt f a i t 2 = usesAt f a i t 1 ++ [i]) ∧ (¬ f &&& 4 = 0 → usesAt f a i t 3 = usesAt f a i t 2 ++ [t]) := by
  refine ⟨fun h => ?_, fun h => ?_, fun h => ?_⟩ <;> simp only [usesAt, h, if_true, if_false, List.nil_append, List.append_nil]
theorem usesAt_no {f : Nat} {a i t : Int × Int} : (f &&& 1 = 0 → usesAt f a i t 1 = usesAt f a i t 0) ∧ (f &&& 2 = 0 → usesAt f a i t 2 = usesAt f a i t 1) ∧ (f &&& 4 = 0 → usesAt f a i t 3 = usesAt f a i t 2) := by
  refine ⟨fun h => ?_, fun h => ?_, fun h => ?_⟩ <;> simp only [usesAt, h, if_true, if_false, List.nil_append, List.append_nil]
theorem usesAt_len (f : Nat) (a i t : Int × Int) (j : Nat) : (usesAt f a i t j).length ≤ 3 := by
  match j with
  | 0 => simp [usesAt]
  | 1 => simp only [usesAt]; split <;> simp
  | 2 => simp only [usesAt]; split <;> split <;> simp
  | j + 3 => simp only [usesAt]; split <;> split <;> split <;> simp
def usesO (k a0 a1 i0 i1 t0 t1 : Int) : List (Int × Int) := usesAt (fieldsN k) (a0, a1) (i0, i1) (t0, t1) 3
set_option maxHeartbeats 4000000 in
set_option maxRecDepth 100000 in
theorem op_Uses (t r k a0 a1 i0 i1 t0 t1 off : Int) (nm nw dt : ByteArray) (w : World) :
    Calls Try.prog 27 #[.agg #[.int .i64 t, .int .i64 r, .int .i64 k, .int .i64 a0, .int .i64 a1, .int .i64 i0, .int .i64 i1, .int .i64 t0, .int .i64 t1, .string nm, .string nw, .int .i64 off, .string dt]] w fun e w' => ∃ v, e = .returned v ∧ stE.Own w.heap.size w' v (usesO k a0 a1 i0 i1 t0 t1) ∧ Below w.heap.size w w' := by
  have K0 := Hd.mk (Holds.start1 w (.cells #[.int .i64 t, .int .i64 r, .int .i64 k, .int .i64 a0, .int .i64 a1, .int .i64 i0, .int .i64 i1, .int .i64 t0, .int .i64 t1, .string nm, .string nw, .int .i64 off, .string dt] 50 (0, 0)))
  have HF := Hd.mk (op_fields k)
  have hf := fieldsN_lt k
  have HU : Hd (∀ (w' : World) v, stE.Own w.heap.size w' v (usesAt (fieldsN k) (a0, a1) (i0, i1) (t0, t1) 3) → stE.Own w.heap.size w' v (usesO k a0 a1 i0 i1 t0 t1)) := ⟨fun _ _ h => h⟩
  generalize fieldsN k = f at *
  go_enter Try.func27, Try.ntmps27
  go_wp2_with fail
  refine world_gen_calls _ K0.out (fun W hK => ?_)
  have K0 := Hd.mk hK
  clear hK
  refine (HF.out _).mono ?_; rintro e w1 ⟨rfl, hb1⟩
  have K1 := Hd.mk (K0.out.call hb1)
  clear hb1 K0 HF
  have g0 := cell_of_row w1 _ 0 _ _ _ (K1.out.get 0 rfl)
  have g1 := cell_of_row w1 _ 1 _ _ _ (K1.out.get 0 rfl)
  have g2 := cell_of_row w1 _ 2 _ _ _ (K1.out.get 0 rfl)
  have g3 := cell_of_row w1 _ 3 _ _ _ (K1.out.get 0 rfl)
  have g4 := cell_of_row w1 _ 4 _ _ _ (K1.out.get 0 rfl)
  have g5 := cell_of_row w1 _ 5 _ _ _ (K1.out.get 0 rfl)
  have g6 := cell_of_row w1 _ 6 _ _ _ (K1.out.get 0 rfl)
  have g7 := cell_of_row w1 _ 7 _ _ _ (K1.out.get 0 rfl)
  have g8 := cell_of_row w1 _ 8 _ _ _ (K1.out.get 0 rfl)
  have g9 := cell_of_row w1 _ 9 _ _ _ (K1.out.get 0 rfl)
  have g10 := cell_of_row w1 _ 10 _ _ _ (K1.out.get 0 rfl)
  have g11 := cell_of_row w1 _ 11 _ _ _ (K1.out.get 0 rfl)
  have g12 := cell_of_row w1 _ 12 _ _ _ (K1.out.get 0 rfl)
  go_wp2_with fail
  clear g0 g1 g2 g3 g4 g5 g6 g7 g8 g9 g10 g11 g12
  refine world_gen _ ((K1.out.alloc (.cells #[.int .i64 a0, .int .i64 a1, .int .i64 i0, .int .i64 i1, .int .i64 t0, .int .i64 t1] 48 (0, 0)))) (fun W2 hK => ?_)
  have K2 := Hd.mk hK
  clear hK
  have g0 := cell_of_row W2 _ 0 _ _ _ (K2.out.get 0 rfl)
  have g1 := cell_of_row W2 _ 1 _ _ _ (K2.out.get 0 rfl)
  have g2 := cell_of_row W2 _ 2 _ _ _ (K2.out.get 0 rfl)
  have g3 := cell_of_row W2 _ 3 _ _ _ (K2.out.get 0 rfl)
  have g4 := cell_of_row W2 _ 4 _ _ _ (K2.out.get 0 rfl)
  have g5 := cell_of_row W2 _ 5 _ _ _ (K2.out.get 0 rfl)
  have hlt := K2.out.lt 0 rfl
  clear hlt
  generalize w1.heap.size = bs at *
  go_loopg [4, 18] 3 (fun q v4 v18 wx => ∃ i : Nat, i + q = 3 ∧ v18 = .int .i64 (i : Int) ∧ Hd (stE.Own W2.heap.size wx v4 (usesAt f (a0, a1) (i0, i1) (t0, t1) i)) ∧ Hd (Below W2.heap.size W2 wx))
  case atStart => exact ⟨0, rfl, rfl, ⟨Elt.Own.nil _ _⟩, ⟨Below.refl _ _⟩⟩
  case round =>
    obtain ⟨i, hi, rfl, HO, HB⟩ := hrel
    obtain ⟨v, hv4⟩ : ∃ v, v = u4 := ⟨_, rfl⟩
    subst hv4
    clear g0 g1 g2 g3 g4 g5
    have K3 := Hd.mk (K2.out.call HB.out)
    have g0 := cell_of_row wr _ 0 _ _ _ (K3.out.get 0 rfl)
    have g1 := cell_of_row wr _ 1 _ _ _ (K3.out.get 0 rfl)
    have g2 := cell_of_row wr _ 2 _ _ _ (K3.out.get 0 rfl)
    have g3 := cell_of_row wr _ 3 _ _ _ (K3.out.get 0 rfl)
    have g4 := cell_of_row wr _ 4 _ _ _ (K3.out.get 0 rfl)
    have g5 := cell_of_row wr _ 5 _ _ _ (K3.out.get 0 rfl)
    have hlt := K3.out.lt 0 rfl
    have h3 : i = 0 ∨ i = 1 ∨ i = 2 ∨ i = 3 := by omega
    rcases h3 with rfl | rfl | rfl | rfl
    · have hand : bits .and .i64 (f : Int) (1 : Int) = ((f &&& 1 : Nat) : Int) := and_nat64 f 1 hf (by decide)
      by_cases hz : f &&& 1 = 0
      · have HE := Hd.mk ((usesAt_no (f := f) (a := (a0, a1)) (i := (i0, i1)) (t := (t0, t1))).1 hz)
        rw [hz] at hand
        clear hz
        go_wp2_with fail
        go_roundg (2)
        case measure => omega
        case rel => exact ⟨1, by omega, rfl, ⟨by rw [HE.out]; exact HO.out.below ((Below.refl _ _).alloc (Nat.le_refl _) _)⟩, ⟨HB.out.alloc HB.out.size _⟩⟩
      · have hz2 := hz
        obtain ⟨n, hn⟩ : ∃ n, n = f &&& 1 := ⟨_, rfl⟩
        rw [← hn] at hand hz2
        have e1 : ((n : Int) != 0) = true := by rw [bne_iff_ne]; omega
        have HE := Hd.mk ((usesAt_yes (f := f) (a := (a0, a1)) (i := (i0, i1)) (t := (t0, t1))).1 hz)
        clear hn hz hz2
        go_wp2_with (first | ((with_reducible refine gate_dst (N := 31) rfl ?_); refine stE.wpList_push rfl _ _ rfl rfl rfl rfl rfl _ v (usesAt f (a0, a1) (i0, i1) (t0, t1) 0) rfl (HO.out.below ((Below.refl _ _).alloc (Nat.le_refl _) _)) (a0, a1) rfl (by simp) rfl (by have := usesAt_len f (a0, a1) (i0, i1) (t0, t1) 0; omega) W2 rfl (HB.out.alloc HB.out.size _) ?_; intro v2 w2 hown2 hbl2; have HO2 := Hd.mk hown2; have HB2 := Hd.mk hbl2; clear hown2 hbl2))
        go_roundg (2)
        case measure => omega
        case rel => exact ⟨1, by omega, rfl, ⟨by rw [HE.out]; exact HO2.out⟩, HB2⟩
    · have hand : bits .and .i64 (f : Int) (2 : Int) = ((f &&& 2 : Nat) : Int) := and_nat64 f 2 hf (by decide)
      by_cases hz : f &&& 2 = 0
      · have HE := Hd.mk ((usesAt_no (f := f) (a := (a0, a1)) (i := (i0, i1)) (t := (t0, t1))).2.1 hz)
        rw [hz] at hand
        clear hz
        go_wp2_with fail
        go_roundg (1)
        case measure => omega
        case rel => exact ⟨2, by omega, rfl, ⟨by rw [HE.out]; exact HO.out.below ((Below.refl _ _).alloc (Nat.le_refl _) _)⟩, ⟨HB.out.alloc HB.out.size _⟩⟩
      · have hz2 := hz
        obtain ⟨n, hn⟩ : ∃ n, n = f &&& 2 := ⟨_, rfl⟩
        rw [← hn] at hand hz2
        have e1 : ((n : Int) != 0) = true := by rw [bne_iff_ne]; omega
        have HE := Hd.mk ((usesAt_yes (f := f) (a := (a0, a1)) (i := (i0, i1)) (t := (t0, t1))).2.1 hz)
        clear hn hz hz2
        go_wp2_with (first | ((with_reducible refine gate_dst (N := 31) rfl ?_); refine stE.wpList_push rfl _ _ rfl rfl rfl rfl rfl _ v (usesAt f (a0, a1) (i0, i1) (t0, t1) 1) rfl (HO.out.below ((Below.refl _ _).alloc (Nat.le_refl _) _)) (i0, i1) rfl (by simp) rfl (by have := usesAt_len f (a0, a1) (i0, i1) (t0, t1) 1; omega) W2 rfl (HB.out.alloc HB.out.size _) ?_; intro v2 w2 hown2 hbl2; have HO2 := Hd.mk hown2; have HB2 := Hd.mk hbl2; clear hown2 hbl2))
        go_roundg (1)
        case measure => omega
        case rel => exact ⟨2, by omega, rfl, ⟨by rw [HE.out]; exact HO2.out⟩, HB2⟩
    · have hand : bits .and .i64 (f : Int) (4 : Int) = ((f &&& 4 : Nat) : Int) := and_nat64 f 4 hf (by decide)
      by_cases hz : f &&& 4 = 0
      · have HE := Hd.mk ((usesAt_no (f := f) (a := (a0, a1)) (i := (i0, i1)) (t := (t0, t1))).2.2 hz)
        rw [hz] at hand
        clear hz
        go_wp2_with fail
        go_roundg (0)
        case measure => omega
        case rel => exact ⟨3, by omega, rfl, ⟨by rw [HE.out]; exact HO.out.below ((Below.refl _ _).alloc (Nat.le_refl _) _)⟩, ⟨HB.out.alloc HB.out.size _⟩⟩
      · have hz2 := hz
        obtain ⟨n, hn⟩ : ∃ n, n = f &&& 4 := ⟨_, rfl⟩
        rw [← hn] at hand hz2
        have e1 : ((n : Int) != 0) = true := by rw [bne_iff_ne]; omega
        have HE := Hd.mk ((usesAt_yes (f := f) (a := (a0, a1)) (i := (i0, i1)) (t := (t0, t1))).2.2 hz)
        clear hn hz hz2
        go_wp2_with (first | ((with_reducible refine gate_dst (N := 31) rfl ?_); refine stE.wpList_push rfl _ _ rfl rfl rfl rfl rfl _ v (usesAt f (a0, a1) (i0, i1) (t0, t1) 2) rfl (HO.out.below ((Below.refl _ _).alloc (Nat.le_refl _) _)) (t0, t1) rfl (by simp) rfl (by have := usesAt_len f (a0, a1) (i0, i1) (t0, t1) 2; omega) W2 rfl (HB.out.alloc HB.out.size _) ?_; intro v2 w2 hown2 hbl2; have HO2 := Hd.mk hown2; have HB2 := Hd.mk hbl2; clear hown2 hbl2))
        go_roundg (0)
        case measure => omega
        case rel => exact ⟨3, by omega, rfl, ⟨by rw [HE.out]; exact HO2.out⟩, HB2⟩
    · go_wp2_with fail
      go_ret
      exact ⟨_, rfl, HU.out _ _ (own_base HO.out K2.out.2.size), below_step K2.out.2 HB.out⟩
end Go.Proofs.Ytcekecpbjmfbhaa
