/- Texts that belong together, in one. -/
import Derived.Test.YtcgkkjfbdappoaaGreatOpMayAll
import Derived.Test.YtcgkkjfbdappoaaGreatElts
import Derived.Test.YtcgkkjfbdappoaaGreatOpOpen
/- op.Uses: the inodes that an operation names: its walk. -/
namespace Go.Proofs.YtcgkkjfbdappoaaGreat
open Go.RowKit Go.Proofs.YtcgkkjfbdappoaaGreatW.PrintWords Go.Proofs.YtcgkkjfbdappoaaGreatW.PrintLast Go.Proofs.YtcgkkjfbdappoaaGreatW.PrintMore
set_option linter.unusedVariables false
set_option linter.unusedSimpArgs false

/-- Stamps in a slice. -/
def stE : Elt (Int × Int) where
  ty := 34
  sl := 135
  n := 2
  bytes := 16
  zero := .agg #[.int .i64 0, .int .i64 0]
  enc := fun p => [.int .i64 p.1, .int .i64 p.2]
  pos := by decide
  len := fun _ => rfl
  one := fun x u hu => by simp at hu; rcases hu with rfl | rfl <;> rfl
  info := by kernel_rfl
  zlen := rfl
  und := Tryz.underlying135
  small := by decide
theorem own_base {α : Type} {E : Elt α} {b c : Nat} {w : World} {v : Value} {l : List α} (h : E.Own b w v l) (hc : c ≤ b) : E.Own c w v l := by
  obtain ⟨hl, ⟨rfl, hn⟩ | ⟨g, cap, cur, rfl, h0, h2⟩⟩ := h
  · exact ⟨hl, .inl ⟨rfl, hn⟩⟩
  · exact ⟨hl, .inr ⟨g, cap, cur, rfl, Nat.le_trans hc h0, h2⟩⟩
/-- The inodes that an operation names, so many fields on. -/
def usesAt (f : Nat) (a i t : Int × Int) : Nat → List (Int × Int)
  | 0 => []
  | 1 => if f &&& 1 = 0 then [] else [a]
  | 2 => (if f &&& 1 = 0 then [] else [a]) ++ (if f &&& 2 = 0 then [] else [i])
  | _ => (if f &&& 1 = 0 then [] else [a]) ++ (if f &&& 2 = 0 then [] else [i]) ++ (if f &&& 4 = 0 then [] else [t])
theorem usesAt_yes {f : Nat} {a i t : Int × Int} : (¬ f &&& 1 = 0 → usesAt f a i t 1 = usesAt f a i t 0 ++ [a]) ∧ (¬ f &&& 2 = 0 → usesAt f a i t 2 = usesAt f a i t 1 ++ [i]) ∧ (¬ f &&& 4 = 0 → usesAt f a i t 3 = usesAt f a i t 2 ++ [t]) := by
  refine ⟨fun h => ?_, fun h => ?_, fun h => ?_⟩ <;> simp only [usesAt, h, if_true, if_false, List.nil_append, List.append_nil]
theorem usesAt_no {f : Nat} {a i t : Int × Int} : (f &&& 1 = 0 → usesAt f a i t 1 = usesAt f a i t 0) ∧ (f &&& 2 = 0 → usesAt f a i t 2 = usesAt f a i t 1) ∧ (f &&& 4 = 0 → usesAt f a i t 3 = usesAt f a i t 2) := by
  refine ⟨fun h => ?_, fun h => ?_, fun h => ?_⟩ <;> simp only [usesAt, h, if_true, if_false, List.nil_append, List.append_nil]
theorem usesAt_len (f : Nat) (a i t : Int × Int) (j : Nat) : (usesAt f a i t j).length ≤ 3 := by
  match j with
  | 0 => simp [usesAt]
  | 1 => simp only [usesAt]; split <;> simp
  | 2 => simp only [usesAt]; split <;> split <;> simp
  | j + 3 => simp only [usesAt]; split <;> split <;> split <;> simp
def usesO (k a0 a1 i0 i1 t0 t1 : Int) : List (Int × Int) := usesAt (fieldsN k) (a0, a1) (i0, i1) (t0, t1) 3
end Go.Proofs.YtcgkkjfbdappoaaGreat

/- op.Put: an operation as bytes: its walk. -/
namespace Go.Proofs.YtcgkkjfbdappoaaGreat
open Go.RowKit Go.Proofs.YtcgkkjfbdappoaaGreatW.PrintWords Go.Proofs.YtcgkkjfbdappoaaGreatW.PrintLast Go.Proofs.YtcgkkjfbdappoaaGreatW.PrintMore Pk
set_option linter.unusedVariables false
set_option linter.unusedSimpArgs false

set_option maxHeartbeats 4000000 in
set_option maxRecDepth 100000 in
theorem Put_walk (t r k a0 a1 i0 i1 t0 t1 off : Int) (nm nw dt : ByteArray) (kI p1 p2 p3 p4 s1 s2 oI s3 : ByteArray) (w : World) (hz : kI.size ≤ 10 ∧ p1.size ≤ 20 ∧ p2.size ≤ 20 ∧ p3.size ≤ 20 ∧ p4.size ≤ 20 ∧ s1.size ≤ 140737488355400 ∧ s2.size ≤ 140737488355400 ∧ oI.size ≤ 10 ∧ s3.size ≤ 140737488355400)
    (HI : Hd (∀ w, Calls Tryz.prog 48 #[.int .i64 k] w fun e w' => e = .returned (.string kI) ∧ Below w.heap.size w w'))
    (H1 : Hd (∀ w, Calls Tryz.prog 82 #[.agg #[.int .i64 t, .int .i64 r]] w fun e w' => e = .returned (.string p1) ∧ Below w.heap.size w w'))
    (H2 : Hd (∀ w, Calls Tryz.prog 82 #[.agg #[.int .i64 a0, .int .i64 a1]] w fun e w' => e = .returned (.string p2) ∧ Below w.heap.size w w'))
    (H3 : Hd (∀ w, Calls Tryz.prog 82 #[.agg #[.int .i64 i0, .int .i64 i1]] w fun e w' => e = .returned (.string p3) ∧ Below w.heap.size w w'))
    (H4 : Hd (∀ w, Calls Tryz.prog 82 #[.agg #[.int .i64 t0, .int .i64 t1]] w fun e w' => e = .returned (.string p4) ∧ Below w.heap.size w w'))
    (HN : Hd (∀ w, Calls Tryz.prog 83 #[.string nm] w fun e w' => e = .returned (.string s1) ∧ Below w.heap.size w w'))
    (HW : Hd (∀ w, Calls Tryz.prog 83 #[.string nw] w fun e w' => e = .returned (.string s2) ∧ Below w.heap.size w w'))
    (HO : Hd (∀ w, Calls Tryz.prog 48 #[.int .i64 off] w fun e w' => e = .returned (.string oI) ∧ Below w.heap.size w w'))
    (HD : Hd (∀ w, Calls Tryz.prog 83 #[.string dt] w fun e w' => e = .returned (.string s3) ∧ Below w.heap.size w w')) :
    Calls Tryz.prog 50 #[.agg #[.int .i64 t, .int .i64 r, .int .i64 k, .int .i64 a0, .int .i64 a1, .int .i64 i0, .int .i64 i1, .int .i64 t0, .int .i64 t1, .string nm, .string nw, .int .i64 off, .string dt]] w fun e w' => e = .returned (.string (kI ++ p1 ++ p2 ++ p3 ++ p4 ++ s1 ++ s2 ++ oI ++ s3)) ∧ Below w.heap.size w w' := by
  have K0 := Hd.mk (Holds.start1 w (.cells #[.int .i64 t, .int .i64 r, .int .i64 k, .int .i64 a0, .int .i64 a1, .int .i64 i0, .int .i64 i1, .int .i64 t0, .int .i64 t1, .string nm, .string nw, .int .i64 off, .string dt] 36 (0, 0)))
  obtain ⟨z0, z1, z2, z3, z4, z5, z6, z7, z8⟩ := hz
  obtain ⟨x1, hx1⟩ : ∃ x, x = kI ++ p1 := ⟨_, rfl⟩
  obtain ⟨x2, hx2⟩ : ∃ x, x = x1 ++ p2 := ⟨_, rfl⟩
  obtain ⟨x3, hx3⟩ : ∃ x, x = x2 ++ p3 := ⟨_, rfl⟩
  obtain ⟨x4, hx4⟩ : ∃ x, x = x3 ++ p4 := ⟨_, rfl⟩
  have q1 : x1.size = kI.size + p1.size := by rw [hx1, size_app]
  have q2 : x2.size = x1.size + p2.size := by rw [hx2, size_app]
  have q3 : x3.size = x2.size + p3.size := by rw [hx3, size_app]
  have q4 : x4.size = x3.size + p4.size := by rw [hx4, size_app]
  have m1 : kI.size + p1.size ≤ 9223372036854775807 := by omega
  have m2 : x1.size + p2.size ≤ 9223372036854775807 := by omega
  have m3 : x2.size + p3.size ≤ 9223372036854775807 := by omega
  have m4 : x3.size + p4.size ≤ 9223372036854775807 := by omega
  have m5 : x4.size + s1.size ≤ 9223372036854775807 := by omega
  have m6 : x4.size + s1.size + s2.size ≤ 9223372036854775807 := by omega
  have m7 : x4.size + s1.size + s2.size + oI.size ≤ 9223372036854775807 := by omega
  have m8 : x4.size + s1.size + s2.size + oI.size + s3.size ≤ 9223372036854775807 := by omega
  have HX1 := Hd.mk hx1
  have HX2 := Hd.mk hx2
  have HX3 := Hd.mk hx3
  have HX4 := Hd.mk hx4
  clear q1 q2 q3 q4 hx1 hx2 hx3 hx4 z0 z1 z2 z3 z4 z5 z6 z7 z8
  go_enter Tryz.func50, Tryz.ntmps50
  go_wp2_with fail
  refine world_gen_calls _ K0.out (fun W hK => ?_)
  have K0 := Hd.mk hK
  clear hK
  refine (HI.out _).mono ?_; rintro e w1 ⟨rfl, hb1⟩
  have K1 := Hd.mk (K0.out.call hb1)
  clear hb1 K0 HI
  have g0 := cell_of_row w1 _ 0 _ _ _ (K1.out.get 0 rfl)
  have g1 := cell_of_row w1 _ 1 _ _ _ (K1.out.get 0 rfl)
  have g2 := cell_of_row w1 _ 2 _ _ _ (K1.out.get 0 rfl)
  have g3 := cell_of_row w1 _ 3 _ _ _ (K1.out.get 0 rfl)
  have g4 := cell_of_row w1 _ 4 _ _ _ (K1.out.get 0 rfl)
  have g5 := cell_of_row w1 _ 5 _ _ _ (K1.out.get 0 rfl)
  have g6 := cell_of_row w1 _ 6 _ _ _ (K1.out.get 0 rfl)
  have g7 := cell_of_row w1 _ 7 _ _ _ (K1.out.get 0 rfl)
  have g8 := cell_of_row w1 _ 8 _ _ _ (K1.out.get 0 rfl)
  have g9 := cell_of_row w1 _ 9 _ _ _ (K1.out.get 0 rfl)
  have g10 := cell_of_row w1 _ 10 _ _ _ (K1.out.get 0 rfl)
  have g11 := cell_of_row w1 _ 11 _ _ _ (K1.out.get 0 rfl)
  have g12 := cell_of_row w1 _ 12 _ _ _ (K1.out.get 0 rfl)
  go_wp2_with fail
  clear g0 g1 g2 g3 g4 g5 g6 g7 g8 g9 g10 g11 g12
  refine world_gen _ (K1.out.alloc (.cells #[.int .i64 t, .int .i64 r, .int .i64 a0, .int .i64 a1, .int .i64 i0, .int .i64 i1, .int .i64 t0, .int .i64 t1] 34 (0, 0))) (fun W2 hK => ?_)
  have K2 := Hd.mk hK
  clear hK
  generalize w1.heap.size = bs at *
  go_loopg [3, 19] 4 (fun q v3 v19 wx => ∃ i : Nat, i + q = 4 ∧ v19 = .int .i64 (i : Int) ∧ v3 = .string (match i with | 0 => kI | 1 => x1 | 2 => x2 | 3 => x3 | _ => x4) ∧ Hd (Below W2.heap.size W2 wx))
  case atStart => exact ⟨0, rfl, rfl, rfl, ⟨Below.refl _ _⟩⟩
  case round =>
    obtain ⟨i, hi, rfl, rfl, HB⟩ := hrel
    have K3 := Hd.mk (K2.out.call HB.out)
    have h3 : i = 0 ∨ i = 1 ∨ i = 2 ∨ i = 3 ∨ i = 4 := by omega
    rcases h3 with rfl | rfl | rfl | rfl | rfl
    · skip
      have g0 := cell_of_row wr _ 0 _ _ _ (K3.out.get 0 rfl)
      have g1 := cell_of_row wr _ 1 _ _ _ (K3.out.get 0 rfl)
      have g2 := cell_of_row wr _ 2 _ _ _ (K3.out.get 0 rfl)
      have g3 := cell_of_row wr _ 3 _ _ _ (K3.out.get 0 rfl)
      have g4 := cell_of_row wr _ 4 _ _ _ (K3.out.get 0 rfl)
      have g5 := cell_of_row wr _ 5 _ _ _ (K3.out.get 0 rfl)
      have g6 := cell_of_row wr _ 6 _ _ _ (K3.out.get 0 rfl)
      have g7 := cell_of_row wr _ 7 _ _ _ (K3.out.get 0 rfl)
      have hlt := K3.out.lt 0 rfl
      go_wp2_with fail
      refine (H1.out _).mono ?_; rintro e w5 ⟨rfl, hb5⟩
      have HB5 := Hd.mk (below_step (HB.out.alloc HB.out.size _) hb5)
      clear hb5 hlt
      clear g0 g1 g2 g3 g4 g5 g6 g7
      go_wp2_with fail
      go_roundg (3)
      case measure => omega
      case rel => exact ⟨1, by omega, rfl, by rw [HX1.out]; rfl, HB5⟩
    · skip
      have g0 := cell_of_row wr _ 0 _ _ _ (K3.out.get 0 rfl)
      have g1 := cell_of_row wr _ 1 _ _ _ (K3.out.get 0 rfl)
      have g2 := cell_of_row wr _ 2 _ _ _ (K3.out.get 0 rfl)
      have g3 := cell_of_row wr _ 3 _ _ _ (K3.out.get 0 rfl)
      have g4 := cell_of_row wr _ 4 _ _ _ (K3.out.get 0 rfl)
      have g5 := cell_of_row wr _ 5 _ _ _ (K3.out.get 0 rfl)
      have g6 := cell_of_row wr _ 6 _ _ _ (K3.out.get 0 rfl)
      have g7 := cell_of_row wr _ 7 _ _ _ (K3.out.get 0 rfl)
      have hlt := K3.out.lt 0 rfl
      go_wp2_with fail
      refine (H2.out _).mono ?_; rintro e w5 ⟨rfl, hb5⟩
      have HB5 := Hd.mk (below_step (HB.out.alloc HB.out.size _) hb5)
      clear hb5 hlt
      clear g0 g1 g2 g3 g4 g5 g6 g7
      go_wp2_with fail
      go_roundg (2)
      case measure => omega
      case rel => exact ⟨2, by omega, rfl, by rw [HX2.out]; rfl, HB5⟩
    · skip
      have g0 := cell_of_row wr _ 0 _ _ _ (K3.out.get 0 rfl)
      have g1 := cell_of_row wr _ 1 _ _ _ (K3.out.get 0 rfl)
      have g2 := cell_of_row wr _ 2 _ _ _ (K3.out.get 0 rfl)
      have g3 := cell_of_row wr _ 3 _ _ _ (K3.out.get 0 rfl)
      have g4 := cell_of_row wr _ 4 _ _ _ (K3.out.get 0 rfl)
      have g5 := cell_of_row wr _ 5 _ _ _ (K3.out.get 0 rfl)
      have g6 := cell_of_row wr _ 6 _ _ _ (K3.out.get 0 rfl)
      have g7 := cell_of_row wr _ 7 _ _ _ (K3.out.get 0 rfl)
      have hlt := K3.out.lt 0 rfl
      go_wp2_with fail
      refine (H3.out _).mono ?_; rintro e w5 ⟨rfl, hb5⟩
      have HB5 := Hd.mk (below_step (HB.out.alloc HB.out.size _) hb5)
      clear hb5 hlt
      clear g0 g1 g2 g3 g4 g5 g6 g7
      go_wp2_with fail
      go_roundg (1)
      case measure => omega
      case rel => exact ⟨3, by omega, rfl, by rw [HX3.out]; rfl, HB5⟩
    · skip
      have g0 := cell_of_row wr _ 0 _ _ _ (K3.out.get 0 rfl)
      have g1 := cell_of_row wr _ 1 _ _ _ (K3.out.get 0 rfl)
      have g2 := cell_of_row wr _ 2 _ _ _ (K3.out.get 0 rfl)
      have g3 := cell_of_row wr _ 3 _ _ _ (K3.out.get 0 rfl)
      have g4 := cell_of_row wr _ 4 _ _ _ (K3.out.get 0 rfl)
      have g5 := cell_of_row wr _ 5 _ _ _ (K3.out.get 0 rfl)
      have g6 := cell_of_row wr _ 6 _ _ _ (K3.out.get 0 rfl)
      have g7 := cell_of_row wr _ 7 _ _ _ (K3.out.get 0 rfl)
      have hlt := K3.out.lt 0 rfl
      go_wp2_with fail
      refine (H4.out _).mono ?_; rintro e w5 ⟨rfl, hb5⟩
      have HB5 := Hd.mk (below_step (HB.out.alloc HB.out.size _) hb5)
      clear hb5 hlt
      clear g0 g1 g2 g3 g4 g5 g6 g7
      go_wp2_with fail
      go_roundg (0)
      case measure => omega
      case rel => exact ⟨4, by omega, rfl, by rw [HX4.out]; rfl, HB5⟩
    · go_wp2_with fail
      have HZ := Hd.mk (show Holds w [(w.heap.size, .cells #[.int .i64 t, .int .i64 r, .int .i64 k, .int .i64 a0, .int .i64 a1, .int .i64 i0, .int .i64 i1, .int .i64 t0, .int .i64 t1, .string nm, .string nw, .int .i64 off, .string dt] 36 (0, 0))] wr from K3.out.rest)
      clear H1 H2 H3 H4 K2 K3 HB K1
      have y5 : (9223372036854775807 < x4.size + s1.size) = False := eq_false (Nat.not_lt.2 m5)
      have y6 : (9223372036854775807 < x4.size + s1.size + s2.size) = False := eq_false (Nat.not_lt.2 m6)
      have y7 : (9223372036854775807 < x4.size + s1.size + s2.size + oI.size) = False := eq_false (Nat.not_lt.2 m7)
      have y8 : (9223372036854775807 < x4.size + s1.size + s2.size + oI.size + s3.size) = False := eq_false (Nat.not_lt.2 m8)
      refine st_ 18 (S := fun W_ => Holds w [(w.heap.size, .cells #[.int .i64 t, .int .i64 r, .int .i64 k, .int .i64 a0, .int .i64 a1, .int .i64 i0, .int .i64 i1, .int .i64 t0, .int .i64 t1, .string nm, .string nw, .int .i64 off, .string dt] 36 (0, 0))] W_) (ds := []) (HZ.out.drew) (fun hHeld => ?_)
      refine pu_ 0 (some 28) ?_
      refine pu_ 1 (some 29) ?_
      refine tk_ 2 (some 30) (.string nm) rfl (fun w' h => by have c := cell_of_row w' _ 9 _ _ _ (h.get 0 rfl); go_simp) hHeld ?_
      refine pu_ 5 (some 33) ?_
      refine tk_ 6 (some 34) (.string nw) rfl (fun w' h => by have c := cell_of_row w' _ 10 _ _ _ (h.get 0 rfl); go_simp) hHeld ?_
      refine pu_ 9 (some 37) ?_
      refine tk_ 10 (some 38) (.int .i64 off) rfl (fun w' h => by have c := cell_of_row w' _ 11 _ _ _ (h.get 0 rfl); go_simp) hHeld ?_
      refine pu_ 13 (some 41) ?_
      refine tk_ 14 (some 42) (.string dt) rfl (fun w' h => by have c := cell_of_row w' _ 12 _ _ _ (h.get 0 rfl); go_simp) hHeld ?_
      refine cb_ 3 (some 31) Tryz.func83 HN (fun _ hr => hHeld.call hr) (fun wr1 hHeld => ?_)
      refine pu_ 4 (some 32) ?_
      refine cb_ 7 (some 35) Tryz.func83 HW (fun _ hr => hHeld.call hr) (fun wr2 hHeld => ?_)
      refine pu_ 8 (some 36) ?_
      refine cb_ 11 (some 39) Tryz.func48 HO (fun _ hr => hHeld.call hr) (fun wr3 hHeld => ?_)
      refine pu_ 12 (some 40) ?_
      refine cb_ 15 (some 43) Tryz.func83 HD (fun _ hr => hHeld.call hr) (fun wr4 hHeld => ?_)
      refine pu_ 16 (some 44) ?_
      refine pu_ 17 (some 2) ?_
      refine done_ (by kernel_rfl) ?_
      go_wp2_with fail
      go_ret
      exact ⟨by rw [← HX1.out, ← HX2.out, ← HX3.out, ← HX4.out]; rfl, hHeld.2⟩
/-- An operation as bytes. -/
def putO (t r k a0 a1 i0 i1 t0 t1 : Int) (nm nw : ByteArray) (off : Int) (dt : ByteArray) : ByteArray :=
  strOfNums (num (zig k)) ++ putS t r ++ putS a0 a1 ++ putS i0 i1 ++ putS t0 t1 ++ (strOfNums (num nm.size) ++ nm) ++ (strOfNums (num nw.size) ++ nw) ++ strOfNums (num (zig off)) ++ (strOfNums (num dt.size) ++ dt)
theorem putS_size {t r : Int} (ht : Rng t) (hr : Rng r) : (putS t r).size ≤ 20 := by
  unfold putS
  rw [size_app]
  have := num_size (zig_lt ht.1 ht.2)
  have := num_size (zig_lt hr.1 hr.2)
  omega
theorem text_size {s : ByteArray} (h : s.size ≤ 140737488355328) : (strOfNums (num s.size) ++ s).size ≤ 140737488355400 := by
  rw [size_app]
  have := num_size (n := s.size) (by omega)
  omega
theorem op_Put {t r k a0 a1 i0 i1 t0 t1 off : Int} {nm nw dt : ByteArray} (hr : OpRng t r k a0 a1 i0 i1 t0 t1 off) (h1 : nm.size ≤ 140737488355328) (h2 : nw.size ≤ 140737488355328) (h3 : dt.size ≤ 140737488355328) (w : World) :
    Calls Tryz.prog 50 #[.agg #[.int .i64 t, .int .i64 r, .int .i64 k, .int .i64 a0, .int .i64 a1, .int .i64 i0, .int .i64 i1, .int .i64 t0, .int .i64 t1, .string nm, .string nw, .int .i64 off, .string dt]] w fun e w' => e = .returned (.string (putO t r k a0 a1 i0 i1 t0 t1 nm nw off dt)) ∧ Below w.heap.size w w' := by
  obtain ⟨b1, b2, b3, b4, b5, b6, b7, b8, b9, b10⟩ := hr
  exact Put_walk t r k a0 a1 i0 i1 t0 t1 off nm nw dt _ _ _ _ _ _ _ _ _ w ⟨num_size (zig_lt b3.1 b3.2), putS_size b1 b2, putS_size b4 b5, putS_size b6 b7, putS_size b8 b9, text_size h1, text_size h2, num_size (zig_lt b10.1 b10.2), text_size h3⟩
    ⟨pack_Int k b3.1 b3.2⟩ ⟨stamp_Put t r b1 b2⟩ ⟨stamp_Put a0 a1 b4 b5⟩ ⟨stamp_Put i0 i1 b6 b7⟩ ⟨stamp_Put t0 t1 b8 b9⟩ ⟨pack_Text nm h1⟩ ⟨pack_Text nw h2⟩ ⟨pack_Int off b10.1 b10.2⟩ ⟨pack_Text dt h3⟩
end Go.Proofs.YtcgkkjfbdappoaaGreat

/- What is known of the world, in a region whose order is open, may grow. -/
namespace Go.Proofs.YtcgkkjfbdappoaaGreat
open Go.RowKit Go.Proofs.YtcgkkjfbdappoaaGreatW.PrintWords Go.Proofs.YtcgkkjfbdappoaaGreatW.PrintLast Go.Proofs.YtcgkkjfbdappoaaGreatW.PrintMore
set_option linter.unusedVariables false
theorem more_ {P : Program} {md : Region.Mode} {ops : Array Oper} {Q : Exit → Act → World → Prop} {S : World → Prop} (S' : World → Prop) (hS : ∀ w, S' w → S w) :
    ∀ {fuel : Nat} {l : Array Bool} {a : Act} {w : World}, S' w → (S' w → wpAnyLast P md ops Q S' [] fuel l a w) → wpAnyLast P md ops Q S [] fuel l a w
  | 0, _, _, _, h, H => H h
  | fuel + 1, l, a, w, h, H => by
    have H1 := H h
    refine ⟨H1.1, fun i hi => wpOp_mono (fun a' w' h' => ?_) (H1.2 i hi)⟩
    have h2 := h'.1 (by simp) h
    exact ⟨fun _ _ => hS _ h2, more_ S' hS h2 (fun _ => h'.2)⟩
end Go.Proofs.YtcgkkjfbdappoaaGreat

/- thimbleref05.Stamps: whether two lists of stamps are the same. -/
namespace Go.Proofs.YtcgkkjfbdappoaaGreat
open Go.RowKit Go.Proofs.YtcgkkjfbdappoaaGreatW.PrintWords Go.Proofs.YtcgkkjfbdappoaaGreatW.PrintLast Go.Proofs.YtcgkkjfbdappoaaGreatW.PrintMore
set_option linter.unusedVariables false
set_option linter.unusedSimpArgs false
attribute [local go_sem high] eqStamp
end Go.Proofs.YtcgkkjfbdappoaaGreat
