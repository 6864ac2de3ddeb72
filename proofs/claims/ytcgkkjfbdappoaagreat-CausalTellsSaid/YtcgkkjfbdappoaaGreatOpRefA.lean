/- Texts that belong together, in one. -/
import Derived.Test.YtcgkkjfbdappoaaGreatOpRef0
import Derived.Test.YtcgkkjfbdappoaaGreatOpRefY
/- The document's Put of an operation. -/
namespace Go.Proofs.YtcgkkjfbdappoaaGreat
open Go.RowKit Go.Proofs.YtcgkkjfbdappoaaGreatW.PrintWords Go.Proofs.YtcgkkjfbdappoaaGreatW.PrintLast Go.Proofs.YtcgkkjfbdappoaaGreatW.PrintMore Pk
set_option linter.unusedVariables false
set_option linter.unusedSimpArgs false

set_option maxHeartbeats 4000000 in
set_option maxRecDepth 100000 in
theorem refPut_walk (t r k a0 a1 i0 i1 t0 t1 off : Int) (nm nw dt : ByteArray) (kI p1 p2 p3 p4 s1 s2 oI s3 : ByteArray) (w : World) (hz : kI.size ≤ 10 ∧ p1.size ≤ 20 ∧ p2.size ≤ 20 ∧ p3.size ≤ 20 ∧ p4.size ≤ 20 ∧ s1.size ≤ 140737488355400 ∧ s2.size ≤ 140737488355400 ∧ oI.size ≤ 10 ∧ s3.size ≤ 140737488355400)
    (HI : Hd (∀ w, Calls Tryz.prog 53 #[.int .i64 k] w fun e w' => e = .returned (.string kI) ∧ Below w.heap.size w w'))
    (H1 : Hd (∀ w, Calls Tryz.prog 89 #[.agg #[.int .i64 t, .int .i64 r]] w fun e w' => e = .returned (.string p1) ∧ Below w.heap.size w w'))
    (H2 : Hd (∀ w, Calls Tryz.prog 89 #[.agg #[.int .i64 a0, .int .i64 a1]] w fun e w' => e = .returned (.string p2) ∧ Below w.heap.size w w'))
    (H3 : Hd (∀ w, Calls Tryz.prog 89 #[.agg #[.int .i64 i0, .int .i64 i1]] w fun e w' => e = .returned (.string p3) ∧ Below w.heap.size w w'))
    (H4 : Hd (∀ w, Calls Tryz.prog 89 #[.agg #[.int .i64 t0, .int .i64 t1]] w fun e w' => e = .returned (.string p4) ∧ Below w.heap.size w w'))
    (HN : Hd (∀ w, Calls Tryz.prog 90 #[.string nm] w fun e w' => e = .returned (.string s1) ∧ Below w.heap.size w w'))
    (HW : Hd (∀ w, Calls Tryz.prog 90 #[.string nw] w fun e w' => e = .returned (.string s2) ∧ Below w.heap.size w w'))
    (HO : Hd (∀ w, Calls Tryz.prog 53 #[.int .i64 off] w fun e w' => e = .returned (.string oI) ∧ Below w.heap.size w w'))
    (HD : Hd (∀ w, Calls Tryz.prog 90 #[.string dt] w fun e w' => e = .returned (.string s3) ∧ Below w.heap.size w w')) :
    Calls Tryz.prog 55 #[.agg #[.int .i64 t, .int .i64 r, .int .i64 k, .int .i64 a0, .int .i64 a1, .int .i64 i0, .int .i64 i1, .int .i64 t0, .int .i64 t1, .string nm, .string nw, .int .i64 off, .string dt]] w fun e w' => e = .returned (.string (kI ++ p1 ++ p2 ++ p3 ++ p4 ++ s1 ++ s2 ++ oI ++ s3)) ∧ Below w.heap.size w w' := by
  have K0 := Hd.mk (Holds.start1 w (.cells #[.int .i64 t, .int .i64 r, .int .i64 k, .int .i64 a0, .int .i64 a1, .int .i64 i0, .int .i64 i1, .int .i64 t0, .int .i64 t1, .string nm, .string nw, .int .i64 off, .string dt] 36 (0, 0)))
  obtain ⟨z0, z1, z2, z3, z4, z5, z6, z7, z8⟩ := hz
  obtain ⟨x1, hx1⟩ : ∃ x, x = kI ++ p1 := ⟨_, rfl⟩
  obtain ⟨x2, hx2⟩ : ∃ x, x = x1 ++ p2 := ⟨_, rfl⟩
  obtain ⟨x3, hx3⟩ : ∃ x, x = x2 ++ p3 := ⟨_, rfl⟩
  obtain ⟨x4, hx4⟩ : ∃ x, x = x3 ++ p4 := ⟨_, rfl⟩
  have q1 : x1.size = kI.size + p1.size := by rw [hx1, size_app]
  have q2 : x2.size = x1.size + p2.size := by rw [hx2, size_app]
  have q3 : x3.size = x2.size + p3.size := by rw [hx3, size_app]
  have q4 : x4.size = x3.size + p4.size := by rw [hx4, size_app]
  have m1 : kI.size + p1.size ≤ 9223372036854775807 := by omega
  have m2 : x1.size + p2.size ≤ 9223372036854775807 := by omega
  have m3 : x2.size + p3.size ≤ 9223372036854775807 := by omega
  have m4 : x3.size + p4.size ≤ 9223372036854775807 := by omega
  have m5 : x4.size + s1.size ≤ 9223372036854775807 := by omega
  have m6 : x4.size + s1.size + s2.size ≤ 9223372036854775807 := by omega
  have m7 : x4.size + s1.size + s2.size + oI.size ≤ 9223372036854775807 := by omega
  have m8 : x4.size + s1.size + s2.size + oI.size + s3.size ≤ 9223372036854775807 := by omega
  have HX4 := Hd.mk (show x4 = kI ++ p1 ++ p2 ++ p3 ++ p4 by rw [hx4, hx3, hx2, hx1])
  have y1 : (9223372036854775807 < kI.size + p1.size) = False := eq_false (Nat.not_lt.2 m1)
  have y2 : (9223372036854775807 < kI.size + p1.size + p2.size) = False := eq_false (Nat.not_lt.2 (by omega))
  have y3 : (9223372036854775807 < kI.size + p1.size + p2.size + p3.size) = False := eq_false (Nat.not_lt.2 (by omega))
  have y4 : (9223372036854775807 < kI.size + p1.size + p2.size + p3.size + p4.size) = False := eq_false (Nat.not_lt.2 (by omega))
  clear q1 q2 q3 q4 hx1 hx2 hx3 hx4 z0 z1 z2 z3 z4 z5 z6 z7 z8
  go_enter Tryz.func55, Tryz.ntmps55
  go_upto_region 1 with (fail)
  refine world_gen _ K0.out (fun W hK => ?_)
  have K1 := Hd.mk hK
  clear hK K0
  refine st_ 20 (S := fun W_ => Holds w [(w.heap.size, .cells #[.int .i64 t, .int .i64 r, .int .i64 k, .int .i64 a0, .int .i64 a1, .int .i64 i0, .int .i64 i1, .int .i64 t0, .int .i64 t1, .string nm, .string nw, .int .i64 off, .string dt] 36 (0, 0))] W_) (ds := []) (K1.out.drew) (fun hHeld => ?_)
  refine pu_ 0 (some 4) ?_
  refine tk_ 1 (some 5) (.int .i64 k) rfl (fun w' h => by have c := cell_of_row w' _ 2 _ _ _ (h.get 0 rfl); go_simp) hHeld ?_
  refine pu_ 3 (some 7) ?_
  refine tk_ 4 (some 8) (.agg #[.int .i64 t, .int .i64 r]) rfl (fun w' h => run_load_mid 34 _ rfl w.heap.size 0 [.int .i64 t, .int .i64 r] rfl _ _ _ (h.get 0 rfl) (two_at rfl rfl) _ Tryz.underlying34 rfl size_stamp) hHeld ?_
  refine pu_ 7 (some 11) ?_
  refine tk_ 8 (some 12) (.agg #[.int .i64 a0, .int .i64 a1]) rfl (fun w' h => run_load_mid 34 _ rfl w.heap.size 3 [.int .i64 a0, .int .i64 a1] rfl _ _ _ (h.get 0 rfl) (two_at rfl rfl) _ Tryz.underlying34 rfl size_stamp) hHeld ?_
  refine pu_ 11 (some 15) ?_
  refine tk_ 12 (some 16) (.agg #[.int .i64 i0, .int .i64 i1]) rfl (fun w' h => run_load_mid 34 _ rfl w.heap.size 5 [.int .i64 i0, .int .i64 i1] rfl _ _ _ (h.get 0 rfl) (two_at rfl rfl) _ Tryz.underlying34 rfl size_stamp) hHeld ?_
  refine pu_ 15 (some 19) ?_
  refine tk_ 16 (some 20) (.agg #[.int .i64 t0, .int .i64 t1]) rfl (fun w' h => run_load_mid 34 _ rfl w.heap.size 7 [.int .i64 t0, .int .i64 t1] rfl _ _ _ (h.get 0 rfl) (two_at rfl rfl) _ Tryz.underlying34 rfl size_stamp) hHeld ?_
  refine cb_ 2 (some 6) Tryz.func53 HI (fun _ hr => hHeld.call hr) (fun wr1 hHeld => ?_)
  refine cb_ 5 (some 9) Tryz.func89 H1 (fun _ hr => hHeld.call hr) (fun wr2 hHeld => ?_)
  refine pu_ 6 (some 10) ?_
  refine cb_ 9 (some 13) Tryz.func89 H2 (fun _ hr => hHeld.call hr) (fun wr3 hHeld => ?_)
  refine pu_ 10 (some 14) ?_
  refine cb_ 13 (some 17) Tryz.func89 H3 (fun _ hr => hHeld.call hr) (fun wr4 hHeld => ?_)
  refine pu_ 14 (some 18) ?_
  refine cb_ 17 (some 21) Tryz.func89 H4 (fun _ hr => hHeld.call hr) (fun wr5 hHeld => ?_)
  refine pu_ 18 (some 22) ?_
  refine pu_ 19 (some 3) ?_
  refine done_ (by kernel_rfl) ?_
  clear y1 y2 y3 y4
  rw [← HX4.out]
  go_upto_region 2 with (fail)
  have HZ := Hd.mk hHeld
  clear hHeld
  have y5 : (9223372036854775807 < x4.size + s1.size) = False := eq_false (Nat.not_lt.2 m5)
  have y6 : (9223372036854775807 < x4.size + s1.size + s2.size) = False := eq_false (Nat.not_lt.2 m6)
  have y7 : (9223372036854775807 < x4.size + s1.size + s2.size + oI.size) = False := eq_false (Nat.not_lt.2 m7)
  have y8 : (9223372036854775807 < x4.size + s1.size + s2.size + oI.size + s3.size) = False := eq_false (Nat.not_lt.2 m8)
  refine st_ 18 (S := fun W_ => Holds w [(w.heap.size, .cells #[.int .i64 t, .int .i64 r, .int .i64 k, .int .i64 a0, .int .i64 a1, .int .i64 i0, .int .i64 i1, .int .i64 t0, .int .i64 t1, .string nm, .string nw, .int .i64 off, .string dt] 36 (0, 0))] W_) (ds := []) (HZ.out.drew) (fun hHeld => ?_)
  refine pu_ 0 (some 23) ?_
  refine pu_ 1 (some 24) ?_
  refine tk_ 2 (some 25) (.string nm) rfl (fun w' h => by have c := cell_of_row w' _ 9 _ _ _ (h.get 0 rfl); go_simp) hHeld ?_
  refine pu_ 5 (some 28) ?_
  refine tk_ 6 (some 29) (.string nw) rfl (fun w' h => by have c := cell_of_row w' _ 10 _ _ _ (h.get 0 rfl); go_simp) hHeld ?_
  refine pu_ 9 (some 32) ?_
  refine tk_ 10 (some 33) (.int .i64 off) rfl (fun w' h => by have c := cell_of_row w' _ 11 _ _ _ (h.get 0 rfl); go_simp) hHeld ?_
  refine pu_ 13 (some 36) ?_
  refine tk_ 14 (some 37) (.string dt) rfl (fun w' h => by have c := cell_of_row w' _ 12 _ _ _ (h.get 0 rfl); go_simp) hHeld ?_
  refine cb_ 3 (some 26) Tryz.func90 HN (fun _ hr => hHeld.call hr) (fun wr6 hHeld => ?_)
  refine pu_ 4 (some 27) ?_
  refine cb_ 7 (some 30) Tryz.func90 HW (fun _ hr => hHeld.call hr) (fun wr7 hHeld => ?_)
  refine pu_ 8 (some 31) ?_
  refine cb_ 11 (some 34) Tryz.func53 HO (fun _ hr => hHeld.call hr) (fun wr8 hHeld => ?_)
  refine pu_ 12 (some 35) ?_
  refine cb_ 15 (some 38) Tryz.func90 HD (fun _ hr => hHeld.call hr) (fun wr9 hHeld => ?_)
  refine pu_ 16 (some 39) ?_
  refine pu_ 17 (some 2) ?_
  refine done_ (by kernel_rfl) ?_
  go_wp2_with fail
  go_ret
  exact ⟨by rw [← HX4.out]; rfl, hHeld.2⟩
theorem ref_Put {t r k a0 a1 i0 i1 t0 t1 off : Int} {nm nw dt : ByteArray} (hr : OpRng t r k a0 a1 i0 i1 t0 t1 off) (h1 : nm.size ≤ 140737488355328) (h2 : nw.size ≤ 140737488355328) (h3 : dt.size ≤ 140737488355328) (w : World) :
    Calls Tryz.prog 55 #[.agg #[.int .i64 t, .int .i64 r, .int .i64 k, .int .i64 a0, .int .i64 a1, .int .i64 i0, .int .i64 i1, .int .i64 t0, .int .i64 t1, .string nm, .string nw, .int .i64 off, .string dt]] w fun e w' => e = .returned (.string (putO t r k a0 a1 i0 i1 t0 t1 nm nw off dt)) ∧ Below w.heap.size w w' := by
  obtain ⟨b1, b2, b3, b4, b5, b6, b7, b8, b9, b10⟩ := hr
  exact refPut_walk t r k a0 a1 i0 i1 t0 t1 off nm nw dt _ _ _ _ _ _ _ _ _ w ⟨num_size (zig_lt b3.1 b3.2), putS_size b1 b2, putS_size b4 b5, putS_size b6 b7, putS_size b8 b9, text_size h1, text_size h2, num_size (zig_lt b10.1 b10.2), text_size h3⟩
    ⟨ref_Int k b3.1 b3.2⟩ ⟨ref_stampPut t r b1 b2⟩ ⟨ref_stampPut a0 a1 b4 b5⟩ ⟨ref_stampPut i0 i1 b6 b7⟩ ⟨ref_stampPut t0 t1 b8 b9⟩ ⟨ref_Text nm h1⟩ ⟨ref_Text nw h2⟩ ⟨ref_Int off b10.1 b10.2⟩ ⟨ref_Text dt h3⟩
end Go.Proofs.YtcgkkjfbdappoaaGreat

/- The document's Take of an operation: four stamps, and all of it. -/
namespace Go.Proofs.YtcgkkjfbdappoaaGreat
open Go.RowKit Go.Proofs.YtcgkkjfbdappoaaGreatW.PrintWords Go.Proofs.YtcgkkjfbdappoaaGreatW.PrintLast Go.Proofs.YtcgkkjfbdappoaaGreatW.PrintMore Pk
set_option linter.unusedVariables false
set_option linter.unusedSimpArgs false

/-- What the document's four stamps are told as. -/
def StRes (w : World) (z : ByteArray) (B : Bool) (L : List (Int × Int)) (e : Ending) (w' : World) : Prop :=
  ∃ v, e = .returned (.tuple #[v, .string (if B = true then ⟨#[]⟩ else z), .int .i64 (if B = true then 2 else 0)]) ∧ (B = false → stE.Own w.heap.size w' v L) ∧ Below w.heap.size w w'
theorem StRes.no {w w' : World} {z : ByteArray} {B : Bool} {L : List (Int × Int)} {e : Ending} (h : B = true) (v : Value) (he : e = .returned (.tuple #[v, .string ⟨#[]⟩, .int .i64 2])) (hb : Below w.heap.size w w') : StRes w z B L e w' := by
  subst h
  exact ⟨v, he, fun h => absurd h (by decide), hb⟩
theorem StRes.yes {w w' : World} {z : ByteArray} {B : Bool} {L : List (Int × Int)} {e : Ending} (h : B = false) (v : Value) (he : e = .returned (.tuple #[v, .string z, .int .i64 0])) (ho : stE.Own w.heap.size w' v L) (hb : Below w.heap.size w w') : StRes w z B L e w' := by
  subst h
  exact ⟨v, he, fun _ => ho, hb⟩
set_option maxHeartbeats 8000000 in
set_option maxRecDepth 100000 in
theorem refstamps_walk (z0 z1 z2 z3 z4 : ByteArray) (x1 m1 x2 m2 x3 m3 x4 m4 : Int) (c1 c2 c3 c4 : Int) (w : World)
    (H1 : Hd (∀ w, Calls Tryz.prog 99 #[.string z0] w fun e w' => e = .returned (.tuple #[.agg #[.int .i64 x1, .int .i64 m1], .string z1, .int .i64 c1]) ∧ Below w.heap.size w w'))
    (H2 : Hd (∀ w, Calls Tryz.prog 99 #[.string z1] w fun e w' => e = .returned (.tuple #[.agg #[.int .i64 x2, .int .i64 m2], .string z2, .int .i64 c2]) ∧ Below w.heap.size w w'))
    (H3 : Hd (∀ w, Calls Tryz.prog 99 #[.string z2] w fun e w' => e = .returned (.tuple #[.agg #[.int .i64 x3, .int .i64 m3], .string z3, .int .i64 c3]) ∧ Below w.heap.size w w'))
    (H4 : Hd (∀ w, Calls Tryz.prog 99 #[.string z3] w fun e w' => e = .returned (.tuple #[.agg #[.int .i64 x4, .int .i64 m4], .string z4, .int .i64 c4]) ∧ Below w.heap.size w w'))
    (B : Bool) (hB : Hd (B = (((c1 != 0 || c2 != 0) || c3 != 0) || c4 != 0))) :
    Calls Tryz.prog 75 #[.string z0, .int .i64 4] w fun e w' => StRes w z4 B [(x1, m1), (x2, m2), (x3, m3), (x4, m4)] e w' := by
  go_enter Tryz.func75, Tryz.ntmps75
  go_upto_region 3 with (fail)
  have HBf := Hd.mk (fun (h : B = true) => h)
  have NB1 : Hd ((c1 != 0) = true → B = true) := ⟨fun h => by rw [hB.out, h]; rfl⟩
  have NB2 : Hd ((c2 != 0) = true → B = true) := ⟨fun h => by rw [hB.out, h]; simp⟩
  have NB3 : Hd ((c3 != 0) = true → B = true) := ⟨fun h => by rw [hB.out, h]; simp⟩
  have NB4 : Hd ((c4 != 0) = true → B = true) := ⟨fun h => by rw [hB.out, h]; simp⟩
  have NG : Hd ((c1 != 0) = false → (c2 != 0) = false → (c3 != 0) = false → (c4 != 0) = false → B = false) := ⟨fun h1 h2 h3 h4 => by rw [hB.out, h1, h2, h3, h4]; rfl⟩
  clear hB HBf
  go_loopg [0, 7, 8] 4 (fun q v0 v7 v8 wx => ∃ i : Nat, i + q = 4 ∧ v8 = .int .i64 (i : Int) ∧ v0 = .string (match i with | 0 => z0 | 1 => z1 | 2 => z2 | 3 => z3 | _ => z4) ∧ Hd ((0 < i → (c1 != 0) = false) ∧ (1 < i → (c2 != 0) = false) ∧ (2 < i → (c3 != 0) = false) ∧ (3 < i → (c4 != 0) = false)) ∧ Hd (stE.Own w.heap.size wx v7 (match i with | 0 => [] | 1 => [(x1, m1)] | 2 => [(x1, m1), (x2, m2)] | 3 => [(x1, m1), (x2, m2), (x3, m3)] | _ => [(x1, m1), (x2, m2), (x3, m3), (x4, m4)])) ∧ Hd (Below w.heap.size w wx))
  case atStart => exact ⟨0, rfl, rfl, rfl, ⟨⟨by simp, by simp, by simp, by simp⟩⟩, ⟨Elt.Own.nil _ _⟩, ⟨Below.refl _ _⟩⟩
  case round =>
    obtain ⟨i, hi, rfl, rfl, HC, HO, HB⟩ := hrel
    obtain ⟨v, hv7⟩ : ∃ v, v = u7 := ⟨_, rfl⟩
    subst hv7
    have h3 : i = 0 ∨ i = 1 ∨ i = 2 ∨ i = 3 ∨ i = 4 := by omega
    rcases h3 with rfl | rfl | rfl | rfl | rfl
    · have HO1 : Hd (stE.Own w.heap.size wr v []) := HO
      clear HO
      try dsimp only
      go_wp2_with fail
      refine (H1.out _).mono ?_; rintro e w5 ⟨rfl, hb⟩
      have HB5 := Hd.mk (below_step HB.out hb)
      have HO5 := Hd.mk (HO1.out.below hb)
      clear hb HO1 HB
      cases hc : (c1 != 0) with
      | true =>
        have hb := NB1.out hc
        have HT := Hd.mk hb
        clear hb NB1 NB2 NB3 NB4 NG
        go_wp2_with fail
        go_ret3
        exact StRes.no HT.out _ rfl (HB5.out.alloc HB5.out.size _)
      | false =>
        go_wp2_with ((with_reducible refine gate_dst (N := 28) rfl ?_); refine stE.wpList_push rfl _ _ rfl rfl rfl rfl rfl _ _ _ rfl (HO5.out.below ((Below.refl _ _).alloc (Nat.le_refl _) _)) (x1, m1) rfl (by simp) rfl (by simp) w rfl (HB5.out.alloc HB5.out.size _) ?_; intro v2 w2 hown2 hbl2; have HO2 := Hd.mk hown2; have HB2 := Hd.mk hbl2; clear hown2 hbl2)
        go_roundg (3)
        case measure => omega
        case rel => exact ⟨1, by omega, rfl, rfl, ⟨by have h := HC.out; refine ⟨fun _ => ?_, fun _ => ?_, fun _ => ?_, fun _ => ?_⟩ <;> first | exact hc | exact h.1 (by omega) | exact h.2.1 (by omega) | exact h.2.2.1 (by omega) | omega⟩, HO2, HB2⟩
    · have HO1 : Hd (stE.Own w.heap.size wr v [(x1, m1)]) := HO
      clear HO
      try dsimp only
      go_wp2_with fail
      refine (H2.out _).mono ?_; rintro e w5 ⟨rfl, hb⟩
      have HB5 := Hd.mk (below_step HB.out hb)
      have HO5 := Hd.mk (HO1.out.below hb)
      clear hb HO1 HB
      cases hc : (c2 != 0) with
      | true =>
        have hb := NB2.out hc
        have HT := Hd.mk hb
        clear hb NB1 NB2 NB3 NB4 NG
        go_wp2_with fail
        go_ret3
        exact StRes.no HT.out _ rfl (HB5.out.alloc HB5.out.size _)
      | false =>
        go_wp2_with ((with_reducible refine gate_dst (N := 28) rfl ?_); refine stE.wpList_push rfl _ _ rfl rfl rfl rfl rfl _ _ _ rfl (HO5.out.below ((Below.refl _ _).alloc (Nat.le_refl _) _)) (x2, m2) rfl (by simp) rfl (by simp) w rfl (HB5.out.alloc HB5.out.size _) ?_; intro v2 w2 hown2 hbl2; have HO2 := Hd.mk hown2; have HB2 := Hd.mk hbl2; clear hown2 hbl2)
        go_roundg (2)
        case measure => omega
        case rel => exact ⟨2, by omega, rfl, rfl, ⟨by have h := HC.out; refine ⟨fun _ => ?_, fun _ => ?_, fun _ => ?_, fun _ => ?_⟩ <;> first | exact hc | exact h.1 (by omega) | exact h.2.1 (by omega) | exact h.2.2.1 (by omega) | omega⟩, HO2, HB2⟩
    · have HO1 : Hd (stE.Own w.heap.size wr v [(x1, m1), (x2, m2)]) := HO
      clear HO
      try dsimp only
      go_wp2_with fail
      refine (H3.out _).mono ?_; rintro e w5 ⟨rfl, hb⟩
      have HB5 := Hd.mk (below_step HB.out hb)
      have HO5 := Hd.mk (HO1.out.below hb)
      clear hb HO1 HB
      cases hc : (c3 != 0) with
      | true =>
        have hb := NB3.out hc
        have HT := Hd.mk hb
        clear hb NB1 NB2 NB3 NB4 NG
        go_wp2_with fail
        go_ret3
        exact StRes.no HT.out _ rfl (HB5.out.alloc HB5.out.size _)
      | false =>
        go_wp2_with ((with_reducible refine gate_dst (N := 28) rfl ?_); refine stE.wpList_push rfl _ _ rfl rfl rfl rfl rfl _ _ _ rfl (HO5.out.below ((Below.refl _ _).alloc (Nat.le_refl _) _)) (x3, m3) rfl (by simp) rfl (by simp) w rfl (HB5.out.alloc HB5.out.size _) ?_; intro v2 w2 hown2 hbl2; have HO2 := Hd.mk hown2; have HB2 := Hd.mk hbl2; clear hown2 hbl2)
        go_roundg (1)
        case measure => omega
        case rel => exact ⟨3, by omega, rfl, rfl, ⟨by have h := HC.out; refine ⟨fun _ => ?_, fun _ => ?_, fun _ => ?_, fun _ => ?_⟩ <;> first | exact hc | exact h.1 (by omega) | exact h.2.1 (by omega) | exact h.2.2.1 (by omega) | omega⟩, HO2, HB2⟩
    · have HO1 : Hd (stE.Own w.heap.size wr v [(x1, m1), (x2, m2), (x3, m3)]) := HO
      clear HO
      try dsimp only
      go_wp2_with fail
      refine (H4.out _).mono ?_; rintro e w5 ⟨rfl, hb⟩
      have HB5 := Hd.mk (below_step HB.out hb)
      have HO5 := Hd.mk (HO1.out.below hb)
      clear hb HO1 HB
      cases hc : (c4 != 0) with
      | true =>
        have hb := NB4.out hc
        have HT := Hd.mk hb
        clear hb NB1 NB2 NB3 NB4 NG
        go_wp2_with fail
        go_ret3
        exact StRes.no HT.out _ rfl (HB5.out.alloc HB5.out.size _)
      | false =>
        go_wp2_with ((with_reducible refine gate_dst (N := 28) rfl ?_); refine stE.wpList_push rfl _ _ rfl rfl rfl rfl rfl _ _ _ rfl (HO5.out.below ((Below.refl _ _).alloc (Nat.le_refl _) _)) (x4, m4) rfl (by simp) rfl (by simp) w rfl (HB5.out.alloc HB5.out.size _) ?_; intro v2 w2 hown2 hbl2; have HO2 := Hd.mk hown2; have HB2 := Hd.mk hbl2; clear hown2 hbl2)
        go_roundg (0)
        case measure => omega
        case rel => exact ⟨4, by omega, rfl, rfl, ⟨by have h := HC.out; refine ⟨fun _ => ?_, fun _ => ?_, fun _ => ?_, fun _ => ?_⟩ <;> first | exact hc | exact h.1 (by omega) | exact h.2.1 (by omega) | exact h.2.2.1 (by omega) | omega⟩, HO2, HB2⟩
    · have HO1 : Hd (stE.Own w.heap.size wr v [(x1, m1), (x2, m2), (x3, m3), (x4, m4)]) := HO
      have HT := Hd.mk (NG.out (HC.out.1 (by omega)) (HC.out.2.1 (by omega)) (HC.out.2.2.1 (by omega)) (HC.out.2.2.2 (by omega)))
      clear HO NG NB1 NB2 NB3 NB4 HC H1 H2 H3 H4
      try dsimp only
      go_wp2_with fail
      go_ret3
      exact StRes.yes HT.out _ rfl HO1.out HB.out
end Go.Proofs.YtcgkkjfbdappoaaGreat

/- The document's Take of an operation: its walk. -/
namespace Go.Proofs.YtcgkkjfbdappoaaGreat
open Go.RowKit Go.Proofs.YtcgkkjfbdappoaaGreatW.PrintWords Go.Proofs.YtcgkkjfbdappoaaGreatW.PrintLast Go.Proofs.YtcgkkjfbdappoaaGreatW.PrintMore Pk
set_option linter.unusedVariables false
set_option linter.unusedSimpArgs false

set_option maxRecDepth 100000 in
theorem run_alloc_op {o : Oper} {ρ : Operand → Value} {w : World} (ho : o.op = .alloc 36) :
    (execOp ρ o).run Tryz.prog w = .ok (.value (.pointer (some ⟨w.heap.size, 0, none⟩))) (w.alloc (.cells #[.int .i64 0, .int .i64 0, .int .i64 0, .int .i64 0, .int .i64 0, .int .i64 0, .int .i64 0, .int .i64 0, .int .i64 0, .string ⟨#[]⟩, .string ⟨#[]⟩, .int .i64 0, .string ⟨#[]⟩] 36 (0, 0))) := by
  have hz : ∀ w, (zeroValue 36).run Tryz.prog w = .ok (.agg #[.int .i64 0, .int .i64 0, .int .i64 0, .int .i64 0, .int .i64 0, .int .i64 0, .int .i64 0, .int .i64 0, .int .i64 0, .string ⟨#[]⟩, .string ⟨#[]⟩, .int .i64 0, .string ⟨#[]⟩]) w := fun w => by kernel_rfl
  unfold execOp
  simp only [ho]
  go_simp
set_option maxHeartbeats 8000000 in
set_option maxRecDepth 100000 in
theorem refTake_walk (o : OpV) (b z0 z4 z5 z6 z7 z8 z9 : ByteArray) (c0 c6 c7 c8 c9 : Int) (D mB : Bool) (w : World)
    (H0 : Hd (∀ w, Calls Tryz.prog 44 #[.string b] w fun e w' => e = .returned (.tuple #[.int .i64 o.k, .string z0, .int .i64 c0]) ∧ Below w.heap.size w w'))
    (HS : Hd (∀ w, Calls Tryz.prog 75 #[.string z0, .int .i64 4] w fun e w' => StRes w z4 D [(o.t, o.r), (o.a0, o.a1), (o.i0, o.i1), (o.t0, o.t1)] e w'))
    (H6 : Hd (∀ w, Calls Tryz.prog 76 #[.string z5, .int .i64 64] w fun e w' => e = .returned (.tuple #[.string o.nm, .string z6, .int .i64 c6]) ∧ Below w.heap.size w w'))
    (H7 : Hd (∀ w, Calls Tryz.prog 76 #[.string z6, .int .i64 64] w fun e w' => e = .returned (.tuple #[.string o.nw, .string z7, .int .i64 c7]) ∧ Below w.heap.size w w'))
    (H8 : Hd (∀ w, Calls Tryz.prog 44 #[.string z7] w fun e w' => e = .returned (.tuple #[.int .i64 o.off, .string z8, .int .i64 c8]) ∧ Below w.heap.size w w'))
    (H9 : Hd (∀ w, Calls Tryz.prog 76 #[.string z8, .int .i64 64] w fun e w' => e = .returned (.tuple #[.string o.dt, .string z9, .int .i64 c9]) ∧ Below w.heap.size w w'))
    (HM : Hd (∀ w, Calls Tryz.prog 51 #[.agg #[.int .i64 o.t, .int .i64 o.r, .int .i64 o.k, .int .i64 o.a0, .int .i64 o.a1, .int .i64 o.i0, .int .i64 o.i1, .int .i64 o.t0, .int .i64 o.t1, .string o.nm, .string o.nw, .int .i64 o.off, .string o.dt]] w fun e w' => e = .returned (.bool mB) ∧ Below w.heap.size w w'))
    (h5 : Hd (z5 = if D = true then ⟨#[]⟩ else z4)) (B : Bool) (hB : Hd (B = (((((c0 != 0 || D) || c6 != 0) || c7 != 0) || c8 != 0) || c9 != 0)))
    (V : Value) (hV0 : Hd ((B || !mB) = true → V = .tuple #[.agg #[.int .i64 0, .int .i64 0, .int .i64 0, .int .i64 0, .int .i64 0, .int .i64 0, .int .i64 0, .int .i64 0, .int .i64 0, .string ⟨#[]⟩, .string ⟨#[]⟩, .int .i64 0, .string ⟨#[]⟩], .string ⟨#[]⟩, .int .i64 2])) (hV1 : Hd ((B || !mB) = false → V = .tuple #[.agg #[.int .i64 o.t, .int .i64 o.r, .int .i64 o.k, .int .i64 o.a0, .int .i64 o.a1, .int .i64 o.i0, .int .i64 o.i1, .int .i64 o.t0, .int .i64 o.t1, .string o.nm, .string o.nw, .int .i64 o.off, .string o.dt], .string z9, .int .i64 0])) :
    Calls Tryz.prog 46 #[.string b] w fun e w' => e = .returned V ∧ Below w.heap.size w w' := by
  have K0 := Hd.mk (Holds.start1 w (.cells #[.int .i64 0, .int .i64 0, .int .i64 0, .int .i64 0, .int .i64 0, .int .i64 0, .int .i64 0, .int .i64 0, .int .i64 0, .string ⟨#[]⟩, .string ⟨#[]⟩, .int .i64 0, .string ⟨#[]⟩] 36 (0, 0)))
  go_enter Tryz.func46, Tryz.ntmps46
  go_wp2_with fail
  refine world_gen_calls _ K0.out (fun W hK => ?_)
  have K0 := Hd.mk hK
  clear hK
  refine (H0.out _).mono ?_; rintro e w1 ⟨rfl, hb1⟩
  have K1 := Hd.mk (K0.out.call hb1)
  clear hb1 K0 H0
  go_wp2_with fail
  refine (HS.out _).mono ?_; rintro e w2 ⟨v, rfl, hown, hb2⟩
  have K2 := Hd.mk (K1.out.call hb2)
  have HO := Hd.mk (fun h => own_base (hown h) K1.out.2.size)
  clear hown hb2 K1 HS
  rw [← h5.out]
  obtain ⟨cs, hcs⟩ : ∃ cs : Int, cs = if D = true then 2 else 0 := ⟨_, rfl⟩
  rw [← hcs]
  have HCS := Hd.mk hcs
  clear hcs
  go_wp2_with fail
  refine (H6.out _).mono ?_; rintro e w3 ⟨rfl, hb3⟩
  have K3 := Hd.mk (K2.out.call hb3)
  have HO := Hd.mk (fun h => (HO.out h).below hb3)
  clear hb3 K2 H6
  go_wp2_with fail
  refine (H7.out _).mono ?_; rintro e w4 ⟨rfl, hb4⟩
  have K4 := Hd.mk (K3.out.call hb4)
  have HO := Hd.mk (fun h => (HO.out h).below hb4)
  clear hb4 K3 H7
  go_wp2_with fail
  refine (H8.out _).mono ?_; rintro e w5 ⟨rfl, hb5⟩
  have K5 := Hd.mk (K4.out.call hb5)
  have HO := Hd.mk (fun h => (HO.out h).below hb5)
  clear hb5 K4 H8
  go_wp2_with fail
  refine (H9.out _).mono ?_; rintro e w6 ⟨rfl, hb6⟩
  have K6 := Hd.mk (K5.out.call hb6)
  have HO := Hd.mk (fun h => (HO.out h).below hb6)
  clear hb6 K5 H9
  go_upto_region 7 with (fail)
  have NB : Hd ((c0 != 0) = true ∨ D = true ∨ (c6 != 0) = true ∨ (c7 != 0) = true ∨ (c8 != 0) = true ∨ (c9 != 0) = true → (B || !mB) = true) := ⟨fun h => by rw [hB.out]; rcases h with h | h | h | h | h | h <;> rw [h] <;> simp⟩
  have NG : Hd ((c0 != 0) = false → D = false → (c6 != 0) = false → (c7 != 0) = false → (c8 != 0) = false → (c9 != 0) = false → B = false) := ⟨fun h0 h1 h2 h3 h4 h5 => by rw [hB.out, h0, h1, h2, h3, h4, h5]; rfl⟩
  have ND : Hd (D = true → (cs != 0) = true) := ⟨fun h => by rw [HCS.out, h]; rfl⟩
  have NE : Hd (D = false → (cs != 0) = false) := ⟨fun h => by rw [HCS.out, h]; rfl⟩
  clear hB h5 HCS
  cases hc0 : (c0 != 0) with
  | true =>
    have HBB := Hd.mk (hV0.out (NB.out (.inl hc0)))
    clear NB NG ND NE HM HO
    go_wp2_with (first | ((with_reducible refine gate_store (t := 36) rfl ?_); refine wpList_store_row rfl _ _ _ rfl w.heap.size #[.int .i64 0, .int .i64 0, .int .i64 0, .int .i64 0, .int .i64 0, .int .i64 0, .int .i64 0, .int .i64 0, .int .i64 0, .string ⟨#[]⟩, .string ⟨#[]⟩, .int .i64 0, .string ⟨#[]⟩] rfl rfl 36 #[.int .i64 0, .int .i64 0, .int .i64 0, .int .i64 0, .int .i64 0, .int .i64 0, .int .i64 0, .int .i64 0, .int .i64 0, .string ⟨#[]⟩, .string ⟨#[]⟩, .int .i64 0, .string ⟨#[]⟩] (K6.out.get 0 rfl) size_op13 rfl z13_one ?_))
    have hz := setRow_heap _ _ _ #[.int .i64 0, .int .i64 0, .int .i64 0, .int .i64 0, .int .i64 0, .int .i64 0, .int .i64 0, .int .i64 0, .int .i64 0, .string ⟨#[]⟩, .string ⟨#[]⟩, .int .i64 0, .string ⟨#[]⟩] _ _ (K6.out.get 0 rfl)
    have hb := below_setRow K6.out.2 (Nat.le_refl _) #[.int .i64 0, .int .i64 0, .int .i64 0, .int .i64 0, .int .i64 0, .int .i64 0, .int .i64 0, .int .i64 0, .int .i64 0, .string ⟨#[]⟩, .string ⟨#[]⟩, .int .i64 0, .string ⟨#[]⟩]
    generalize World.setRow _ w.heap.size #[.int .i64 0, .int .i64 0, .int .i64 0, .int .i64 0, .int .i64 0, .int .i64 0, .int .i64 0, .int .i64 0, .int .i64 0, .string ⟨#[]⟩, .string ⟨#[]⟩, .int .i64 0, .string ⟨#[]⟩] = WF at *
    have o0 := cell_of_row WF _ 0 _ _ _ (hz)
    have o1 := cell_of_row WF _ 1 _ _ _ (hz)
    have o2 := cell_of_row WF _ 2 _ _ _ (hz)
    have o3 := cell_of_row WF _ 3 _ _ _ (hz)
    have o4 := cell_of_row WF _ 4 _ _ _ (hz)
    have o5 := cell_of_row WF _ 5 _ _ _ (hz)
    have o6 := cell_of_row WF _ 6 _ _ _ (hz)
    have o7 := cell_of_row WF _ 7 _ _ _ (hz)
    have o8 := cell_of_row WF _ 8 _ _ _ (hz)
    have o9 := cell_of_row WF _ 9 _ _ _ (hz)
    have o10 := cell_of_row WF _ 10 _ _ _ (hz)
    have o11 := cell_of_row WF _ 11 _ _ _ (hz)
    have o12 := cell_of_row WF _ 12 _ _ _ (hz)
    exact bodyPost_ret (v := .tuple #[.agg #[.int .i64 0, .int .i64 0, .int .i64 0, .int .i64 0, .int .i64 0, .int .i64 0, .int .i64 0, .int .i64 0, .int .i64 0, .string ⟨#[]⟩, .string ⟨#[]⟩, .int .i64 0, .string ⟨#[]⟩], .string ⟨#[]⟩, .int .i64 2]) (by simp [results, Tryz.results46, go_sem, o0, o1, o2, o3, o4, o5, o6, o7, o8, o9, o10, o11, o12]) rfl ⟨by rw [HBB.out], hb⟩
  | false =>
    cases hD : D with
    | true =>
      have hcs := ND.out hD
      have HBB := Hd.mk (hV0.out (NB.out (.inr (.inl hD))))
      clear NB NG ND NE HM HO hD
      go_wp2_with (first | ((with_reducible refine gate_store (t := 36) rfl ?_); refine wpList_store_row rfl _ _ _ rfl w.heap.size #[.int .i64 0, .int .i64 0, .int .i64 0, .int .i64 0, .int .i64 0, .int .i64 0, .int .i64 0, .int .i64 0, .int .i64 0, .string ⟨#[]⟩, .string ⟨#[]⟩, .int .i64 0, .string ⟨#[]⟩] rfl rfl 36 #[.int .i64 0, .int .i64 0, .int .i64 0, .int .i64 0, .int .i64 0, .int .i64 0, .int .i64 0, .int .i64 0, .int .i64 0, .string ⟨#[]⟩, .string ⟨#[]⟩, .int .i64 0, .string ⟨#[]⟩] (K6.out.get 0 rfl) size_op13 rfl z13_one ?_))
      have hz := setRow_heap _ _ _ #[.int .i64 0, .int .i64 0, .int .i64 0, .int .i64 0, .int .i64 0, .int .i64 0, .int .i64 0, .int .i64 0, .int .i64 0, .string ⟨#[]⟩, .string ⟨#[]⟩, .int .i64 0, .string ⟨#[]⟩] _ _ (K6.out.get 0 rfl)
      have hb := below_setRow K6.out.2 (Nat.le_refl _) #[.int .i64 0, .int .i64 0, .int .i64 0, .int .i64 0, .int .i64 0, .int .i64 0, .int .i64 0, .int .i64 0, .int .i64 0, .string ⟨#[]⟩, .string ⟨#[]⟩, .int .i64 0, .string ⟨#[]⟩]
      generalize World.setRow _ w.heap.size #[.int .i64 0, .int .i64 0, .int .i64 0, .int .i64 0, .int .i64 0, .int .i64 0, .int .i64 0, .int .i64 0, .int .i64 0, .string ⟨#[]⟩, .string ⟨#[]⟩, .int .i64 0, .string ⟨#[]⟩] = WF at *
      have o0 := cell_of_row WF _ 0 _ _ _ (hz)
      have o1 := cell_of_row WF _ 1 _ _ _ (hz)
      have o2 := cell_of_row WF _ 2 _ _ _ (hz)
      have o3 := cell_of_row WF _ 3 _ _ _ (hz)
      have o4 := cell_of_row WF _ 4 _ _ _ (hz)
      have o5 := cell_of_row WF _ 5 _ _ _ (hz)
      have o6 := cell_of_row WF _ 6 _ _ _ (hz)
      have o7 := cell_of_row WF _ 7 _ _ _ (hz)
      have o8 := cell_of_row WF _ 8 _ _ _ (hz)
      have o9 := cell_of_row WF _ 9 _ _ _ (hz)
      have o10 := cell_of_row WF _ 10 _ _ _ (hz)
      have o11 := cell_of_row WF _ 11 _ _ _ (hz)
      have o12 := cell_of_row WF _ 12 _ _ _ (hz)
      exact bodyPost_ret (v := .tuple #[.agg #[.int .i64 0, .int .i64 0, .int .i64 0, .int .i64 0, .int .i64 0, .int .i64 0, .int .i64 0, .int .i64 0, .int .i64 0, .string ⟨#[]⟩, .string ⟨#[]⟩, .int .i64 0, .string ⟨#[]⟩], .string ⟨#[]⟩, .int .i64 2]) (by simp [results, Tryz.results46, go_sem, o0, o1, o2, o3, o4, o5, o6, o7, o8, o9, o10, o11, o12]) rfl ⟨by rw [HBB.out], hb⟩
    | false =>
      have hcs := NE.out hD
      cases hc6 : (c6 != 0) with
      | true =>
        have HBB := Hd.mk (hV0.out (NB.out (.inr (.inr (.inl hc6)))))
        clear NB NG ND NE HM HO
        go_wp2_with (first | ((with_reducible refine gate_store (t := 36) rfl ?_); refine wpList_store_row rfl _ _ _ rfl w.heap.size #[.int .i64 0, .int .i64 0, .int .i64 0, .int .i64 0, .int .i64 0, .int .i64 0, .int .i64 0, .int .i64 0, .int .i64 0, .string ⟨#[]⟩, .string ⟨#[]⟩, .int .i64 0, .string ⟨#[]⟩] rfl rfl 36 #[.int .i64 0, .int .i64 0, .int .i64 0, .int .i64 0, .int .i64 0, .int .i64 0, .int .i64 0, .int .i64 0, .int .i64 0, .string ⟨#[]⟩, .string ⟨#[]⟩, .int .i64 0, .string ⟨#[]⟩] (K6.out.get 0 rfl) size_op13 rfl z13_one ?_))
        have hz := setRow_heap _ _ _ #[.int .i64 0, .int .i64 0, .int .i64 0, .int .i64 0, .int .i64 0, .int .i64 0, .int .i64 0, .int .i64 0, .int .i64 0, .string ⟨#[]⟩, .string ⟨#[]⟩, .int .i64 0, .string ⟨#[]⟩] _ _ (K6.out.get 0 rfl)
        have hb := below_setRow K6.out.2 (Nat.le_refl _) #[.int .i64 0, .int .i64 0, .int .i64 0, .int .i64 0, .int .i64 0, .int .i64 0, .int .i64 0, .int .i64 0, .int .i64 0, .string ⟨#[]⟩, .string ⟨#[]⟩, .int .i64 0, .string ⟨#[]⟩]
        generalize World.setRow _ w.heap.size #[.int .i64 0, .int .i64 0, .int .i64 0, .int .i64 0, .int .i64 0, .int .i64 0, .int .i64 0, .int .i64 0, .int .i64 0, .string ⟨#[]⟩, .string ⟨#[]⟩, .int .i64 0, .string ⟨#[]⟩] = WF at *
        have o0 := cell_of_row WF _ 0 _ _ _ (hz)
        have o1 := cell_of_row WF _ 1 _ _ _ (hz)
        have o2 := cell_of_row WF _ 2 _ _ _ (hz)
        have o3 := cell_of_row WF _ 3 _ _ _ (hz)
        have o4 := cell_of_row WF _ 4 _ _ _ (hz)
        have o5 := cell_of_row WF _ 5 _ _ _ (hz)
        have o6 := cell_of_row WF _ 6 _ _ _ (hz)
        have o7 := cell_of_row WF _ 7 _ _ _ (hz)
        have o8 := cell_of_row WF _ 8 _ _ _ (hz)
        have o9 := cell_of_row WF _ 9 _ _ _ (hz)
        have o10 := cell_of_row WF _ 10 _ _ _ (hz)
        have o11 := cell_of_row WF _ 11 _ _ _ (hz)
        have o12 := cell_of_row WF _ 12 _ _ _ (hz)
        exact bodyPost_ret (v := .tuple #[.agg #[.int .i64 0, .int .i64 0, .int .i64 0, .int .i64 0, .int .i64 0, .int .i64 0, .int .i64 0, .int .i64 0, .int .i64 0, .string ⟨#[]⟩, .string ⟨#[]⟩, .int .i64 0, .string ⟨#[]⟩], .string ⟨#[]⟩, .int .i64 2]) (by simp [results, Tryz.results46, go_sem, o0, o1, o2, o3, o4, o5, o6, o7, o8, o9, o10, o11, o12]) rfl ⟨by rw [HBB.out], hb⟩
      | false =>
        cases hc7 : (c7 != 0) with
        | true =>
          have HBB := Hd.mk (hV0.out (NB.out (.inr (.inr (.inr (.inl hc7))))))
          clear NB NG ND NE HM HO
          go_wp2_with (first | ((with_reducible refine gate_store (t := 36) rfl ?_); refine wpList_store_row rfl _ _ _ rfl w.heap.size #[.int .i64 0, .int .i64 0, .int .i64 0, .int .i64 0, .int .i64 0, .int .i64 0, .int .i64 0, .int .i64 0, .int .i64 0, .string ⟨#[]⟩, .string ⟨#[]⟩, .int .i64 0, .string ⟨#[]⟩] rfl rfl 36 #[.int .i64 0, .int .i64 0, .int .i64 0, .int .i64 0, .int .i64 0, .int .i64 0, .int .i64 0, .int .i64 0, .int .i64 0, .string ⟨#[]⟩, .string ⟨#[]⟩, .int .i64 0, .string ⟨#[]⟩] (K6.out.get 0 rfl) size_op13 rfl z13_one ?_))
          have hz := setRow_heap _ _ _ #[.int .i64 0, .int .i64 0, .int .i64 0, .int .i64 0, .int .i64 0, .int .i64 0, .int .i64 0, .int .i64 0, .int .i64 0, .string ⟨#[]⟩, .string ⟨#[]⟩, .int .i64 0, .string ⟨#[]⟩] _ _ (K6.out.get 0 rfl)
          have hb := below_setRow K6.out.2 (Nat.le_refl _) #[.int .i64 0, .int .i64 0, .int .i64 0, .int .i64 0, .int .i64 0, .int .i64 0, .int .i64 0, .int .i64 0, .int .i64 0, .string ⟨#[]⟩, .string ⟨#[]⟩, .int .i64 0, .string ⟨#[]⟩]
          generalize World.setRow _ w.heap.size #[.int .i64 0, .int .i64 0, .int .i64 0, .int .i64 0, .int .i64 0, .int .i64 0, .int .i64 0, .int .i64 0, .int .i64 0, .string ⟨#[]⟩, .string ⟨#[]⟩, .int .i64 0, .string ⟨#[]⟩] = WF at *
          have o0 := cell_of_row WF _ 0 _ _ _ (hz)
          have o1 := cell_of_row WF _ 1 _ _ _ (hz)
          have o2 := cell_of_row WF _ 2 _ _ _ (hz)
          have o3 := cell_of_row WF _ 3 _ _ _ (hz)
          have o4 := cell_of_row WF _ 4 _ _ _ (hz)
          have o5 := cell_of_row WF _ 5 _ _ _ (hz)
          have o6 := cell_of_row WF _ 6 _ _ _ (hz)
          have o7 := cell_of_row WF _ 7 _ _ _ (hz)
          have o8 := cell_of_row WF _ 8 _ _ _ (hz)
          have o9 := cell_of_row WF _ 9 _ _ _ (hz)
          have o10 := cell_of_row WF _ 10 _ _ _ (hz)
          have o11 := cell_of_row WF _ 11 _ _ _ (hz)
          have o12 := cell_of_row WF _ 12 _ _ _ (hz)
          exact bodyPost_ret (v := .tuple #[.agg #[.int .i64 0, .int .i64 0, .int .i64 0, .int .i64 0, .int .i64 0, .int .i64 0, .int .i64 0, .int .i64 0, .int .i64 0, .string ⟨#[]⟩, .string ⟨#[]⟩, .int .i64 0, .string ⟨#[]⟩], .string ⟨#[]⟩, .int .i64 2]) (by simp [results, Tryz.results46, go_sem, o0, o1, o2, o3, o4, o5, o6, o7, o8, o9, o10, o11, o12]) rfl ⟨by rw [HBB.out], hb⟩
        | false =>
          cases hc8 : (c8 != 0) with
          | true =>
            have HBB := Hd.mk (hV0.out (NB.out (.inr (.inr (.inr (.inr (.inl hc8)))))))
            clear NB NG ND NE HM HO
            go_wp2_with (first | ((with_reducible refine gate_store (t := 36) rfl ?_); refine wpList_store_row rfl _ _ _ rfl w.heap.size #[.int .i64 0, .int .i64 0, .int .i64 0, .int .i64 0, .int .i64 0, .int .i64 0, .int .i64 0, .int .i64 0, .int .i64 0, .string ⟨#[]⟩, .string ⟨#[]⟩, .int .i64 0, .string ⟨#[]⟩] rfl rfl 36 #[.int .i64 0, .int .i64 0, .int .i64 0, .int .i64 0, .int .i64 0, .int .i64 0, .int .i64 0, .int .i64 0, .int .i64 0, .string ⟨#[]⟩, .string ⟨#[]⟩, .int .i64 0, .string ⟨#[]⟩] (K6.out.get 0 rfl) size_op13 rfl z13_one ?_))
            have hz := setRow_heap _ _ _ #[.int .i64 0, .int .i64 0, .int .i64 0, .int .i64 0, .int .i64 0, .int .i64 0, .int .i64 0, .int .i64 0, .int .i64 0, .string ⟨#[]⟩, .string ⟨#[]⟩, .int .i64 0, .string ⟨#[]⟩] _ _ (K6.out.get 0 rfl)
            have hb := below_setRow K6.out.2 (Nat.le_refl _) #[.int .i64 0, .int .i64 0, .int .i64 0, .int .i64 0, .int .i64 0, .int .i64 0, .int .i64 0, .int .i64 0, .int .i64 0, .string ⟨#[]⟩, .string ⟨#[]⟩, .int .i64 0, .string ⟨#[]⟩]
            generalize World.setRow _ w.heap.size #[.int .i64 0, .int .i64 0, .int .i64 0, .int .i64 0, .int .i64 0, .int .i64 0, .int .i64 0, .int .i64 0, .int .i64 0, .string ⟨#[]⟩, .string ⟨#[]⟩, .int .i64 0, .string ⟨#[]⟩] = WF at *
            have o0 := cell_of_row WF _ 0 _ _ _ (hz)
            have o1 := cell_of_row WF _ 1 _ _ _ (hz)
            have o2 := cell_of_row WF _ 2 _ _ _ (hz)
            have o3 := cell_of_row WF _ 3 _ _ _ (hz)
            have o4 := cell_of_row WF _ 4 _ _ _ (hz)
            have o5 := cell_of_row WF _ 5 _ _ _ (hz)
            have o6 := cell_of_row WF _ 6 _ _ _ (hz)
            have o7 := cell_of_row WF _ 7 _ _ _ (hz)
            have o8 := cell_of_row WF _ 8 _ _ _ (hz)
            have o9 := cell_of_row WF _ 9 _ _ _ (hz)
            have o10 := cell_of_row WF _ 10 _ _ _ (hz)
            have o11 := cell_of_row WF _ 11 _ _ _ (hz)
            have o12 := cell_of_row WF _ 12 _ _ _ (hz)
            exact bodyPost_ret (v := .tuple #[.agg #[.int .i64 0, .int .i64 0, .int .i64 0, .int .i64 0, .int .i64 0, .int .i64 0, .int .i64 0, .int .i64 0, .int .i64 0, .string ⟨#[]⟩, .string ⟨#[]⟩, .int .i64 0, .string ⟨#[]⟩], .string ⟨#[]⟩, .int .i64 2]) (by simp [results, Tryz.results46, go_sem, o0, o1, o2, o3, o4, o5, o6, o7, o8, o9, o10, o11, o12]) rfl ⟨by rw [HBB.out], hb⟩
          | false =>
            cases hc9 : (c9 != 0) with
            | true =>
              have HBB := Hd.mk (hV0.out (NB.out (.inr (.inr (.inr (.inr (.inr hc9)))))))
              clear NB NG ND NE HM HO
              go_wp2_with (first | ((with_reducible refine gate_store (t := 36) rfl ?_); refine wpList_store_row rfl _ _ _ rfl w.heap.size #[.int .i64 0, .int .i64 0, .int .i64 0, .int .i64 0, .int .i64 0, .int .i64 0, .int .i64 0, .int .i64 0, .int .i64 0, .string ⟨#[]⟩, .string ⟨#[]⟩, .int .i64 0, .string ⟨#[]⟩] rfl rfl 36 #[.int .i64 0, .int .i64 0, .int .i64 0, .int .i64 0, .int .i64 0, .int .i64 0, .int .i64 0, .int .i64 0, .int .i64 0, .string ⟨#[]⟩, .string ⟨#[]⟩, .int .i64 0, .string ⟨#[]⟩] (K6.out.get 0 rfl) size_op13 rfl z13_one ?_))
              have hz := setRow_heap _ _ _ #[.int .i64 0, .int .i64 0, .int .i64 0, .int .i64 0, .int .i64 0, .int .i64 0, .int .i64 0, .int .i64 0, .int .i64 0, .string ⟨#[]⟩, .string ⟨#[]⟩, .int .i64 0, .string ⟨#[]⟩] _ _ (K6.out.get 0 rfl)
              have hb := below_setRow K6.out.2 (Nat.le_refl _) #[.int .i64 0, .int .i64 0, .int .i64 0, .int .i64 0, .int .i64 0, .int .i64 0, .int .i64 0, .int .i64 0, .int .i64 0, .string ⟨#[]⟩, .string ⟨#[]⟩, .int .i64 0, .string ⟨#[]⟩]
              generalize World.setRow _ w.heap.size #[.int .i64 0, .int .i64 0, .int .i64 0, .int .i64 0, .int .i64 0, .int .i64 0, .int .i64 0, .int .i64 0, .int .i64 0, .string ⟨#[]⟩, .string ⟨#[]⟩, .int .i64 0, .string ⟨#[]⟩] = WF at *
              have o0 := cell_of_row WF _ 0 _ _ _ (hz)
              have o1 := cell_of_row WF _ 1 _ _ _ (hz)
              have o2 := cell_of_row WF _ 2 _ _ _ (hz)
              have o3 := cell_of_row WF _ 3 _ _ _ (hz)
              have o4 := cell_of_row WF _ 4 _ _ _ (hz)
              have o5 := cell_of_row WF _ 5 _ _ _ (hz)
              have o6 := cell_of_row WF _ 6 _ _ _ (hz)
              have o7 := cell_of_row WF _ 7 _ _ _ (hz)
              have o8 := cell_of_row WF _ 8 _ _ _ (hz)
              have o9 := cell_of_row WF _ 9 _ _ _ (hz)
              have o10 := cell_of_row WF _ 10 _ _ _ (hz)
              have o11 := cell_of_row WF _ 11 _ _ _ (hz)
              have o12 := cell_of_row WF _ 12 _ _ _ (hz)
              exact bodyPost_ret (v := .tuple #[.agg #[.int .i64 0, .int .i64 0, .int .i64 0, .int .i64 0, .int .i64 0, .int .i64 0, .int .i64 0, .int .i64 0, .int .i64 0, .string ⟨#[]⟩, .string ⟨#[]⟩, .int .i64 0, .string ⟨#[]⟩], .string ⟨#[]⟩, .int .i64 2]) (by simp [results, Tryz.results46, go_sem, o0, o1, o2, o3, o4, o5, o6, o7, o8, o9, o10, o11, o12]) rfl ⟨by rw [HBB.out], hb⟩
            | false =>
              have HBB := Hd.mk (NG.out hc0 hD hc6 hc7 hc8 hc9)
              have HL := Hd.mk (HO.out hD)
              clear NB NG ND NE HO hD
              obtain ⟨g, cap, rfl, hg, hcell⟩ := HL.out.lit (by simp)
              have s0 := hcell 0 _ rfl 0 _ rfl
              have s1 := hcell 0 _ rfl 1 _ rfl
              have s2 := hcell 1 _ rfl 0 _ rfl
              have s3 := hcell 1 _ rfl 1 _ rfl
              have s4 := hcell 2 _ rfl 0 _ rfl
              have s5 := hcell 2 _ rfl 1 _ rfl
              have s6 := hcell 3 _ rfl 0 _ rfl
              have s7 := hcell 3 _ rfl 1 _ rfl
              clear hcell HL
              dsimp only [stE, Nat.zero_mul, Nat.zero_add, Nat.one_mul, Nat.reduceMul, Nat.reduceAdd] at s0 s1 s2 s3 s4 s5 s6 s7
              go_upto_region 9 with (fail)
              have hgn : g < w6.heap.size := block_lt_of_cell s0
              refine st_ 20 (S := fun W_ => Below w6.heap.size w6 W_) (ds := []) ((Below.refl _ _).drew) (fun hHeld => ?_)
              refine pu_ 0 (some 83) ?_
              refine pu_ 1 (some 84) ?_
              refine tk_ 2 (some 85) (.agg #[.int .i64 o.t, .int .i64 o.r]) rfl (fun w' h => by have e0 := (h.cell (p := ⟨g, 0, none⟩) hgn).trans s0; have e1 := (h.cell (p := ⟨g, 1, none⟩) hgn).trans s1; go_simp) hHeld ?_
              refine pu_ 3 (some 86) ?_
              refine pu_ 4 (some 87) ?_
              refine pu_ 5 (some 88) ?_
              refine tk_ 6 (some 89) (.agg #[.int .i64 o.a0, .int .i64 o.a1]) rfl (fun w' h => by have e0 := (h.cell (p := ⟨g, 2, none⟩) hgn).trans s2; have e1 := (h.cell (p := ⟨g, 3, none⟩) hgn).trans s3; go_simp) hHeld ?_
              refine pu_ 7 (some 90) ?_
              refine pu_ 8 (some 91) ?_
              refine tk_ 9 (some 92) (.agg #[.int .i64 o.i0, .int .i64 o.i1]) rfl (fun w' h => by have e0 := (h.cell (p := ⟨g, 4, none⟩) hgn).trans s4; have e1 := (h.cell (p := ⟨g, 5, none⟩) hgn).trans s5; go_simp) hHeld ?_
              refine pu_ 10 (some 93) ?_
              refine pu_ 11 (some 94) ?_
              refine tk_ 12 (some 95) (.agg #[.int .i64 o.t0, .int .i64 o.t1]) rfl (fun w' h => by have e0 := (h.cell (p := ⟨g, 6, none⟩) hgn).trans s6; have e1 := (h.cell (p := ⟨g, 7, none⟩) hgn).trans s7; go_simp) hHeld ?_
              refine pu_ 13 (some 96) ?_
              refine pu_ 14 (some 97) ?_
              refine pu_ 15 (some 98) ?_
              refine pu_ 16 (some 99) ?_
              refine pu_ 17 (some 100) ?_
              refine one_ (i := 18) (N := some 23) #[true, true, true, true, true, true, true, true, true, true, true, true, true, true, true, true, true, true, true, false] rfl rfl (by kernel_rfl) (by decide) (fun K hK => ?_)
              refine value_ (by rfl) rfl (run_alloc_op rfl) ?_
              refine hK.out _ _ (hHeld.alloc hHeld.size _) (fun hHeld => ?_)
              clear hK K
              refine norm_ (a' := ?_) ?_ ?_
              rotate_left
              · show Act.put _ (some 23) _ = _
                simp only [Act.put, List.setIfInBounds_toArray, List.set_cons_zero, List.set_cons_succ]
                rfl
              refine one_ (i := 19) (N := none) #[true, true, true, true, true, true, true, true, true, true, true, true, true, true, true, true, true, true, true, true] rfl rfl (by kernel_rfl) (by decide) (fun K hK => ?_)
              refine skip_ (by rfl) rfl (run_store_row _ _ _ rfl _ #[.int .i64 o.t, .int .i64 o.r, .int .i64 o.k, .int .i64 o.a0, .int .i64 o.a1, .int .i64 o.i0, .int .i64 o.i1, .int .i64 o.t0, .int .i64 o.t1, .string o.nm, .string o.nw, .int .i64 o.off, .string o.dt] rfl rfl 36 #[.int .i64 0, .int .i64 0, .int .i64 0, .int .i64 0, .int .i64 0, .int .i64 0, .int .i64 0, .int .i64 0, .int .i64 0, .string ⟨#[]⟩, .string ⟨#[]⟩, .int .i64 0, .string ⟨#[]⟩] (heap_alloc_new _ _) size_op13 rfl (cs_one o)) ?_
              refine hK.out _ _ (below_setRow hHeld (Nat.le_refl _) _) (fun hHeld => ?_)
              clear hK K
              refine done_ (by kernel_rfl) ?_
              have KA : Hd (Holds w [(w6.heap.size, .cells #[.int .i64 o.t, .int .i64 o.r, .int .i64 o.k, .int .i64 o.a0, .int .i64 o.a1, .int .i64 o.i0, .int .i64 o.i1, .int .i64 o.t0, .int .i64 o.t1, .string o.nm, .string o.nw, .int .i64 o.off, .string o.dt] 36 (0, 0)), (w.heap.size, .cells #[.int .i64 0, .int .i64 0, .int .i64 0, .int .i64 0, .int .i64 0, .int .i64 0, .int .i64 0, .int .i64 0, .int .i64 0, .string ⟨#[]⟩, .string ⟨#[]⟩, .int .i64 0, .string ⟨#[]⟩] 36 (0, 0))] _) := ⟨K6.out.drew.made #[.int .i64 0, .int .i64 0, .int .i64 0, .int .i64 0, .int .i64 0, .int .i64 0, .int .i64 0, .int .i64 0, .int .i64 0, .string ⟨#[]⟩, .string ⟨#[]⟩, .int .i64 0, .string ⟨#[]⟩] #[.int .i64 o.t, .int .i64 o.r, .int .i64 o.k, .int .i64 o.a0, .int .i64 o.a1, .int .i64 o.i0, .int .i64 o.i1, .int .i64 o.t0, .int .i64 o.t1, .string o.nm, .string o.nw, .int .i64 o.off, .string o.dt] 36⟩
              clear hHeld s0 s1 s2 s3 s4 s5 s6 s7 hgn K6
              go_upto_region 10 with (fail)
              refine world_gen _ KA.out (fun W hK => ?_)
              have KA := Hd.mk hK
              clear hK
              have g0 := cell_of_row W _ 0 _ _ _ (KA.out.get 0 rfl)
              have g1 := cell_of_row W _ 1 _ _ _ (KA.out.get 0 rfl)
              have g2 := cell_of_row W _ 2 _ _ _ (KA.out.get 0 rfl)
              have g3 := cell_of_row W _ 3 _ _ _ (KA.out.get 0 rfl)
              have g4 := cell_of_row W _ 4 _ _ _ (KA.out.get 0 rfl)
              have g5 := cell_of_row W _ 5 _ _ _ (KA.out.get 0 rfl)
              have g6 := cell_of_row W _ 6 _ _ _ (KA.out.get 0 rfl)
              have g7 := cell_of_row W _ 7 _ _ _ (KA.out.get 0 rfl)
              have g8 := cell_of_row W _ 8 _ _ _ (KA.out.get 0 rfl)
              have g9 := cell_of_row W _ 9 _ _ _ (KA.out.get 0 rfl)
              have g10 := cell_of_row W _ 10 _ _ _ (KA.out.get 0 rfl)
              have g11 := cell_of_row W _ 11 _ _ _ (KA.out.get 0 rfl)
              have g12 := cell_of_row W _ 12 _ _ _ (KA.out.get 0 rfl)
              go_wp2_with fail
              refine (HM.out _).mono ?_; rintro e w7 ⟨rfl, hb⟩
              have KM := Hd.mk (KA.out.call hb)
              clear hb KA HM
              clear g0 g1 g2 g3 g4 g5 g6 g7 g8 g9 g10 g11 g12
              cases mB with
              | true =>
                have HV := Hd.mk (hV1.out (by rw [HBB.out]; rfl))
                clear hV0 hV1 HBB
                go_wp2_with (first | ((with_reducible refine gate_load (t := 36) rfl ?_); refine wpList_load_row rfl _ _ rfl w6.heap.size rfl 36 #[.int .i64 o.t, .int .i64 o.r, .int .i64 o.k, .int .i64 o.a0, .int .i64 o.a1, .int .i64 o.i0, .int .i64 o.i1, .int .i64 o.t0, .int .i64 o.t1, .string o.nm, .string o.nw, .int .i64 o.off, .string o.dt] (0, 0) _ (KM.out.get 0 rfl) Tryz.underlying36 rfl size_op13 ?_) | ((with_reducible refine gate_store (t := 36) rfl ?_); refine wpList_store_row rfl _ _ _ rfl w.heap.size #[.int .i64 o.t, .int .i64 o.r, .int .i64 o.k, .int .i64 o.a0, .int .i64 o.a1, .int .i64 o.i0, .int .i64 o.i1, .int .i64 o.t0, .int .i64 o.t1, .string o.nm, .string o.nw, .int .i64 o.off, .string o.dt] rfl rfl 36 #[.int .i64 0, .int .i64 0, .int .i64 0, .int .i64 0, .int .i64 0, .int .i64 0, .int .i64 0, .int .i64 0, .int .i64 0, .string ⟨#[]⟩, .string ⟨#[]⟩, .int .i64 0, .string ⟨#[]⟩] (KM.out.get 1 rfl) size_op13 rfl (cs_one o) ?_))
                have hz := setRow_heap _ _ _ #[.int .i64 o.t, .int .i64 o.r, .int .i64 o.k, .int .i64 o.a0, .int .i64 o.a1, .int .i64 o.i0, .int .i64 o.i1, .int .i64 o.t0, .int .i64 o.t1, .string o.nm, .string o.nw, .int .i64 o.off, .string o.dt] _ _ (KM.out.get 1 rfl)
                have hb := below_setRow KM.out.2 (Nat.le_refl _) #[.int .i64 o.t, .int .i64 o.r, .int .i64 o.k, .int .i64 o.a0, .int .i64 o.a1, .int .i64 o.i0, .int .i64 o.i1, .int .i64 o.t0, .int .i64 o.t1, .string o.nm, .string o.nw, .int .i64 o.off, .string o.dt]
                generalize World.setRow _ w.heap.size #[.int .i64 o.t, .int .i64 o.r, .int .i64 o.k, .int .i64 o.a0, .int .i64 o.a1, .int .i64 o.i0, .int .i64 o.i1, .int .i64 o.t0, .int .i64 o.t1, .string o.nm, .string o.nw, .int .i64 o.off, .string o.dt] = WF at *
                have o0 := cell_of_row WF _ 0 _ _ _ (hz)
                have o1 := cell_of_row WF _ 1 _ _ _ (hz)
                have o2 := cell_of_row WF _ 2 _ _ _ (hz)
                have o3 := cell_of_row WF _ 3 _ _ _ (hz)
                have o4 := cell_of_row WF _ 4 _ _ _ (hz)
                have o5 := cell_of_row WF _ 5 _ _ _ (hz)
                have o6 := cell_of_row WF _ 6 _ _ _ (hz)
                have o7 := cell_of_row WF _ 7 _ _ _ (hz)
                have o8 := cell_of_row WF _ 8 _ _ _ (hz)
                have o9 := cell_of_row WF _ 9 _ _ _ (hz)
                have o10 := cell_of_row WF _ 10 _ _ _ (hz)
                have o11 := cell_of_row WF _ 11 _ _ _ (hz)
                have o12 := cell_of_row WF _ 12 _ _ _ (hz)
                exact bodyPost_ret (v := .tuple #[.agg #[.int .i64 o.t, .int .i64 o.r, .int .i64 o.k, .int .i64 o.a0, .int .i64 o.a1, .int .i64 o.i0, .int .i64 o.i1, .int .i64 o.t0, .int .i64 o.t1, .string o.nm, .string o.nw, .int .i64 o.off, .string o.dt], .string z9, .int .i64 0]) (by simp [results, Tryz.results46, go_sem, o0, o1, o2, o3, o4, o5, o6, o7, o8, o9, o10, o11, o12]) rfl ⟨by rw [HV.out], hb⟩
              | false =>
                have HV := Hd.mk (hV0.out (by rw [HBB.out]; rfl))
                clear hV0 hV1 HBB
                go_wp2_with (first | ((with_reducible refine gate_store (t := 36) rfl ?_); refine wpList_store_row rfl _ _ _ rfl w.heap.size #[.int .i64 0, .int .i64 0, .int .i64 0, .int .i64 0, .int .i64 0, .int .i64 0, .int .i64 0, .int .i64 0, .int .i64 0, .string ⟨#[]⟩, .string ⟨#[]⟩, .int .i64 0, .string ⟨#[]⟩] rfl rfl 36 #[.int .i64 0, .int .i64 0, .int .i64 0, .int .i64 0, .int .i64 0, .int .i64 0, .int .i64 0, .int .i64 0, .int .i64 0, .string ⟨#[]⟩, .string ⟨#[]⟩, .int .i64 0, .string ⟨#[]⟩] (KM.out.get 1 rfl) size_op13 rfl z13_one ?_))
                have hz := setRow_heap _ _ _ #[.int .i64 0, .int .i64 0, .int .i64 0, .int .i64 0, .int .i64 0, .int .i64 0, .int .i64 0, .int .i64 0, .int .i64 0, .string ⟨#[]⟩, .string ⟨#[]⟩, .int .i64 0, .string ⟨#[]⟩] _ _ (KM.out.get 1 rfl)
                have hb := below_setRow KM.out.2 (Nat.le_refl _) #[.int .i64 0, .int .i64 0, .int .i64 0, .int .i64 0, .int .i64 0, .int .i64 0, .int .i64 0, .int .i64 0, .int .i64 0, .string ⟨#[]⟩, .string ⟨#[]⟩, .int .i64 0, .string ⟨#[]⟩]
                generalize World.setRow _ w.heap.size #[.int .i64 0, .int .i64 0, .int .i64 0, .int .i64 0, .int .i64 0, .int .i64 0, .int .i64 0, .int .i64 0, .int .i64 0, .string ⟨#[]⟩, .string ⟨#[]⟩, .int .i64 0, .string ⟨#[]⟩] = WF at *
                have o0 := cell_of_row WF _ 0 _ _ _ (hz)
                have o1 := cell_of_row WF _ 1 _ _ _ (hz)
                have o2 := cell_of_row WF _ 2 _ _ _ (hz)
                have o3 := cell_of_row WF _ 3 _ _ _ (hz)
                have o4 := cell_of_row WF _ 4 _ _ _ (hz)
                have o5 := cell_of_row WF _ 5 _ _ _ (hz)
                have o6 := cell_of_row WF _ 6 _ _ _ (hz)
                have o7 := cell_of_row WF _ 7 _ _ _ (hz)
                have o8 := cell_of_row WF _ 8 _ _ _ (hz)
                have o9 := cell_of_row WF _ 9 _ _ _ (hz)
                have o10 := cell_of_row WF _ 10 _ _ _ (hz)
                have o11 := cell_of_row WF _ 11 _ _ _ (hz)
                have o12 := cell_of_row WF _ 12 _ _ _ (hz)
                exact bodyPost_ret (v := .tuple #[.agg #[.int .i64 0, .int .i64 0, .int .i64 0, .int .i64 0, .int .i64 0, .int .i64 0, .int .i64 0, .int .i64 0, .int .i64 0, .string ⟨#[]⟩, .string ⟨#[]⟩, .int .i64 0, .string ⟨#[]⟩], .string ⟨#[]⟩, .int .i64 2]) (by simp [results, Tryz.results46, go_sem, o0, o1, o2, o3, o4, o5, o6, o7, o8, o9, o10, o11, o12]) rfl ⟨by rw [HV.out], hb⟩
end Go.Proofs.YtcgkkjfbdappoaaGreat

/- The document's Take of an operation answers as the code's: a plain law. -/
namespace Go.Proofs.YtcgkkjfbdappoaaGreat
open Go.RowKit Go.Proofs.YtcgkkjfbdappoaaGreatW.PrintWords Go.Proofs.YtcgkkjfbdappoaaGreatW.PrintLast Go.Proofs.YtcgkkjfbdappoaaGreatW.PrintMore Pk
set_option linter.unusedVariables false
set_option linter.unusedSimpArgs false

theorem ref_takeS (s : ByteArray) (hs : s.size ≤ 140737488355328) (w : World) : Calls Tryz.prog 99 #[.string s] w fun e w' => e = .returned (.tuple #[.agg #[.int .i64 (tsT s).1, .int .i64 (tsT s).2.1], .string (tsT s).2.2.1, .int .i64 (tsT s).2.2.2]) ∧ Below w.heap.size w w' := by
  have h := ref_stampTake s hs w
  unfold tsT
  cases hT : tkS s.data.toList with
  | none => rw [hT] at h; exact h
  | some p => rw [hT] at h; exact h
theorem ref_takeI (s : ByteArray) (hs : s.size ≤ 140737488355328) (w : World) : Calls Tryz.prog 44 #[.string s] w fun e w' => e = .returned (.tuple #[.int .i64 (tiT s).1, .string (tiT s).2.1, .int .i64 (tiT s).2.2]) ∧ Below w.heap.size w w' := by
  have h := ref_TakeInt s hs w
  unfold tiT
  cases hT : tk s.data.toList 0 0 with
  | none => rw [hT] at h; exact h
  | some p => rw [hT] at h; exact h
theorem ref_takeX (s : ByteArray) (hs : s.size ≤ 140737488355328) (w : World) : Calls Tryz.prog 76 #[.string s, .int .i64 64] w fun e w' => e = .returned (.tuple #[.string (txT s).1, .string (txT s).2.1, .int .i64 (txT s).2.2]) ∧ Below w.heap.size w w' := by
  have h := ref_TakeText s hs 64 (by decide) (by decide) w
  unfold txT
  cases hT : tx 64 (tk s.data.toList 0 0) with
  | none => rw [hT] at h; exact h
  | some p => rw [hT] at h; exact h
/-- The rests behind the stamps. -/
def p6 (z : ByteArray) : ByteArray := (txT z).2.1
def p7 (z : ByteArray) : ByteArray := (txT (p6 z)).2.1
def p8 (z : ByteArray) : ByteArray := (tiT (p7 z)).2.1
def p9 (z : ByteArray) : ByteArray := (txT (p8 z)).2.1
def mkO (v : OpV) (z : ByteArray) : OpV := ⟨v.t, v.r, v.k, v.a0, v.a1, v.i0, v.i1, v.t0, v.t1, (txT z).1, (txT (p6 z)).1, (tiT (p7 z)).1, (txT (p8 z)).1⟩
def tailB (A : Bool) (z : ByteArray) : Bool := (((A || (txT z).2.2 != 0) || (txT (p6 z)).2.2 != 0) || (tiT (p7 z)).2.2 != 0) || (txT (p8 z)).2.2 != 0
theorem p_sizes (z : ByteArray) : (p6 z).size ≤ z.size ∧ (p7 z).size ≤ z.size ∧ (p8 z).size ≤ z.size ∧ (txT (p8 z)).1.size ≤ 64 := by
  have h6 : (p6 z).size ≤ z.size := (txT_rest z).1
  have h7 : (p7 z).size ≤ z.size := Nat.le_trans (txT_rest (p6 z)).1 h6
  have h8 : (p8 z).size ≤ z.size := Nat.le_trans (tiT_rest (p7 z)).1 h7
  exact ⟨h6, h7, h8, (txT_rest (p8 z)).2⟩
theorem refTake_mid (v : OpV) (b z0 z4 z5 : ByteArray) (c0 : Int) (D : Bool) (hz : z5.size ≤ 140737488355328) (h5 : z5 = if D = true then ⟨#[]⟩ else z4)
    (H0 : ∀ w, Calls Tryz.prog 44 #[.string b] w fun e w' => e = .returned (.tuple #[.int .i64 v.k, .string z0, .int .i64 c0]) ∧ Below w.heap.size w w')
    (HS : ∀ w, Calls Tryz.prog 75 #[.string z0, .int .i64 4] w fun e w' => StRes w z4 D [(v.t, v.r), (v.a0, v.a1), (v.i0, v.i1), (v.t0, v.t1)] e w')
    (V : Value) (hV0 : (tailB (c0 != 0 || D) z5 || !(mkO v z5).may) = true → V = .tuple #[.agg #[.int .i64 0, .int .i64 0, .int .i64 0, .int .i64 0, .int .i64 0, .int .i64 0, .int .i64 0, .int .i64 0, .int .i64 0, .string ⟨#[]⟩, .string ⟨#[]⟩, .int .i64 0, .string ⟨#[]⟩], .string ⟨#[]⟩, .int .i64 2]) (hV1 : (tailB (c0 != 0 || D) z5 || !(mkO v z5).may) = false → V = .tuple #[.agg (mkO v z5).cells, .string (p9 z5), .int .i64 0]) (w : World) :
    Calls Tryz.prog 46 #[.string b] w fun e w' => e = .returned V ∧ Below w.heap.size w w' := by
  obtain ⟨s6, s7, s8, s9⟩ := p_sizes z5
  have q6 := ref_takeX z5 hz
  have q7 := ref_takeX (p6 z5) (Nat.le_trans s6 hz)
  have q8 := ref_takeI (p7 z5) (Nat.le_trans s7 hz)
  have q9 := ref_takeX (p8 z5) (Nat.le_trans s8 hz)
  have HM : ∀ w, Calls Tryz.prog 51 #[.agg (mkO v z5).cells] w fun e w' => e = .returned (.bool (mkO v z5).may) ∧ Below w.heap.size w w' := by
    intro w
    rw [← refMayO_eq]
    exact ref_May (mkO v z5) (le64 s9) w
  have e6 : (txT z5).2.1 = p6 z5 := rfl
  have e7 : (txT (p6 z5)).2.1 = p7 z5 := rfl
  have e8 : (tiT (p7 z5)).2.1 = p8 z5 := rfl
  have e9 : (txT (p8 z5)).2.1 = p9 z5 := rfl
  rw [e6] at q6
  rw [e7] at q7
  rw [e8] at q8
  rw [e9] at q9
  have x1 : (txT z5).1 = (mkO v z5).nm := rfl
  have x2 : (txT (p6 z5)).1 = (mkO v z5).nw := rfl
  have x3 : (tiT (p7 z5)).1 = (mkO v z5).off := rfl
  have x4 : (txT (p8 z5)).1 = (mkO v z5).dt := rfl
  rw [x1] at q6
  rw [x2] at q7
  rw [x3] at q8
  rw [x4] at q9
  have k1 : v.k = (mkO v z5).k := rfl
  have k2 : v.t = (mkO v z5).t := rfl
  have k3 : v.r = (mkO v z5).r := rfl
  have k4 : v.a0 = (mkO v z5).a0 := rfl
  have k5 : v.a1 = (mkO v z5).a1 := rfl
  have k6 : v.i0 = (mkO v z5).i0 := rfl
  have k7 : v.i1 = (mkO v z5).i1 := rfl
  have k8 : v.t0 = (mkO v z5).t0 := rfl
  have k9 : v.t1 = (mkO v z5).t1 := rfl
  rw [k1] at H0
  rw [k2, k3, k4, k5, k6, k7, k8, k9] at HS
  unfold tailB at hV0 hV1
  generalize mkO v z5 = o at *
  generalize (txT z5).2.2 = c6 at *
  generalize (txT (p6 z5)).2.2 = c7 at *
  generalize (tiT (p7 z5)).2.2 = c8 at *
  generalize (txT (p8 z5)).2.2 = c9 at *
  exact refTake_walk o b z0 z4 z5 _ _ _ _ c0 c6 c7 c8 c9 D o.may w ⟨H0⟩ ⟨HS⟩ ⟨q6⟩ ⟨q7⟩ ⟨q8⟩ ⟨q9⟩ ⟨HM⟩ ⟨h5⟩ _ ⟨rfl⟩ V ⟨hV0⟩ ⟨hV1⟩
theorem rawV_mk (b : ByteArray) : mkO (rawV b) (y5 b) = rawV b := by
  simp only [mkO, rawV, p6, p7, p8, y6, y7, y8]
theorem rawB_tail (b : ByteArray) : rawB b = tailB ((tiT b).2.2 != 0 || ((((tsT (y1 b)).2.2.2 != 0 || (tsT (y2 b)).2.2.2 != 0) || (tsT (y3 b)).2.2.2 != 0) || (tsT (y4 b)).2.2.2 != 0)) (y5 b) := by
  unfold rawB tailB
  simp only [p6, p7, p8, y6, y7, y8, Bool.false_or, Bool.or_assoc]
theorem rawB_bad (b : ByteArray) (h : ((((tsT (y1 b)).2.2.2 != 0 || (tsT (y2 b)).2.2.2 != 0) || (tsT (y3 b)).2.2.2 != 0) || (tsT (y4 b)).2.2.2 != 0) = true) : rawB b = true := by
  rw [rawB_tail, h]
  unfold tailB
  simp
set_option maxHeartbeats 1000000 in
/-- The document's Take of an operation answers as the code's. -/
theorem ref_Take (b : ByteArray) (hb : b.size ≤ 140737488355328) (w : World) : Calls Tryz.prog 46 #[.string b] w fun e w' => e = .returned (toV (takeO b)) ∧ Below w.heap.size w w' := by
  obtain ⟨l1, l2, l3, l4, l5, l6, l7, l8, l9⟩ := y_sizes b
  have q1 : ∀ w, Calls Tryz.prog 44 #[.string b] w fun e w' => e = .returned (.tuple #[.int .i64 (rawV b).k, .string (y1 b), .int .i64 (tiT b).2.2]) ∧ Below w.heap.size w w' := by
    intro w
    have h := ref_takeI b hb w
    simpa only [rawV, y1] using h
  have q2 : ∀ w, Calls Tryz.prog 99 #[.string (y1 b)] w fun e w' => e = .returned (.tuple #[.agg #[.int .i64 (rawV b).t, .int .i64 (rawV b).r], .string (y2 b), .int .i64 (tsT (y1 b)).2.2.2]) ∧ Below w.heap.size w w' := by
    intro w
    have h := ref_takeS (y1 b) (Nat.le_trans l1 hb) w
    simpa only [rawV, y2] using h
  have q3 : ∀ w, Calls Tryz.prog 99 #[.string (y2 b)] w fun e w' => e = .returned (.tuple #[.agg #[.int .i64 (rawV b).a0, .int .i64 (rawV b).a1], .string (y3 b), .int .i64 (tsT (y2 b)).2.2.2]) ∧ Below w.heap.size w w' := by
    intro w
    have h := ref_takeS (y2 b) (Nat.le_trans l2 hb) w
    simpa only [rawV, y3] using h
  have q4 : ∀ w, Calls Tryz.prog 99 #[.string (y3 b)] w fun e w' => e = .returned (.tuple #[.agg #[.int .i64 (rawV b).i0, .int .i64 (rawV b).i1], .string (y4 b), .int .i64 (tsT (y3 b)).2.2.2]) ∧ Below w.heap.size w w' := by
    intro w
    have h := ref_takeS (y3 b) (Nat.le_trans l3 hb) w
    simpa only [rawV, y4] using h
  have q5 : ∀ w, Calls Tryz.prog 99 #[.string (y4 b)] w fun e w' => e = .returned (.tuple #[.agg #[.int .i64 (rawV b).t0, .int .i64 (rawV b).t1], .string (y5 b), .int .i64 (tsT (y4 b)).2.2.2]) ∧ Below w.heap.size w w' := by
    intro w
    have h := ref_takeS (y4 b) (Nat.le_trans l4 hb) w
    simpa only [rawV, y5] using h
  have hbad := rawB_bad b
  have hbt := rawB_tail b
  have hmk := rawV_mk b
  have he9 : p9 (y5 b) = y9 b := by simp only [p6, p7, p8, p9, y6, y7, y8, y9]
  have HT : takeO b = if (rawB b || !(rawV b).may) = true then none else some (rawV b, y9 b) := rfl
  generalize (tiT b).2.2 = c0 at *
  generalize (tsT (y1 b)).2.2.2 = c1 at *
  generalize (tsT (y2 b)).2.2.2 = c2 at *
  generalize (tsT (y3 b)).2.2.2 = c3 at *
  generalize (tsT (y4 b)).2.2.2 = c4 at *
  generalize rawV b = v at *
  generalize rawB b = B at *
  generalize y9 b = z9 at *
  generalize y5 b = z4 at *
  generalize y4 b = z3 at *
  generalize y3 b = z2 at *
  generalize y2 b = z1 at *
  generalize y1 b = z0 at *
  obtain ⟨D, hD⟩ : ∃ D, D = (((c1 != 0 || c2 != 0) || c3 != 0) || c4 != 0) := ⟨_, rfl⟩
  have HST : ∀ w, Calls Tryz.prog 75 #[.string z0, .int .i64 4] w fun e w' => StRes w z4 D [(v.t, v.r), (v.a0, v.a1), (v.i0, v.i1), (v.t0, v.t1)] e w' :=
    fun w => refstamps_walk _ _ _ _ _ _ _ _ _ _ _ _ _ _ _ _ _ w ⟨q2⟩ ⟨q3⟩ ⟨q4⟩ ⟨q5⟩ D ⟨hD⟩
  rw [← hD] at hbad hbt
  rw [HT]
  clear HT hD q2 q3 q4 q5
  cases D with
  | true =>
    have hB := hbad rfl
    subst hB
    exact refTake_mid v b z0 z4 ⟨#[]⟩ c0 true (by decide) rfl q1 HST _ (fun _ => rfl) (fun h => by
      have := (Bool.or_eq_false_iff.1 h).1
      unfold tailB at this
      simp at this) w
  | false =>
    refine refTake_mid v b z0 z4 z4 c0 false (Nat.le_trans l5 hb) rfl q1 HST _ (fun h => ?_) (fun h => ?_) w
    · rw [← hbt, hmk] at h
      rw [if_pos h]; rfl
    · rw [← hbt, hmk] at h
      rw [if_neg (by rw [h]; decide), hmk, he9]; rfl
end Go.Proofs.YtcgkkjfbdappoaaGreat
