/- The document's Take of an operation: four stamps, and all of it. -/
import Derived.Test.YtcekecpbjmfbhaaOpRefMay
namespace Go.Proofs.Ytcekecpbjmfbhaa
open Go.RowKit Go.Proofs.YtcekecpbjmfbhaaW.PrintWords Go.Proofs.YtcekecpbjmfbhaaW.PrintLast Go.Proofs.YtcekecpbjmfbhaaW.PrintMore Pk
set_option linter.unusedVariables false
set_option linter.unusedSimpArgs false

/-- What the document's four stamps are told as. -/
def StRes (w : World) (z : ByteArray) (B : Bool) (L : List (Int × Int)) (e : Ending) (w' : World) : Prop :=
  ∃ v, e = .returned (.tuple #[v, .string (if B = true then ⟨#[]⟩ else z), .int .i64 (if B = true then 2 else 0)]) ∧ (B = false → stE.Own w.heap.size w' v L) ∧ Below w.heap.size w w'
theorem StRes.no {w w' : World} {z : ByteArray} {B : Bool} {L : List (Int × Int)} {e : Ending} (h : B = true) (v : Value) (he : e = .returned (.tuple #[v, .string ⟨#[]⟩, .int .i64 2])) (hb : Below w.heap.size w w') : StRes w z B L e w' := by
  subst h
  exact ⟨v, he, fun h => absurd h (by decide), hb⟩
theorem StRes.yes {w w' : World} {z : ByteArray} {B : Bool} {L : List (Int × Int)} {e : Ending} (h : B = false) (v : Value) (he : e = .returned (.tuple #[v, .string z, .int .i64 0])) (ho : stE.Own w.heap.size w' v L) (hb : Below w.heap.size w w') : StRes w z B L e w' := by
  subst h
  exact ⟨v, he, fun _ => ho, hb⟩
set_option maxHeartbeats 8000000 in
set_option maxRecDepth 100000 in
theorem refstamps_walk (z0 z1 z2 z3 z4 : ByteArray) (x1 m1 x2 m2 x3 m3 x4 m4 : Int) (c1 c2 c3 c4 : Int) (w : World)
    (H1 : Hd (∀ w, Calls Try.prog 74 #[.string z0] w fun e w' => e = .returned (.tuple #[.agg #[.int .i64 x1, .int .i64 m1], .string z1, .int .i64 c1]) ∧ Below w.heap.size w w'))
    (H2 : Hd (∀ w, Calls Try.prog 74 #[.string z1] w fun e w' => e = .returned (.tuple #[.agg #[.int .i64 x2, .int .i64 m2], .string z2, .int .i64 c2]) ∧ Below w.heap.size w w'))
    (H3 : Hd (∀ w, Calls Try.prog 74 #[.string z2] w fun e w' => e = .returned (.tuple #[.agg #[.int .i64 x3, .int .i64 m3], .string z3, .int .i64 c3]) ∧ Below w.heap.size w w'))
    (H4 : Hd (∀ w, Calls Try.prog 74 #[.string z3] w fun e w' => e = .returned (.tuple #[.agg #[.int .i64 x4, .int .i64 m4], .string z4, .int .i64 c4]) ∧ Below w.heap.size w w'))
    (B : Bool) (hB : Hd (B = (((c1 != 0 || c2 != 0) || c3 != 0) || c4 != 0))) :
    Calls Try.prog 58 #[.string z0, .int .i64 4] w fun e w' => StRes w z4 B [(x1, m1), (x2, m2), (x3, m3), (x4, m4)] e w' := by
  go_enter Try.func58, Try.ntmps58
  go_upto_region 3 with (fail)
  have HBf := Hd.mk (fun (h : B = true) => h)
  have NB1 : Hd ((c1 != 0) = true → B = true) := ⟨fun h => by rw [hB.out, h]; rfl⟩
  have NB2 : Hd ((c2 != 0) = true → B = true) := ⟨fun h => by rw [hB.out, h]; simp⟩
  have NB3 : Hd ((c3 != 0) = true → B = true) := ⟨fun h => by rw [hB.out, h]; simp⟩
  have NB4 : Hd ((c4 != 0) = true → B = true) := ⟨fun h => by rw [hB.out, h]; simp⟩
  have NG : Hd ((c1 != 0) = false → (c2 != 0) = false → (c3 != 0) = false → (c4 != 0) = false → B = false) := ⟨fun h1 h2 h3 h4 => by rw [hB.out, h1, h2, h3, h4]; rfl⟩
  clear hB HBf
  go_loopg [0, 7, 8] 4 (fun q v0 v7 v8 wx => ∃ i : Nat, i + q = 4 ∧ v8 = .int .i64 (i : Int) ∧ v0 = .string (match i with | 0 => z0 | 1 => z1 | 2 => z2 | 3 => z3 | _ => z4) ∧ Hd ((0 < i → (c1 != 0) = false) ∧ (1 < i → (c2 != 0) = false) ∧ (2 < i → (c3 != 0) = false) ∧ (3 < i → (c4 != 0) = false)) ∧ Hd (stE.Own w.heap.size wx v7 (match i with | 0 => [] | 1 => [(x1, m1)] | 2 => [(x1, m1), (x2, m2)] | 3 => [(x1, m1), (x2, m2), (x3, m3)] | _ => [(x1, m1), (x2, m2), (x3, m3), (x4, m4)])) ∧ Hd (Below w.heap.size w wx))
  case atStart => exact ⟨0, rfl, rfl, rfl, ⟨⟨by simp, by simp, by simp, by simp⟩⟩, ⟨Elt.Own.nil _ _⟩, ⟨Below.refl _ _⟩⟩
  case round =>
    obtain ⟨i, hi, rfl, rfl, HC, HO, HB⟩ := hrel
    obtain ⟨v, hv7⟩ : ∃ v, v = u7 := ⟨_, rfl⟩
    subst hv7
    have h3 : i = 0 ∨ i = 1 ∨ i = 2 ∨ i = 3 ∨ i = 4 := by omega
    rcases h3 with rfl | rfl | rfl | rfl | rfl
    · have HO1 : Hd (stE.Own w.heap.size wr v []) := HO
      clear HO
      try dsimp only
      go_wp2_with fail
      refine (H1.out _).mono ?_; rintro e w5 ⟨rfl, hb⟩
      have HB5 := Hd.mk (below_step HB.out hb)
      have HO5 := Hd.mk (HO1.out.below hb)
      clear hb HO1 HB
      cases hc : (c1 != 0) with
      | true =>
        have hb := NB1.out hc
        have HT := Hd.mk hb
        clear hb NB1 NB2 NB3 NB4 NG
        go_wp2_with fail
        go_ret3
        exact StRes.no HT.out _ rfl (HB5.out.alloc HB5.out.size _)
      | false =>
        go_wp2_with ((with_reducible refine gate_dst (N := 28) rfl ?_); refine stE.wpList_push rfl _ _ rfl rfl rfl rfl rfl _ _ _ rfl (HO5.out.below ((Below.refl _ _).alloc (Nat.le_refl _) _)) (x1, m1) rfl (by simp) rfl (by simp) w rfl (HB5.out.alloc HB5.out.size _) ?_; intro v2 w2 hown2 hbl2; have HO2 := Hd.mk hown2; have HB2 := Hd.mk hbl2; clear hown2 hbl2)
        go_roundg (3)
        case measure => omega
        case rel => exact ⟨1, by omega, rfl, rfl, ⟨by have h := HC.out; refine ⟨fun _ => ?_, fun _ => ?_, fun _ => ?_, fun _ => ?_⟩ <;> first | exact hc | exact h.1 (by omega) | exact h.2.1 (by omega) | exact h.2.2.1 (by omega) | omega⟩, HO2, HB2⟩
    · have HO1 : Hd (stE.Own w.heap.size wr v [(x1, m1)]) := HO
      clear HO
      try dsimp only
      go_wp2_with fail
      refine (H2.out _).mono ?_; rintro e w5 ⟨rfl, hb⟩
      have HB5 := Hd.mk (below_step HB.out hb)
      have HO5 := Hd.mk (HO1.out.below hb)
      clear hb HO1 HB
      cases hc : (c2 != 0) with
      | true =>
        have hb := NB2.out hc
        have HT := Hd.mk hb
        clear hb NB1 NB2 NB3 NB4 NG
        go_wp2_with fail
        go_ret3
        exact StRes.no HT.out _ rfl (HB5.out.alloc HB5.out.size _)
      | false =>
        go_wp2_with ((with_reducible refine gate_dst (N := 28) rfl ?_); refine stE.wpList_push rfl _ _ rfl rfl rfl rfl rfl _ _ _ rfl (HO5.out.below ((Below.refl _ _).alloc (Nat.le_refl _) _)) (x2, m2) rfl (by simp) rfl (by simp) w rfl (HB5.out.alloc HB5.out.size _) ?_; intro v2 w2 hown2 hbl2; have HO2 := Hd.mk hown2; have HB2 := Hd.mk hbl2; clear hown2 hbl2)
        go_roundg (2)
        case measure => omega
        case rel => exact ⟨2, by omega, rfl, rfl, ⟨by have h := HC.out; refine ⟨fun _ => ?_, fun _ => ?_, fun _ => ?_, fun _ => ?_⟩ <;> first | exact hc | exact h.1 (by omega) | exact h.2.1 (by omega) | exact h.2.2.1 (by omega) | omega⟩, HO2, HB2⟩
    · have HO1 : Hd (stE.Own w.heap.size wr v [(x1, m1), (x2, m2)]) := HO
      clear HO
      try dsimp only
      go_wp2_with fail
      refine (H3.out _).mono ?_; rintro e w5 ⟨rfl, hb⟩
      have HB5 := Hd.mk (below_step HB.out hb)
      have HO5 := Hd.mk (HO1.out.below hb)
      clear hb HO1 HB
      cases hc : (c3 != 0) with
      | true =>
        have hb := NB3.out hc
        have HT := Hd.mk hb
        clear hb NB1 NB2 NB3 NB4 NG
        go_wp2_with fail
        go_ret3
        exact StRes.no HT.out _ rfl (HB5.out.alloc HB5.out.size _)
      | false =>
        go_wp2_with ((with_reducible refine gate_dst (N := 28) rfl ?_); refine stE.wpList_push rfl _ _ rfl rfl rfl rfl rfl _ _ _ rfl (HO5.out.below ((Below.refl _ _).alloc (Nat.le_refl _) _)) (x3, m3) rfl (by simp) rfl (by simp) w rfl (HB5.out.alloc HB5.out.size _) ?_; intro v2 w2 hown2 hbl2; have HO2 := Hd.mk hown2; have HB2 := Hd.mk hbl2; clear hown2 hbl2)
        go_roundg (1)
        case measure => omega
        case rel => exact ⟨3, by omega, rfl, rfl, ⟨by have h := HC.out; refine ⟨fun _ => ?_, fun _ => ?_, fun _ => ?_, fun _ => ?_⟩ <;> first | exact hc | exact h.1 (by omega) | exact h.2.1 (by omega) | exact h.2.2.1 (by omega) | omega⟩, HO2, HB2⟩
    · have HO1 : Hd (stE.Own w.heap.size wr v [(x1, m1), (x2, m2), (x3, m3)]) := HO
      clear HO
      try dsimp only
      go_wp2_with fail
      refine (H4.out _).mono ?_; rintro e w5 ⟨rfl, hb⟩
      have HB5 := Hd.mk (below_step HB.out hb)
      have HO5 := Hd.mk (HO1.out.below hb)
      clear hb HO1 HB
      cases hc : (c4 != 0) with
      | true =>
        have hb := NB4.out hc
        have HT := Hd.mk hb
        clear hb NB1 NB2 NB3 NB4 NG
        go_wp2_with fail
        go_ret3
        exact StRes.no HT.out _ rfl (HB5.out.alloc HB5.out.size _)
      | false =>
        go_wp2_with ((with_reducible refine gate_dst (N := 28) rfl ?_); refine stE.wpList_push rfl _ _ rfl rfl rfl rfl rfl _ _ _ rfl (HO5.out.below ((Below.refl _ _).alloc (Nat.le_refl _) _)) (x4, m4) rfl (by simp) rfl (by simp) w rfl (HB5.out.alloc HB5.out.size _) ?_; intro v2 w2 hown2 hbl2; have HO2 := Hd.mk hown2; have HB2 := Hd.mk hbl2; clear hown2 hbl2)
        go_roundg (0)
        case measure => omega
        case rel => exact ⟨4, by omega, rfl, rfl, ⟨by have h := HC.out; refine ⟨fun _ => ?_, fun _ => ?_, fun _ => ?_, fun _ => ?_⟩ <;> first | exact hc | exact h.1 (by omega) | exact h.2.1 (by omega) | exact h.2.2.1 (by omega) | omega⟩, HO2, HB2⟩
    · have HO1 : Hd (stE.Own w.heap.size wr v [(x1, m1), (x2, m2), (x3, m3), (x4, m4)]) := HO
      have HT := Hd.mk (NG.out (HC.out.1 (by omega)) (HC.out.2.1 (by omega)) (HC.out.2.2.1 (by omega)) (HC.out.2.2.2 (by omega)))
      clear HO NG NB1 NB2 NB3 NB4 HC H1 H2 H3 H4
      try dsimp only
      go_wp2_with fail
      go_ret3
      exact StRes.yes HT.out _ rfl HO1.out HB.out
end Go.Proofs.Ytcekecpbjmfbhaa
