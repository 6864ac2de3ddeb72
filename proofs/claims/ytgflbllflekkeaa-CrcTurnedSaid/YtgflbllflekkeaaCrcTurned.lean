/- The law that a byte that is another one, and two unlike ones that change places, make another sum, walked: it returns true, whatever comes in. -/
import Derived.Test.YtgflbllflekkeaaCrcTells
import Derived.Test.YtgflbllflekkeaaEnds
namespace Go.Proofs.Ytgflbllflekkeaa
open Go.RowKit Go.Proofs.YtgflbllflekkeaaW.PrintWords Go.Proofs.YtgflbllflekkeaaW.PrintLast Go.Proofs.YtgflbllflekkeaaW.PrintMore Cr
set_option linter.unusedVariables false
set_option linter.unusedSimpArgs false

/-- A block's first cells are these bytes, and may be written. -/
def Byt (W : World) (B : Nat) (l : List UInt8) : Prop := B < W.heap.size ∧ ∀ i (h : i < l.length), W.cell? ⟨B, i, none⟩ = some (.int .u8 ((l[i]).toNat : Int)) ∧ W.frozen? ⟨B, i, none⟩ = false

theorem byt_new (W : World) (s : ByteArray) : Byt (Lib.bytesWorld W 5 s) W.heap.size s.data.toList := by
  refine ⟨by rw [Lib.bytesWorld_size]; omega, fun i h => ⟨?_, ?_⟩⟩
  · rw [Lib.bytesWorld_cell W _ s i h]
    have : s.data.toList.getD i 0 = s.data.toList[i] := by rw [List.getD_eq_getElem?_getD, List.getElem?_eq_getElem h]; rfl
    rw [this]
  · have h1 := Lib.bytesWorld_at_new W 5 s
    have h2 : i < (Lib.bytesCells W 5 s).size := by
      have e : (Lib.bytesCells W 5 s).size = s.data.size + (grownCap W s.size 0 5 - s.size) := by
        unfold Lib.bytesCells; rw [Array.size_append, Array.size_map, Array.size_replicate]
      have : s.data.size = s.data.toList.length := rfl
      rw [e]; omega
    simp [World.frozen?, h1]; omega
theorem byt_below {W W' : World} {B : Nat} {l : List UInt8} (h : Byt W B l) (hb : Below W.heap.size W W') : Byt W' B l :=
  ⟨Nat.lt_of_lt_of_le h.1 hb.size, fun i hi => ⟨(hb.cell h.1).trans (h.2 i hi).1, (hb.frozen h.1).trans (h.2 i hi).2⟩⟩
theorem byt_set {W : World} {B : Nat} {l : List UInt8} (h : Byt W B l) (k : Nat) (hk : k < l.length) (x : UInt8) : Byt (W.setCell ⟨B, k, none⟩ (.int .u8 (x.toNat : Int))) B (l.set k x) := by
  refine ⟨by simpa using h.1, fun i hi => ?_⟩
  have hi' : i < l.length := by simpa using hi
  constructor
  · by_cases e : i = k
    · subst e
      rw [List.getElem_set_self]
      exact World.cell?_setCell_same _ _ _ (h.2 i hi').1
    · rw [List.getElem_set_ne (Ne.symm e), World.cell?_setCell_other _ _ _ _ (fun h => e (congrArg Addr.off h).symm)]
      exact (h.2 i hi').1
  · rw [World.frozen?_setCell]; exact (h.2 i hi').2
theorem byt_string {W : World} {B cap : Nat} {l : List UInt8} (h : Byt W B l) : (convert 37 9 (.slice (some ⟨B, 0, none⟩) l.length cap)).run Try.prog W = .ok (.string ⟨l.toArray⟩) W := by
  have e : strOfNums (l.map fun b => (b.toNat : Int)) = ⟨l.toArray⟩ := by
    apply ByteArray.ext
    simp [strOfNums, Function.comp_def]
  rw [← e]
  refine run_convert_bytes_arg W 37 5 Try.underlying37 Try.underlying5 B 0 l.length cap _ (by simp) (fun i hi => ?_) 9 Try.underlying9
  rw [Nat.zero_add, (h.2 i hi).1]
  simp [List.getD_eq_getElem?_getD, hi]

set_option maxHeartbeats 2000000 in
set_option maxRecDepth 100000 in
theorem law_CrcTurned' (s : ByteArray) (hs : s.size ≤ 140737488351232) (at' : Nat) (hat : at' < 65536) (by' : Nat) (hby : by' < 256) (w : World) :
    Calls Try.prog 6 #[.string s, .int .u16 (at' : Int), .int .u8 (by' : Int)] w fun e w' => e = .returned (.bool true) ∧ Below w.heap.size w w' := by
  have H0 := Hd.mk shown2
  by_cases hg : 2000 < s.size ∨ s.size < 2
  · by_cases hg1 : 2000 < s.size
    · clear hg
      go_enter Try.func6, Try.ntmps6
      go_wp2_with (go_at_call 15; refine (H0.out _).mono ?_; rintro e w1 ⟨rfl, hb1⟩)
      all_goals (go_ret; exact ⟨rfl, hb1⟩)
    · have hg2 : s.size < 2 := by omega
      clear hg
      go_enter Try.func6, Try.ntmps6
      go_wp2_with (go_at_call 15; refine (H0.out _).mono ?_; rintro e w1 ⟨rfl, hb1⟩)
      all_goals (go_ret; exact ⟨rfl, hb1⟩)
  · have hg1 : s.size ≤ 2000 := by omega
    have hg2 : 2 ≤ s.size := by omega
    clear hg hs
    go_enter Try.func6, Try.ntmps6
    go_wp2_with fail
    refine (H0.out _).mono ?_; rintro e w0 ⟨rfl, h0⟩
    go_upto_region 5 with (fail)
    obtain ⟨k, hk⟩ : ∃ k : Nat, (at' : Int) % ((s.size : Int) - 1) = (k : Int) := ⟨((at' : Int) % ((s.size : Int) - 1)).toNat, by rw [Int.toNat_of_nonneg (Int.emod_nonneg _ (by omega))]⟩
    have hk1 : k + 1 < s.size := by have := Int.emod_lt_of_pos (at' : Int) (show (0 : Int) < (s.size : Int) - 1 by omega); omega
    rw [hk]
    clear hk hat
    have hk0 : k < s.size := by omega
    have hsl : s.data.toList.length = s.size := rfl
    obtain ⟨x, hx⟩ : ∃ x : UInt8, x = s[k] := ⟨_, rfl⟩
    obtain ⟨y, hy⟩ : ∃ y : UInt8, y = s[k + 1] := ⟨_, rfl⟩
    have hxl : s.data.toList[k] = x := by rw [hx]; rfl
    have hyl : s.data.toList[k + 1] = y := by rw [hy]; rfl
    have hs1 : s[k] = x := hx.symm
    have hs2 : s[k + 1] = y := hy.symm
    -- the bytes, parted
    obtain ⟨p, t, hp⟩ : ∃ (p t : List UInt8), s.data.toList = p ++ x :: y :: t ∧ p.length = k := by
      refine ⟨s.data.toList.take k, s.data.toList.drop (k + 2), ?_, by rw [List.length_take]; omega⟩
      rw [← hxl, ← hyl, ← List.drop_eq_getElem_cons, ← List.drop_eq_getElem_cons, List.take_append_drop]
    obtain ⟨z, hz⟩ : ∃ z : UInt8, z = x ^^^ UInt8.ofNat by' := ⟨_, rfl⟩
    have hzv : bits .xor .u8 ((x.toNat : Nat) : Int) (by' : Int) = ((z.toNat : Nat) : Int) := by
      rw [xor8 _ _ x.toNat_lt hby, hz, UInt8.toNat_xor]
      have : (UInt8.ofNat by').toNat = by' := by simp; omega
      rw [this]
    have hzx : (z = x) ↔ by' = 0 := by
      have e0 : (UInt8.ofNat by').toNat = by' := by simp; omega
      constructor
      · intro h
        rw [hz] at h
        have h2 := congrArg (fun q : UInt8 => x.toNat ^^^ q.toNat) h
        simp only [UInt8.toNat_xor, e0] at h2
        rw [← Nat.xor_assoc, Nat.xor_self, Nat.zero_xor] at h2
        exact h2
      · intro h; subst h; rw [hz]; simp
    have l1 : s.data.toList.set k z = p ++ z :: y :: t := by rw [hp.1, ← hp.2]; simp
    have l2 : (s.data.toList.set k y).set (k + 1) x = p ++ y :: x :: t := by rw [hp.1, ← hp.2]; simp
    have one : ((ofv (s.data.toList.set k z) : Nat) : Int) = ((ofv s.data.toList : Nat) : Int) ↔ by' = 0 := by
      rw [← hzx]
      constructor
      · intro h
        have h2 : ofv (p ++ z :: y :: t) = ofv (p ++ x :: y :: t) := by rw [← l1, ← hp.1]; omega
        unfold ofv at h2
        have a1 := mor_lt (p ++ z :: y :: t) 4294967295 (by decide)
        have a2 := mor_lt (p ++ x :: y :: t) 4294967295 (by decide)
        exact turned_one p (y :: t) z x 4294967295 (by decide) (by omega)
      · intro h; rw [l1, h, ← hp.1]
    have two : ((ofv ((s.data.toList.set k y).set (k + 1) x) : Nat) : Int) = ((ofv s.data.toList : Nat) : Int) ↔ x = y := by
      constructor
      · intro h
        have h2 : ofv (p ++ y :: x :: t) = ofv (p ++ x :: y :: t) := by rw [← l2, ← hp.1]; omega
        unfold ofv at h2
        have a1 := mor_lt (p ++ y :: x :: t) 4294967295 (by decide)
        have a2 := mor_lt (p ++ x :: y :: t) 4294967295 (by decide)
        exact (turned_two p t y x 4294967295 (by decide) (by omega)).symm
      · intro h; subst h; rw [l2, ← hp.1]
    have oneB : (((ofv (s.data.toList.set k z) : Nat) : Int) == ((ofv s.data.toList : Nat) : Int)) = ((by' : Int) == 0) := by
      by_cases h : by' = 0
      · rw [beq_iff_eq.2 (one.2 h), beq_iff_eq.2 (by omega)]
      · rw [beq_eq_false_iff_ne.2 (fun e => h (one.1 e)), beq_eq_false_iff_ne.2 (by omega)]
    have twoB : (((ofv ((s.data.toList.set k y).set (k + 1) x) : Nat) : Int) == ((ofv s.data.toList : Nat) : Int)) = (((x.toNat : Nat) : Int) == ((y.toNat : Nat) : Int)) := by
      by_cases h : x = y
      · rw [beq_iff_eq.2 (two.2 h), beq_iff_eq.2 (by rw [h])]
      · rw [beq_eq_false_iff_ne.2 (fun e => h (two.1 e)), beq_eq_false_iff_ne.2 (fun e => h (UInt8.toNat_inj.1 (by omega)))]
    clear one two hzx hz hp l1 l2 hx hy
    have HB0 := Hd.mk h0
    have HO := Hd.mk oneB
    have HT := Hd.mk twoB
    clear h0 oneB twoB
    have hx8 := x.toNat_lt
    have hy8 := y.toNat_lt
    have hz8 := z.toNat_lt
    have hki : (k : Int) < (s.size : Int) := by omega
    have hki1 : (k : Int) + 1 < (s.size : Int) := by omega
    -- the first copy
    have hcv := Lib.run_convert_string_bytes (P := Try.prog) w0 9 37 5 s Try.underlying9 Try.underlying37 Try.underlying5
    have B1 := Hd.mk (byt_new w0 s)
    have HB1 : Hd (Below w.heap.size w (Lib.bytesWorld w0 5 s)) := ⟨bytes_below HB0.out HB0.out.size _ _⟩
    have HL1 : Hd (w.heap.size ≤ w0.heap.size) := ⟨HB0.out.size⟩
    go_upto_region 6 with (fail)
    generalize grownCap w0 s.size 0 5 = cap1 at *
    generalize Lib.bytesWorld w0 5 s = W1 at *
    generalize w0.heap.size = b1 at *
    clear hcv HB0
    have c1 : W1.cell? ⟨b1, k, none⟩ = some (.int .u8 ((x.toNat : Nat) : Int)) := by have := (B1.out.2 k (by omega)).1; rw [hxl] at this; exact this
    have f1 : W1.frozen? ⟨b1, k, none⟩ = false := (B1.out.2 k (by omega)).2
    have B2 := Hd.mk (byt_set B1.out k (by omega) z)
    have HB2 : Hd (Below w.heap.size w (W1.setCell ⟨b1, k, none⟩ (.int .u8 ((z.toNat : Nat) : Int)))) := ⟨HB1.out.setCell HL1.out _⟩
    go_upto_region 7 with (fail)
    clear c1 f1 B1 HB1
    generalize W1.setCell ⟨b1, k, none⟩ (.int .u8 ((z.toNat : Nat) : Int)) = W2 at *
    have hcv2 := byt_string (cap := cap1) B2.out
    rw [List.length_set, hsl] at hcv2
    have zs1 : (⟨(s.data.toList.set k z).toArray⟩ : ByteArray).size ≤ 2000 := by rw [Pk.size_of, List.length_set]; omega
    have G1 := crc_Of' ⟨(s.data.toList.set k z).toArray⟩ (by omega)
    have G2 := crc_Of' s (by omega)
    rw [show (⟨(s.data.toList.set k z).toArray⟩ : ByteArray).data.toList = s.data.toList.set k z from rfl] at G1
    have H1 := Hd.mk G1
    have H2 := Hd.mk G2
    clear G1 G2
    generalize (⟨(s.data.toList.set k z).toArray⟩ : ByteArray) = q1 at *
    go_wp2_with fail
    refine (H1.out _).mono ?_; rintro e w3 ⟨rfl, h3⟩
    go_wp2_with fail
    refine (H2.out _).mono ?_; rintro e w4 ⟨rfl, h4⟩
    have HB4 := Hd.mk (below_step (below_step HB2.out h3) h4)
    have one' := HO.out
    clear hcv2 B2 HB2 h3 h4 HL1 HO
    -- the second copy
    have hcv := Lib.run_convert_string_bytes (P := Try.prog) w4 9 37 5 s Try.underlying9 Try.underlying37 Try.underlying5
    have B1 := Hd.mk (byt_new w4 s)
    have HB1 : Hd (Below w.heap.size w (Lib.bytesWorld w4 5 s)) := ⟨bytes_below HB4.out HB4.out.size _ _⟩
    have HL1 : Hd (w.heap.size ≤ w4.heap.size) := ⟨HB4.out.size⟩
    go_upto_region 9 with (fail)
    generalize grownCap w4 s.size 0 5 = cap2 at *
    generalize Lib.bytesWorld w4 5 s = W5 at *
    generalize w4.heap.size = b2 at *
    clear hcv HB4
    have c1 : W5.cell? ⟨b2, k, none⟩ = some (.int .u8 ((x.toNat : Nat) : Int)) := by have := (B1.out.2 k (by omega)).1; rw [hxl] at this; exact this
    have f1 : W5.frozen? ⟨b2, k, none⟩ = false := (B1.out.2 k (by omega)).2
    have B2 := Hd.mk (byt_set B1.out k (by omega) y)
    have HB2 : Hd (Below w.heap.size w (W5.setCell ⟨b2, k, none⟩ (.int .u8 ((y.toNat : Nat) : Int)))) := ⟨HB1.out.setCell HL1.out _⟩
    go_upto_region 10 with (fail)
    clear c1 f1 B1 HB1
    generalize W5.setCell ⟨b2, k, none⟩ (.int .u8 ((y.toNat : Nat) : Int)) = W6 at *
    have c2 : W6.cell? ⟨b2, k + 1, none⟩ = some (.int .u8 (((s.data.toList.set k y)[k + 1]'(by rw [List.length_set]; omega)).toNat : Int)) := (B2.out.2 (k + 1) (by rw [List.length_set]; omega)).1
    have f2 : W6.frozen? ⟨b2, k + 1, none⟩ = false := (B2.out.2 (k + 1) (by rw [List.length_set]; omega)).2
    have B3 := Hd.mk (byt_set B2.out (k + 1) (by rw [List.length_set]; omega) x)
    have HB3 : Hd (Below w.heap.size w (W6.setCell ⟨b2, k + 1, none⟩ (.int .u8 ((x.toNat : Nat) : Int)))) := ⟨HB2.out.setCell HL1.out _⟩
    go_upto_region 11 with (fail)
    clear c2 f2 B2 HB2
    generalize W6.setCell ⟨b2, k + 1, none⟩ (.int .u8 ((x.toNat : Nat) : Int)) = W7 at *
    have hcv2 := byt_string (cap := cap2) B3.out
    rw [List.length_set, List.length_set, hsl] at hcv2
    have zs2 : (⟨((s.data.toList.set k y).set (k + 1) x).toArray⟩ : ByteArray).size ≤ 2000 := by rw [Pk.size_of, List.length_set, List.length_set]; omega
    have G1 := crc_Of' ⟨((s.data.toList.set k y).set (k + 1) x).toArray⟩ (by omega)
    rw [show (⟨((s.data.toList.set k y).set (k + 1) x).toArray⟩ : ByteArray).data.toList = (s.data.toList.set k y).set (k + 1) x from rfl] at G1
    have H3 := Hd.mk G1
    clear G1
    generalize (⟨((s.data.toList.set k y).set (k + 1) x).toArray⟩ : ByteArray) = q2 at *
    go_wp2_with fail
    refine (H3.out _).mono ?_; rintro e w5 ⟨rfl, h5⟩
    go_wp2_with fail
    refine (H2.out _).mono ?_; rintro e w6 ⟨rfl, h6⟩
    have HB6 := Hd.mk (below_step (below_step HB3.out h5) h6)
    have two' := HT.out
    clear hcv2 B3 HB3 h5 h6 HL1 HT
    go_wp2_with fail
    go_quiet (fail)
    go_wp2
    go_ret
    exact ⟨rfl, by repeat (first | (with_reducible first | exact HB6.out | apply below_alloc | apply pw_below_drewN | apply below_drew1) | exact HB6.out)⟩
end Go.Proofs.Ytgflbllflekkeaa
namespace Go.Proofs.Ytgflbllflekkeaa.crcTurned
open Go.RowKit Go.Proofs.YtgflbllflekkeaaW.PrintWords Go.Proofs.YtgflbllflekkeaaW.PrintLast Go.Proofs.YtgflbllflekkeaaW.PrintMore
theorem law_CrcTurned (s : ByteArray) (hs : s.size ≤ 140737488351232) (a : Int) (ha : (Lit.int .u16 a).wf = true) (b : Int) (hb : (Lit.int .u8 b).wf = true) (w : World) :
    Calls Try.prog 6 #[.string s, .int .u16 a, .int .u8 b] w fun e w' => e = .returned (.bool true) ∧ Below w.heap.size w w' := by
  obtain ⟨m, rfl, hm⟩ := u16_of ha
  obtain ⟨k, rfl, hk⟩ := u8_of hb
  exact law_CrcTurned' s hs m hm k hk w
end Go.Proofs.Ytgflbllflekkeaa.crcTurned
