/- Texts that belong together, in one. -/
import Derived.Test.YtcekecpbjmfbhaaPackAll
import Derived.Test.YtcekecpbjmfbhaaBase
import Derived.Lib.Strings
/- Plain numbers: the checksum's steps and its table. -/
namespace Go.Proofs.Ytcekecpbjmfbhaa.Cr
open Pk
set_option linter.unusedVariables false

/-- One step of the checksum. -/
def stp (c : Nat) : Nat := c / 2 ^^^ (c % 2 * 3988292384)
def stps : Nat → Nat → Nat
  | 0, c => c
  | k + 1, c => stps k (stp c)
/-- The table's number of a byte. -/
def tabv (n : Nat) : Nat := stps 8 n

theorem stps_succ (k c : Nat) : stps (k + 1) c = stp (stps k c) := by
  induction k generalizing c with
  | zero => rfl
  | succ k ih => rw [stps, ih (stp c)]; rfl

theorem stp_lt {c : Nat} (h : c < 4294967296) : stp c < 4294967296 := by
  unfold stp
  exact Nat.xor_lt_two_pow (n := 32) (by omega) (by omega)
theorem stps_lt {c : Nat} (h : c < 4294967296) (k : Nat) : stps k c < 4294967296 := by
  induction k with
  | zero => exact h
  | succ k ih => rw [stps_succ]; exact stp_lt ih

theorem wraps_u32 (n : Int) (h₀ : 0 ≤ n) (h₁ : n < 2 ^ IntKind.u32.bits) : IntKind.u32.wrap n = n := by
  rw [IntKind.wrap_u32]; have : (2 : Int) ^ IntKind.u32.bits = 4294967296 := by decide
  omega

theorem xor32 (a b : Nat) (ha : a < 4294967296) (hb : b < 4294967296) : bits .xor .u32 (a : Int) (b : Int) = ((a ^^^ b : Nat) : Int) :=
  bits_xor_nat .u32 wraps_u32 a b ha hb

theorem stp_walk {c : Nat} (h : c < 4294967296) : bits .xor .u32 ((c : Int) / 2) ((c : Int) % 2 * 3988292384) = ((stp c : Nat) : Int) := by
  have e1 : (c : Int) / 2 = ((c / 2 : Nat) : Int) := by omega
  have e2 : (c : Int) % 2 * 3988292384 = ((c % 2 * 3988292384 : Nat) : Int) := by omega
  rw [e1, e2, xor32 _ _ (by omega) (by omega)]; rfl

/-- The table, of which so many are told. -/
def tabUp (k : Nat) : Array Value := (Array.range 256).map fun i => .int .u32 (if i < k then (tabv i : Int) else 0)
def tab : Array Value := (Array.range 256).map fun i => .int .u32 (tabv i : Int)
def zeros256 : Array Value := Array.replicate 256 (.int .u32 0)

theorem tabUp_zero : tabUp 0 = zeros256 := by
  apply Array.ext
  · simp [tabUp, zeros256]
  · intro i h1 h2; simp [tabUp, zeros256]
theorem tabUp_full : tabUp 256 = tab := by
  apply Array.ext
  · simp [tabUp, tab]
  · intro i h1 h2
    have : i < 256 := by simpa [tabUp] using h1
    simp [tabUp, tab, this]
theorem tabUp_size (k : Nat) : (tabUp k).size = 256 := by simp [tabUp]
theorem tab_size : tab.size = 256 := by simp [tab]
theorem tabUp_at (k i : Nat) (h : i < 256) : (tabUp k)[i]? = some (.int .u32 (if i < k then (tabv i : Int) else 0)) := by simp [tabUp, h]
theorem tab_at (i : Nat) (h : i < 256) : tab[i]? = some (.int .u32 (tabv i : Int)) := by simp [tab, h]
theorem tabUp_set (k : Nat) (h : k < 256) : (tabUp k).setIfInBounds k (.int .u32 (tabv k : Int)) = tabUp (k + 1) := by
  apply Array.ext
  · simp [tabUp]
  · intro i h1 h2
    have hi : i < 256 := by simpa [tabUp] using h2
    rw [Array.getElem_setIfInBounds (by simpa [tabUp] using hi)]
    by_cases e : k = i
    · subst e; simp [tabUp]
    · rw [if_neg e]
      simp only [tabUp, Array.getElem_map, Array.getElem_range]
      by_cases h3 : i < k
      · rw [if_pos h3, if_pos (by omega)]
      · rw [if_neg h3, if_neg (by omega)]
theorem zeros_tab : zeros256.size = tab.size := by rw [tab_size]; simp [zeros256]
theorem tab_one : tab.all (·.oneCell') = true := by
  rw [Array.all_eq_true]
  intro i h
  simp [tab]
  rfl

/-- So many bytes more: the sum's bits are turned. -/
def mor : List UInt8 → Nat → Nat
  | [], c => c
  | b :: t, c => mor t (tabv (c % 256 ^^^ b.toNat) ^^^ c / 256)

theorem byte_xor (c : Nat) (b : UInt8) : c % 256 ^^^ b.toNat < 256 := Nat.xor_lt_two_pow (n := 8) (by omega) b.toNat_lt
theorem tabv_lt {i : Nat} (h : i < 256) : tabv i < 4294967296 := stps_lt (by omega) 8
theorem mor_step_lt {c : Nat} (h : c < 4294967296) (b : UInt8) : tabv (c % 256 ^^^ b.toNat) ^^^ c / 256 < 4294967296 :=
  Nat.xor_lt_two_pow (n := 32) (tabv_lt (byte_xor c b)) (by omega)
theorem mor_lt : ∀ (l : List UInt8) (c : Nat), c < 4294967296 → mor l c < 4294967296
  | [], c, h => h
  | b :: t, c, h => mor_lt t _ (mor_step_lt h b)
theorem mor_append : ∀ (l k : List UInt8) (c : Nat), mor (l ++ k) c = mor k (mor l c)
  | [], _, _ => rfl
  | _ :: t, k, _ => mor_append t k _

theorem wraps_u8' (n : Int) (h₀ : 0 ≤ n) (h₁ : n < 2 ^ IntKind.u8.bits) : IntKind.u8.wrap n = n := by
  rw [IntKind.wrap_u8]; have : (2 : Int) ^ IntKind.u8.bits = 256 := by decide
  omega
theorem xor8 (a b : Nat) (ha : a < 256) (hb : b < 256) : bits .xor .u8 (a : Int) (b : Int) = ((a ^^^ b : Nat) : Int) :=
  bits_xor_nat .u8 wraps_u8' a b ha hb

theorem nat_xor_ones32 (a : Nat) (h : a < 4294967296) : 4294967295 ^^^ a = 4294967295 - a := by
  have e : (BitVec.allOnes 32 ^^^ BitVec.ofNat 32 a) = ~~~ (BitVec.ofNat 32 a) := BitVec.allOnes_xor
  have e2 := congrArg BitVec.toNat e
  rw [BitVec.toNat_xor, BitVec.toNat_not, BitVec.toNat_ofNat, Nat.mod_eq_of_lt h, BitVec.toNat_allOnes] at e2
  exact e2
theorem not32 {c : Nat} (h : c < 4294967296) : bits .xor .u32 IntKind.u32.max (c : Int) = ((4294967295 - c : Nat) : Int) := by
  have e : IntKind.u32.max = ((4294967295 : Nat) : Int) := by decide
  rw [e, xor32 _ _ (by decide) h, nat_xor_ones32 c h]

end Go.Proofs.Ytcekecpbjmfbhaa.Cr

/- Plain laws of the checksum: steps are linear and lose nothing; eight steps of a number are the table's number of its lowest byte, by exclusive or with the rest. -/
namespace Go.Proofs.Ytcekecpbjmfbhaa.Cr
set_option linter.unusedVariables false

theorem stp_xor (a b : Nat) : stp (a ^^^ b) = stp a ^^^ stp b := by
  have h1 : (a ^^^ b) / 2 = a / 2 ^^^ b / 2 := by
    have := Nat.shiftRight_xor_distrib (a := a) (b := b) (i := 1)
    simpa [Nat.shiftRight_eq_div_pow] using this
  have h2 : (a ^^^ b) % 2 = (a % 2) ^^^ (b % 2) := Nat.xor_mod_two_pow (n := 1)
  have h3 : ((a % 2) ^^^ (b % 2)) * 3988292384 = (a % 2 * 3988292384) ^^^ (b % 2 * 3988292384) := by
    rcases Nat.mod_two_eq_zero_or_one a with ha | ha <;> rcases Nat.mod_two_eq_zero_or_one b with hb | hb <;> rw [ha, hb] <;> decide
  unfold stp
  rw [h1, h2, h3]
  ac_rfl
theorem stps_xor (k a b : Nat) : stps k (a ^^^ b) = stps k a ^^^ stps k b := by
  induction k generalizing a b with
  | zero => rfl
  | succ k ih => rw [stps, stps, stps, stp_xor, ih]
theorem stp_two (h : Nat) : stp (2 * h) = h := by
  unfold stp
  rw [show 2 * h / 2 = h from by omega, show 2 * h % 2 = 0 from by omega]; simp
theorem stps_pow (k h : Nat) : stps k (2 ^ k * h) = h := by
  induction k with
  | zero => simp [stps]
  | succ k ih => rw [stps, show 2 ^ (k + 1) * h = 2 * (2 ^ k * h) from by rw [Nat.pow_succ, Nat.mul_comm (2 ^ k) 2, Nat.mul_assoc], stp_two, ih]

theorem parts (x : Nat) : x = (x % 256) ^^^ (2 ^ 8 * (x / 256)) := by
  apply Nat.eq_of_testBit_eq
  intro i
  have e1 : x % 256 = x % 2 ^ 8 := rfl
  have e2 : x / 256 = x / 2 ^ 8 := rfl
  rw [Nat.testBit_xor, e1, e2, Nat.testBit_mod_two_pow, Nat.testBit_two_pow_mul, Nat.testBit_div_two_pow]
  by_cases h : i < 8
  · simp [h, show ¬ 8 ≤ i by omega]
  · simp [h, show 8 ≤ i by omega, show i - 8 + 8 = i by omega]

theorem stps_parts (x : Nat) : stps 8 x = tabv (x % 256) ^^^ x / 256 := by
  have := stps_xor 8 (x % 256) (2 ^ 8 * (x / 256))
  rw [← parts x, stps_pow] at this
  exact this

theorem xor_parts (c : Nat) (b : UInt8) : (c ^^^ b.toNat) % 256 = c % 256 ^^^ b.toNat ∧ (c ^^^ b.toNat) / 256 = c / 256 := by
  have hb := b.toNat_lt
  constructor
  · have := Nat.xor_mod_two_pow (a := c) (b := b.toNat) (n := 8)
    rw [Nat.mod_eq_of_lt (a := b.toNat) hb] at this
    exact this
  · have := Nat.shiftRight_xor_distrib (a := c) (b := b.toNat) (i := 8)
    rw [Nat.shiftRight_eq_div_pow, Nat.shiftRight_eq_div_pow, Nat.shiftRight_eq_div_pow, Nat.div_eq_of_lt (a := b.toNat) hb, Nat.xor_zero] at this
    exact this

/-- One byte more is eight steps of the sum by exclusive or with it. -/
theorem byte_step (c : Nat) (b : UInt8) : tabv (c % 256 ^^^ b.toNat) ^^^ c / 256 = stps 8 (c ^^^ b.toNat) := by
  rw [stps_parts, (xor_parts c b).1, (xor_parts c b).2]

theorem eq_of_xor {x y : Nat} (h : x ^^^ y = 0) : x = y := by
  have := congrArg (fun z => z ^^^ y) h
  simpa [Nat.xor_assoc] using this

/-- Steps lose nothing. -/
theorem stp_inj {a b : Nat} (ha : a < 4294967296) (hb : b < 4294967296) (h : stp a = stp b) : a = b := by
  have key : ∀ x : Nat, x < 4294967296 → stp x = 0 → x = 0 := by
    intro x hx h0
    unfold stp at h0
    rcases Nat.mod_two_eq_zero_or_one x with h2 | h2
    · rw [h2] at h0; simp at h0; omega
    · rw [h2] at h0
      have e := eq_of_xor h0
      omega
  have e : stp (a ^^^ b) = 0 := by rw [stp_xor, h, Nat.xor_self]
  have := key _ (Nat.xor_lt_two_pow (n := 32) ha hb) e
  exact eq_of_xor this
theorem stps_inj (k : Nat) {a b : Nat} (ha : a < 4294967296) (hb : b < 4294967296) (h : stps k a = stps k b) : a = b := by
  induction k generalizing a b with
  | zero => exact h
  | succ k ih => exact stp_inj ha hb (ih (stp_lt ha) (stp_lt hb) h)

theorem xor_inj {c a b : Nat} (h : c ^^^ a = c ^^^ b) : a = b := by
  have := congrArg (fun x => c ^^^ x) h
  simpa [← Nat.xor_assoc] using this

theorem mor_cons (b : UInt8) (t : List UInt8) (c : Nat) : mor (b :: t) c = mor t (stps 8 (c ^^^ b.toNat)) := by
  rw [mor, byte_step]
theorem xor_byte_lt {c : Nat} (h : c < 4294967296) (b : UInt8) : c ^^^ b.toNat < 4294967296 := Nat.xor_lt_two_pow (n := 32) h (by have := b.toNat_lt; omega)

theorem mor_inj : ∀ (l : List UInt8) (a b : Nat), a < 4294967296 → b < 4294967296 → mor l a = mor l b → a = b
  | [], a, b, _, _, h => h
  | x :: t, a, b, ha, hb, h => by
    rw [mor_cons, mor_cons] at h
    have h1 := mor_inj t _ _ (stps_lt (xor_byte_lt ha x) 8) (stps_lt (xor_byte_lt hb x) 8) h
    have h2 := stps_inj 8 (xor_byte_lt ha x) (xor_byte_lt hb x) h1
    rw [Nat.xor_comm a, Nat.xor_comm b] at h2
    exact xor_inj h2

theorem tabv_xor (a b : Nat) : tabv (a ^^^ b) = tabv a ^^^ tabv b := stps_xor 8 a b
theorem tabv_inj {a b : Nat} (ha : a < 256) (hb : b < 256) (h : tabv a = tabv b) : a = b := stps_inj 8 (by omega) (by omega) h
theorem tabv_fix {d : Nat} (hd : d < 256) (h : tabv d = d) : d = 0 := by
  have key : ∀ d : Fin 256, tabv d.val = d.val → d.val = 0 := by decide +kernel
  exact key ⟨d, hd⟩ h

/-- A byte that is another one makes another sum. -/
theorem turned_one (p t : List UInt8) (x y : UInt8) (c : Nat) (hc : c < 4294967296) (h : mor (p ++ x :: t) c = mor (p ++ y :: t) c) : x = y := by
  rw [mor_append, mor_append, mor_cons, mor_cons] at h
  have hp := mor_lt p c hc
  have h1 := mor_inj t _ _ (stps_lt (xor_byte_lt hp x) 8) (stps_lt (xor_byte_lt hp y) 8) h
  have h2 := xor_inj (stps_inj 8 (xor_byte_lt hp x) (xor_byte_lt hp y) h1)
  exact UInt8.toNat_inj.1 h2

/-- Two unlike ones, one behind the other, that change places make another sum. -/
theorem turned_two (p t : List UInt8) (x y : UInt8) (c : Nat) (hc : c < 4294967296) (h : mor (p ++ x :: y :: t) c = mor (p ++ y :: x :: t) c) : x = y := by
  rw [mor_append, mor_append, mor_cons, mor_cons, mor_cons, mor_cons] at h
  have hp := mor_lt p c hc
  have ax := stps_lt (xor_byte_lt hp x) 8
  have ay := stps_lt (xor_byte_lt hp y) 8
  have h1 := mor_inj t _ _ (stps_lt (xor_byte_lt ax y) 8) (stps_lt (xor_byte_lt ay x) 8) h
  have h2 := stps_inj 8 (xor_byte_lt ax y) (xor_byte_lt ay x) h1
  rw [stps_xor, stps_xor] at h2
  have h3 : stps 8 (x.toNat ^^^ y.toNat) = x.toNat ^^^ y.toNat := by
    rw [stps_xor]
    have h4 : stps 8 x.toNat ^^^ y.toNat = stps 8 y.toNat ^^^ x.toNat := xor_inj (c := stps 8 (mor p c)) (by rw [← Nat.xor_assoc, ← Nat.xor_assoc]; exact h2)
    have h5 := congrArg (fun z => z ^^^ (stps 8 y.toNat ^^^ y.toNat)) h4
    calc stps 8 x.toNat ^^^ stps 8 y.toNat = stps 8 x.toNat ^^^ y.toNat ^^^ (stps 8 y.toNat ^^^ y.toNat) := by
          rw [Nat.xor_comm (stps 8 y.toNat) y.toNat, Nat.xor_assoc, ← Nat.xor_assoc y.toNat, Nat.xor_self, Nat.zero_xor]
      _ = stps 8 y.toNat ^^^ x.toNat ^^^ (stps 8 y.toNat ^^^ y.toNat) := h5
      _ = x.toNat ^^^ y.toNat := by
          rw [Nat.xor_comm (stps 8 y.toNat) x.toNat, Nat.xor_assoc, ← Nat.xor_assoc (stps 8 y.toNat), Nat.xor_self, Nat.zero_xor]
  have h6 := tabv_fix (d := x.toNat ^^^ y.toNat) (Nat.xor_lt_two_pow (n := 8) x.toNat_lt y.toNat_lt) h3
  exact UInt8.toNat_inj.1 (eq_of_xor h6)

end Go.Proofs.Ytcekecpbjmfbhaa.Cr

/- crc.Table: its contract. -/
namespace Go.Proofs.Ytcekecpbjmfbhaa
open Go.RowKit Go.Proofs.YtcekecpbjmfbhaaW.PrintWords Go.Proofs.YtcekecpbjmfbhaaW.PrintLast Go.Proofs.YtcekecpbjmfbhaaW.PrintMore Cr
set_option linter.unusedVariables false
set_option linter.unusedSimpArgs false

theorem size_tab : (Try.prog.info? 116).map (·.size) = some 256 := by kernel_rfl

set_option maxHeartbeats 1000000 in
set_option maxRecDepth 100000 in
theorem crc_Table (w : World) :
    Calls Try.prog 83 #[] w fun e w' => e = .returned (.agg tab) ∧ Below w.heap.size w w' := by
  have hz : ∀ w, (zeroValue 116).run Try.prog w = .ok (.agg zeros256) w := fun w => by kernel_rfl
  have hb0 : Below w.heap.size w ((w.alloc (.cells zeros256 116)).alloc (.cells zeros256 116)) := ((Below.refl _ _).alloc (Nat.le_refl _) _).alloc (by simp) _
  have hp1 : ((w.alloc (.cells zeros256 116)).alloc (.cells zeros256 116)).heap[w.heap.size]? = some (.cells zeros256 116 (0, 0)) := heap_alloc2_old _ _ _
  have hp2 : ((w.alloc (.cells zeros256 116)).alloc (.cells zeros256 116)).heap[w.heap.size + 1]? = some (.cells zeros256 116 (0, 0)) := heap_alloc2_new _ _ _
  have HB0 := Hd.mk hb0
  have HP1 := Hd.mk hp1
  have HP2 := Hd.mk hp2
  clear hb0 hp1 hp2
  go_enter Try.func83, Try.ntmps83
  go_wp2_with fail
  clear hz
  go_loopg [2, 3, 4, 5, 10] 256 (fun kq v2 v3 v4 v5 v10 w' => ∃ (k : Nat), k ≤ 256 ∧ v5 = .int .i64 (k : Int) ∧ Hd (kq + k = 256) ∧ Hd (Below w.heap.size w w') ∧ Hd (w'.heap[w.heap.size]? = some (.cells zeros256 116 (0, 0))) ∧ Hd (w'.heap[w.heap.size + 1]? = some (.cells (tabUp k) 116 (0, 0))))
  case atStart => exact ⟨0, by omega, rfl, ⟨rfl⟩, HB0, HP1, ⟨by rw [tabUp_zero]; exact HP2.out⟩⟩
  case round =>
    clear HB0 HP1 HP2
    obtain ⟨k, hk, rfl, HK, HB, H1, H2⟩ := hrel
    by_cases hlt : k < 256
    · go_wp2_with fail
      go_loopg [3, 4, 10] 8 (fun jq v3 v4 v10 w' => ∃ (j : Nat), j ≤ 8 ∧ v10 = .int .i64 (j : Int) ∧ v3 = .int .u32 ((stps j k : Nat) : Int) ∧ Hd (jq + j = 8) ∧ Hd (Below w.heap.size w w') ∧ Hd (w'.heap[w.heap.size]? = some (.cells zeros256 116 (0, 0))) ∧ Hd (w'.heap[w.heap.size + 1]? = some (.cells (tabUp k) 116 (0, 0))))
      case atStart => exact ⟨0, by omega, rfl, rfl, ⟨rfl⟩, HB, H1, H2⟩
      case round =>
        clear HB H1 H2
        obtain ⟨j, hj, rfl, rfl, HJ, HB, H1, H2⟩ := hrel
        have hc := stps_lt (c := k) (by omega) j
        by_cases hj8 : j < 8
        · have hst := Hd.mk (stp_walk hc)
          go_wp2_with fail
          go_roundg (7 - j)
          case measure => have := HJ.out; omega
          case rel => exact ⟨j + 1, by omega, by first | rfl | congr 1, by rw [hst.out, stps_succ], ⟨by have := HJ.out; omega⟩, HB, H1, H2⟩
        · obtain rfl : j = 8 := by omega
          have ht : Hd (stps 8 k = tabv k) := ⟨rfl⟩
          have hcell : wr.cell? ⟨w.heap.size + 1, k, none⟩ = some (.int .u32 (if k < k then (tabv k : Int) else 0)) := by rw [cell_of_row wr _ k _ _ _ H2.out, tabUp_at k k hlt]
          have hfz : wr.frozen? ⟨w.heap.size + 1, k, none⟩ = false := frozen_of_row wr _ k _ _ H2.out
          go_wp2_with fail
          go_roundg (255 - k)
          case measure => have := HK.out; omega
          case rel => exact ⟨k + 1, by omega, by first | rfl | congr 1, ⟨by have := HK.out; omega⟩, ⟨HB.out.setCell (by simp) _⟩, ⟨(heap_setCell_other _ _ _ _ (by simp)).trans H1.out⟩, ⟨by rw [heap_setCell_same _ _ _ _ _ _ H2.out, ht.out, tabUp_set k hlt]⟩⟩
    · obtain rfl : k = 256 := by omega
      have H2' : wr.heap[w.heap.size + 1]? = some (.cells tab 116 (0, 0)) := by rw [← tabUp_full]; exact H2.out
      have H2h := Hd.mk H2'
      clear H2' H2
      go_wp2_with (first | ((with_reducible refine gate_load (t := 116) rfl ?_); refine wpList_load_row rfl _ _ rfl (w.heap.size + 1) rfl 116 tab (0, 0) _ H2h.out Try.underlying116 rfl (by rw [tab_size]; exact size_tab) ?_) | ((with_reducible refine gate_store (t := 116) rfl ?_); refine wpList_store_row rfl _ _ _ rfl w.heap.size tab rfl rfl 116 zeros256 H1.out (by rw [tab_size]; exact size_tab) zeros_tab tab_one ?_))
      refine bodyPost_ret (v := .agg tab) (results_cell_row (p := 0) rfl _ _ w.heap.size 116 tab (0, 0) _ rfl (setRow_heap _ _ _ _ _ _ H1.out) Try.underlying116 rfl (by rw [tab_size]; exact size_tab)) rfl ⟨rfl, below_setRow HB.out (Nat.le_refl _) _⟩
end Go.Proofs.Ytcekecpbjmfbhaa

/- crc.More and crc.Of: their contracts. -/
namespace Go.Proofs.Ytcekecpbjmfbhaa
open Go.RowKit Go.Proofs.YtcekecpbjmfbhaaW.PrintWords Go.Proofs.YtcekecpbjmfbhaaW.PrintLast Go.Proofs.YtcekecpbjmfbhaaW.PrintMore Cr
set_option linter.unusedVariables false
set_option linter.unusedSimpArgs false

set_option maxHeartbeats 1000000 in
set_option maxRecDepth 100000 in
theorem crc_More (c : Nat) (hc : Hd (c < 4294967296)) (s : ByteArray) (hs : s.size ≤ 140737488355328) (w : World) :
    Calls Try.prog 75 #[.int .u32 (c : Int), .string s] w fun e w' => e = .returned (.int .u32 ((4294967295 - mor s.data.toList (4294967295 - c) : Nat) : Int)) ∧ Below w.heap.size w w' := by
  have hz : ∀ w, (zeroValue 116).run Try.prog w = .ok (.agg zeros256) w := fun w => by kernel_rfl
  have H0 := Hd.mk crc_Table
  go_enter Try.func75, Try.ntmps75
  go_wp2_with fail
  refine (H0.out _).mono ?_; rintro e w1 ⟨rfl, h1⟩
  have HW := Hd.mk (heap_alloc_new w1 (.cells zeros256 116))
  go_wp2_with (first | ((with_reducible refine gate_store (t := 116) rfl ?_); refine wpList_store_row rfl _ _ _ rfl w1.heap.size tab rfl rfl 116 zeros256 HW.out (by rw [tab_size]; exact size_tab) zeros_tab tab_one ?_))
  have HP : Hd (((w1.alloc (.cells zeros256 116)).setRow w1.heap.size tab).heap[w1.heap.size]? = some (.cells tab 116 (0, 0))) := ⟨setRow_heap _ _ _ _ _ _ HW.out⟩
  have HB0 : Hd (Below w.heap.size w ((w1.alloc (.cells zeros256 116)).setRow w1.heap.size tab)) := ⟨below_setRow (h1.alloc h1.size _) h1.size _⟩
  clear hz HW h1
  go_loopg [0, 6, 12] s.size (fun kq v0 v6 v12 w' => ∃ (k d : Nat), k ≤ s.size ∧ v12 = .int .i64 (k : Int) ∧ v0 = .int .u32 (d : Int) ∧ Hd (d < 4294967296) ∧ Hd (kq + k = s.size) ∧ Hd (mor (s.data.toList.drop k) d = mor s.data.toList (4294967295 - c)) ∧ Hd (Below w.heap.size w w') ∧ Hd (w'.heap[w1.heap.size]? = some (.cells tab 116 (0, 0))))
  case atStart => exact ⟨0, 4294967295 - c, by omega, rfl, by rw [not32 hc.out], ⟨by omega⟩, ⟨by omega⟩, ⟨rfl⟩, HB0, HP⟩
  case round =>
    clear HB0 HP
    obtain ⟨k, d, hk, rfl, rfl, HD, HK, HM, HB, HP⟩ := hrel
    by_cases hlt : k < s.size
    · obtain ⟨b, t, hct⟩ : ∃ (c : UInt8) (t : List UInt8), s.data.toList.drop k = c :: t := by
        have : k < s.data.toList.length := by simpa using hlt
        exact ⟨_, _, List.drop_eq_getElem_cons this⟩
      have hcs : s[k] = b := by
        have h1 : k < s.data.toList.length := by simpa using hlt
        rw [List.drop_eq_getElem_cons h1] at hct
        exact (List.cons.inj hct).1
      have HC := Hd.mk hct
      have hd := Hd.mk (Pk.drop_next hct)
      clear hct
      have hx8 := byte_xor d b
      have hx1 : bits .xor .u8 ((d : Int) % 256) ((b.toNat : Nat) : Int) = ((d % 256 ^^^ b.toNat : Nat) : Int) := by
        have := xor8 (d % 256) b.toNat (by omega) b.toNat_lt
        rw [← this]; congr 1
      have hx2 := xor32 _ (d / 256) (tabv_lt hx8) (by have := HD.out; omega)
      have HN : Hd (tabv (d % 256 ^^^ b.toNat) ^^^ d / 256 < 4294967296) := ⟨mor_step_lt HD.out b⟩
      have HM2 : Hd (mor (s.data.toList.drop k) d = mor t (tabv (d % 256 ^^^ b.toNat) ^^^ d / 256)) := ⟨by rw [HC.out]; rfl⟩
      have e2 : ((d / 256 : Nat) : Int) = (d : Int) / 256 := by omega
      rw [e2] at hx2
      generalize d % 256 ^^^ b.toNat = x at *
      have hcell : wr.cell? ⟨w1.heap.size, x, none⟩ = some (.int .u32 ((tabv x : Nat) : Int)) := by rw [cell_of_row wr _ x _ _ _ HP.out, tab_at x hx8]
      generalize tabv x ^^^ d / 256 = y at *
      clear e2
      go_wp2_with fail
      go_roundg (gk - 1)
      case measure => have := HK.out; omega
      case rel => exact ⟨k + 1, y, by omega, by first | rfl | congr 1, by first | rfl | congr 1, HN, ⟨by have := HK.out; omega⟩, ⟨by rw [hd.out, ← HM2.out, HM.out]⟩, HB, HP⟩
    · have HV : Hd (d = mor s.data.toList (4294967295 - c)) := ⟨by rw [← HM.out, List.drop_eq_nil_of_le (by simp; omega)]; rfl⟩
      have hn := not32 HD.out
      go_wp2_with fail
      go_ret
      exact ⟨by rw [← HV.out]; rfl, HB.out⟩

theorem crc_Of (s : ByteArray) (hs : s.size ≤ 140737488355328) (w : World) :
    Calls Try.prog 65 #[.string s] w fun e w' => e = .returned (.int .u32 ((4294967295 - mor s.data.toList 4294967295 : Nat) : Int)) ∧ Below w.heap.size w w' := by
  have H0 := Hd.mk (crc_More 0 ⟨by decide⟩ s hs)
  go_enter Try.func65, Try.ntmps65
  go_wp2_with fail
  refine (H0.out _).mono ?_; rintro e w1 ⟨rfl, h1⟩
  go_wp2_with fail
  go_ret
  exact ⟨rfl, h1⟩
end Go.Proofs.Ytcekecpbjmfbhaa

/- The laws of checksums that no region draws: parts and steps. Each returns true, whatever comes in. -/
namespace Go.Proofs.Ytcekecpbjmfbhaa
open Go.RowKit Go.Proofs.YtcekecpbjmfbhaaW.PrintWords Go.Proofs.YtcekecpbjmfbhaaW.PrintLast Go.Proofs.YtcekecpbjmfbhaaW.PrintMore Cr
set_option linter.unusedVariables false
set_option linter.unusedSimpArgs false

/-- A checksum, and a checksum with more. -/
def ofv (l : List UInt8) : Nat := 4294967295 - mor l 4294967295
def mov (c : Nat) (l : List UInt8) : Nat := 4294967295 - mor l (4294967295 - c)
theorem ofv_lt (l : List UInt8) : ofv l < 4294967296 := by unfold ofv; omega
theorem mov_lt (c : Nat) (l : List UInt8) : mov c l < 4294967296 := by unfold mov; omega
theorem ofv_append (l k : List UInt8) : ofv (l ++ k) = mov (ofv l) k := by
  unfold ofv mov
  have h := mor_lt l 4294967295 (by decide)
  rw [mor_append, show 4294967295 - (4294967295 - mor l 4294967295) = mor l 4294967295 from by omega]
theorem mov_append (c : Nat) (l k : List UInt8) : mov c (l ++ k) = mov (mov c l) k := by
  unfold mov
  have h := mor_lt l (4294967295 - c) (by omega)
  rw [mor_append, show 4294967295 - (4294967295 - mor l (4294967295 - c)) = mor l (4294967295 - c) from by omega]
theorem mov_nil {c : Nat} (h : c < 4294967296) : mov c [] = c := by unfold mov; rw [mor]; omega

theorem crc_Of' (s : ByteArray) (hs : s.size ≤ 140737488355328) (w : World) :
    Calls Try.prog 65 #[.string s] w fun e w' => e = .returned (.int .u32 ((ofv s.data.toList : Nat) : Int)) ∧ Below w.heap.size w w' := crc_Of s hs w
theorem crc_More' (c : Nat) (hc : c < 4294967296) (s : ByteArray) (hs : s.size ≤ 140737488355328) (w : World) :
    Calls Try.prog 75 #[.int .u32 (c : Int), .string s] w fun e w' => e = .returned (.int .u32 ((mov c s.data.toList : Nat) : Int)) ∧ Below w.heap.size w w' := crc_More c ⟨hc⟩ s hs w

end Go.Proofs.Ytcekecpbjmfbhaa

/- The document's checksum (layer 2): Steps, More, Of: their contracts. -/
namespace Go.Proofs.Ytcekecpbjmfbhaa
open Go.RowKit Go.Proofs.YtcekecpbjmfbhaaW.PrintWords Go.Proofs.YtcekecpbjmfbhaaW.PrintLast Go.Proofs.YtcekecpbjmfbhaaW.PrintMore Cr
set_option linter.unusedVariables false
set_option linter.unusedSimpArgs false

set_option maxRecDepth 100000 in
theorem ref_Steps (c : Nat) (hc : Hd (c < 4294967296)) (w : World) :
    Calls Try.prog 76 #[.int .u32 (c : Int), .int .i64 8] w fun e w' => e = .returned (.int .u32 ((stps 8 c : Nat) : Int)) ∧ Below w.heap.size w w' := by
  go_enter Try.func76, Try.ntmps76
  go_wp2
  go_loopg [0, 5, 6] 8 (fun kq v0 v5 v6 w' => ∃ (k : Nat), k ≤ 8 ∧ v0 = .int .u32 ((stps k c : Nat) : Int) ∧ v5 = .int .i64 (k : Int) ∧ Hd (kq + k = 8) ∧ Hd (Below w.heap.size w w'))
  case atStart => exact ⟨0, by omega, rfl, rfl, ⟨rfl⟩, ⟨Below.refl _ _⟩⟩
  case round =>
    obtain ⟨k, hk, rfl, rfl, HK, HB⟩ := hrel
    have hd := stps_lt hc.out k
    by_cases hlt : k < 8
    · have hn : Hd (stps (k + 1) c = stp (stps k c)) := ⟨stps_succ k c⟩
      generalize stps k c = d at *
      by_cases hp : d % 2 = 1
      · have hpb : ((d : Int) % 2 == 1) = true := by simp; omega
        have hs : bits .xor .u32 ((d : Int) / 2) 3988292384 = ((stp d : Nat) : Int) := by
          have := stp_walk hd
          rw [show (d : Int) % 2 * 3988292384 = 3988292384 from by omega] at this
          exact this
        clear hp
        go_wp2_with fail
        go_roundg (7 - k)
        case measure => have := HK.out; omega
        case rel => exact ⟨k + 1, by omega, by rw [hn.out], by first | rfl | congr 1, ⟨by have := HK.out; omega⟩, HB⟩
      · have hpb : ((d : Int) % 2 == 1) = false := by simp; omega
        have hs : ((stp d : Nat) : Int) = (d : Int) / 2 := by
          have h0 : d % 2 = 0 := by omega
          unfold stp
          rw [h0]; simp
        have HS := Hd.mk hs
        clear hp hs
        go_wp2_with fail
        go_roundg (7 - k)
        case measure => have := HK.out; omega
        case rel => exact ⟨k + 1, by omega, by rw [hn.out, HS.out], by first | rfl | congr 1, ⟨by have := HK.out; omega⟩, HB⟩
    · obtain rfl : k = 8 := by omega
      go_wp2_with fail
      go_ret
      exact ⟨rfl, HB.out⟩

set_option maxRecDepth 100000 in
theorem ref_More (c : Nat) (hc : c < 4294967296) (s : ByteArray) (hs : s.size ≤ 140737488355328) (w : World) :
    Calls Try.prog 67 #[.int .u32 (c : Int), .string s] w fun e w' => e = .returned (.int .u32 ((mov c s.data.toList : Nat) : Int)) ∧ Below w.heap.size w w' := by
  have e0 : ((4294967295 - c : Nat) : Int) = 4294967295 - (c : Int) := by omega
  have E0 := Hd.mk e0
  have Hc := Hd.mk hc
  have hc2 : (c : Int) ≤ 4294967295 := by omega
  clear e0 hc
  go_enter Try.func67, Try.ntmps67
  go_wp2
  go_loopg [0, 5] s.size (fun kq v0 v5 w' => ∃ (k d : Nat), k ≤ s.size ∧ v5 = .int .i64 (k : Int) ∧ v0 = .int .u32 (d : Int) ∧ Hd (d < 4294967296) ∧ Hd (kq + k = s.size) ∧ Hd (mor (s.data.toList.drop k) d = mor s.data.toList (4294967295 - c)) ∧ Hd (Below w.heap.size w w'))
  case atStart => exact ⟨0, 4294967295 - c, by omega, rfl, by rw [E0.out], ⟨by omega⟩, ⟨by omega⟩, ⟨rfl⟩, ⟨Below.refl _ _⟩⟩
  case round =>
    obtain ⟨k, d, hk, rfl, rfl, HD, HK, HM, HB⟩ := hrel
    by_cases hlt : k < s.size
    · obtain ⟨b, t, hct⟩ : ∃ (c : UInt8) (t : List UInt8), s.data.toList.drop k = c :: t := by
        have : k < s.data.toList.length := by simpa using hlt
        exact ⟨_, _, List.drop_eq_getElem_cons this⟩
      have hcs : s[k] = b := by
        have h1 : k < s.data.toList.length := by simpa using hlt
        rw [List.drop_eq_getElem_cons h1] at hct
        exact (List.cons.inj hct).1
      have HC := Hd.mk hct
      have hd := Hd.mk (Pk.drop_next hct)
      clear hct
      have hb := b.toNat_lt
      have hx := xor32 d b.toNat HD.out (by omega)
      have HX : Hd (d ^^^ b.toNat < 4294967296) := ⟨xor_byte_lt HD.out b⟩
      have HN : Hd (stps 8 (d ^^^ b.toNat) < 4294967296) := ⟨stps_lt HX.out 8⟩
      have HM2 : Hd (mor (s.data.toList.drop k) d = mor t (stps 8 (d ^^^ b.toNat))) := ⟨by rw [HC.out, mor_cons]⟩
      have H1 := Hd.mk (ref_Steps (d ^^^ b.toNat) HX)
      generalize d ^^^ b.toNat = x at *
      generalize stps 8 x = y at *
      go_wp2_with fail
      refine (H1.out _).mono ?_; rintro e w5 ⟨rfl, h5⟩
      go_wp2_with fail
      go_roundg (gk - 1)
      case measure => have := HK.out; omega
      case rel => exact ⟨k + 1, y, by omega, by first | rfl | congr 1, rfl, HN, ⟨by have := HK.out; omega⟩, ⟨by rw [hd.out, ← HM2.out, HM.out]⟩, ⟨below_step HB.out h5⟩⟩
    · have HV : Hd (d = mor s.data.toList (4294967295 - c)) := ⟨by rw [← HM.out, List.drop_eq_nil_of_le (by simp; omega)]; rfl⟩
      have HE : Hd (((mov c s.data.toList : Nat) : Int) = 4294967295 - (d : Int)) := ⟨by have := HD.out; unfold mov; rw [← HV.out]; omega⟩
      have hd2 : (d : Int) ≤ 4294967295 := by have := HD.out; omega
      go_wp2_with fail
      go_ret
      exact ⟨by rw [HE.out]; rfl, HB.out⟩

theorem ref_Of (s : ByteArray) (hs : s.size ≤ 140737488355328) (w : World) :
    Calls Try.prog 41 #[.string s] w fun e w' => e = .returned (.int .u32 ((ofv s.data.toList : Nat) : Int)) ∧ Below w.heap.size w w' := by
  have H0 := Hd.mk (ref_More 0 (by decide) s hs)
  go_enter Try.func41, Try.ntmps41
  go_wp2_with fail
  refine (H0.out _).mono ?_; rintro e w1 ⟨rfl, h1⟩
  go_wp2_with fail
  go_ret
  exact ⟨rfl, h1⟩
end Go.Proofs.Ytcekecpbjmfbhaa
