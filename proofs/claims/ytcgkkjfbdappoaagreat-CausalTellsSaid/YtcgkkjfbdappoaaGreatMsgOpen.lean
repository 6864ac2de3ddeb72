/- Slices of messages, and of operations, that come in, opened: where what is held is no more than the reach. -/
import Derived.Test.YtcgkkjfbdappoaaGreatOpOpen
import Derived.Test.YtcgkkjfbdappoaaGreatCmpAll
namespace Go.Proofs.YtcgkkjfbdappoaaGreat
open Go.RowKit Go.ChangeShapes Go.WideShapes Opn Go.Proofs.YtcgkkjfbdappoaaGreatW.PrintWords
set_option linter.unusedVariables false

section
variable {P : Program} {H : Type} {enc : TypeId × Value → H} {w : World} {base : Nat} {spare : Nat → Bool} {held : Bool}
/-- A slice of elements without pointers, whose texts are no longer than B. -/
theorem open_rowsS {r : Reach} {b0 : Nat} {t e : TypeId} {v : Value} {d : DataW H} {p : List MemPlace} {B : Nat} (f : Nat) (ls : List Lf) (hs : P.underlying t = some (.slice e)) (hl : leaves P f e = some ls) (hc : P.cellsOf e = ls.length)
    (hv : Value.okWide P w r b0 t v) (h : DataW.Trod enc P w base spare held t v d p) (hw : ∀ n ∈ d.weights P t, n ≤ B) :
    ∃ (A : Option Addr) (len cap : Nat) (rows : List (List Value)), v = .slice A len cap ∧ len ≤ cap ∧ cap ≤ maxLen ∧ rows.length = len ∧ ∀ (j : Nat) (row : List Value), rows[j]? = some row → FitAll ls row ∧ StrLe B row ∧ ∃ a, A = some a ∧ ∀ i u, row[i]? = some u → w.cell? (a.add (j * ls.length + i)) = some u := by
  obtain ⟨A, len, cap, rfl⟩ := okWide_slice hs hv
  obtain ⟨fuel, hf⟩ := h
  rcases Deep.open_slice hs hf with ⟨h0, _⟩ | ⟨a, l, c, m, n, D, Pl, h0, hb, hlc, hm, hmm, hxd, hx⟩
  · simp [Value.cells] at h0
    obtain ⟨rfl, rfl, rfl⟩ := h0
    exact ⟨none, 0, 0, [], rfl, Nat.le_refl _, by unfold maxLen; omega, rfl, fun j row hj => by simp at hj⟩
  · simp [Value.cells] at h0
    obtain ⟨rfl, rfl, rfl⟩ := h0
    simp only [Prod.mk.injEq] at hxd
    obtain ⟨hd, _⟩ := hxd
    subst hd
    have hlm : len ≤ m := by rw [hmm]; split <;> omega
    have key : ∀ i, i < len → ∃ row, FitAll ls row ∧ StrLe B row ∧ ∀ j u, row[j]? = some u → w.cell? (a.add (i * ls.length + j)) = some u := by
      intro i hi
      obtain ⟨cs, h1, h2⟩ := hx i (by omega)
      rw [hc] at h1
      obtain ⟨_, hlen, hcell⟩ := World.cells?_some h1
      have hwi : ∀ k ∈ (D i).weights P e, k ≤ B := fun k hk => hw k (by
        simp only [DataW.weights, hs]
        exact List.mem_cons_of_mem _ (List.mem_append_left _ (weightsAll_mem (List.mem_map.2 ⟨i, by simpa using hi, rfl⟩) k hk)))
      refine ⟨cs, fits f e n cs _ ls hl h2, sizedL f e n cs (D i, Pl i) ls hl h2 hwi, fun j u hj => ?_⟩
      have hjl : j < ls.length := by
        rw [← hlen]
        exact (List.getElem?_eq_some_iff.1 hj).1
      have := hcell j hjl
      rw [Deep.add_add] at this
      rw [this, hj]
    have build : ∀ k, k ≤ len → ∃ rows : List (List Value), rows.length = k ∧ ∀ (j : Nat) (row : List Value), rows[j]? = some row → FitAll ls row ∧ StrLe B row ∧ ∀ i u, row[i]? = some u → w.cell? (a.add (j * ls.length + i)) = some u := by
      intro k
      induction k with
      | zero => intro _; exact ⟨[], rfl, fun j row hj => by simp at hj⟩
      | succ k ih =>
        intro hk
        obtain ⟨rows, hr, hrows⟩ := ih (by omega)
        obtain ⟨row, hrow, hcells⟩ := key k (by omega)
        refine ⟨rows ++ [row], by simp [hr], fun j rw' hj => ?_⟩
        rcases Nat.lt_or_ge j rows.length with hlt | hge
        · rw [List.getElem?_append_left hlt] at hj
          exact hrows j rw' hj
        · rw [List.getElem?_append_right hge] at hj
          have hj0 : j = k := by
            have := (List.getElem?_eq_some_iff.1 hj).1
            simp at this; omega
          subst hj0
          rw [hr] at hj
          simp at hj
          subst hj
          exact ⟨hrow, hcells⟩
    obtain ⟨rows, hr, hrows⟩ := build len (Nat.le_refl _)
    exact ⟨some a, len, cap, rows, rfl, hlc, hm, hr, fun j row hj => ⟨(hrows j row hj).1, (hrows j row hj).2.1, a, rfl, (hrows j row hj).2.2⟩⟩
end
/-- Messages as the document has them, in a slice. -/
def refMsgE : Elt MsgV where
  ty := 41
  sl := 23
  n := 22
  bytes := 200
  zero := .agg (msgC MsgV.zero)
  enc := fun m => (msgC m).toList
  pos := by decide
  len := fun _ => rfl
  one := msgE.one
  info := by kernel_rfl
  zlen := by kernel_rfl
  und := Tryz.underlying23
  small := by decide
set_option maxRecDepth 100000 in
theorem leaves_msg : leaves Tryz.prog 20 41 = some [.int .i64, .int .i64, .int .i64, .int .i64, .int .i64, .int .i64, .int .i64, .int .i64, .int .i64, .int .i64, .int .i64, .int .i64, .int .i64, .int .i64, .int .i64, .int .i64, .int .i64, .int .i64, .str, .str, .int .i64, .str] := by kernel_rfl
theorem fit_msg {B : Nat} {row : List Value} (h : FitAll [.int .i64, .int .i64, .int .i64, .int .i64, .int .i64, .int .i64, .int .i64, .int .i64, .int .i64, .int .i64, .int .i64, .int .i64, .int .i64, .int .i64, .int .i64, .int .i64, .int .i64, .int .i64, .str, .str, .int .i64, .str] row) (hs : StrLe B row) : ∃ m : MsgV, row = (msgC m).toList ∧ m.nm.size ≤ B ∧ m.nw.size ≤ B ∧ m.dt.size ≤ B ∧ Rng m.q ∧ Rng m.r := by
  obtain ⟨_, _, rfl, ⟨q, rfl, b_q⟩, h0⟩ := fit_cons h
  obtain ⟨_, _, rfl, ⟨d0, rfl, b_d0⟩, h1⟩ := fit_cons h0
  obtain ⟨_, _, rfl, ⟨d1, rfl, b_d1⟩, h2⟩ := fit_cons h1
  obtain ⟨_, _, rfl, ⟨d2, rfl, b_d2⟩, h3⟩ := fit_cons h2
  obtain ⟨_, _, rfl, ⟨d3, rfl, b_d3⟩, h4⟩ := fit_cons h3
  obtain ⟨_, _, rfl, ⟨d4, rfl, b_d4⟩, h5⟩ := fit_cons h4
  obtain ⟨_, _, rfl, ⟨d5, rfl, b_d5⟩, h6⟩ := fit_cons h5
  obtain ⟨_, _, rfl, ⟨d6, rfl, b_d6⟩, h7⟩ := fit_cons h6
  obtain ⟨_, _, rfl, ⟨d7, rfl, b_d7⟩, h8⟩ := fit_cons h7
  obtain ⟨_, _, rfl, ⟨t, rfl, b_t⟩, h9⟩ := fit_cons h8
  obtain ⟨_, _, rfl, ⟨r, rfl, b_r⟩, h10⟩ := fit_cons h9
  obtain ⟨_, _, rfl, ⟨k, rfl, b_k⟩, h11⟩ := fit_cons h10
  obtain ⟨_, _, rfl, ⟨a0, rfl, b_a0⟩, h12⟩ := fit_cons h11
  obtain ⟨_, _, rfl, ⟨a1, rfl, b_a1⟩, h13⟩ := fit_cons h12
  obtain ⟨_, _, rfl, ⟨i0, rfl, b_i0⟩, h14⟩ := fit_cons h13
  obtain ⟨_, _, rfl, ⟨i1, rfl, b_i1⟩, h15⟩ := fit_cons h14
  obtain ⟨_, _, rfl, ⟨t0, rfl, b_t0⟩, h16⟩ := fit_cons h15
  obtain ⟨_, _, rfl, ⟨t1, rfl, b_t1⟩, h17⟩ := fit_cons h16
  obtain ⟨_, _, rfl, ⟨nm, rfl, _⟩, h18⟩ := fit_cons h17
  obtain ⟨_, _, rfl, ⟨nw, rfl, _⟩, h19⟩ := fit_cons h18
  obtain ⟨_, _, rfl, ⟨off, rfl, b_off⟩, h20⟩ := fit_cons h19
  obtain ⟨_, _, rfl, ⟨dt, rfl, _⟩, h21⟩ := fit_cons h20
  obtain rfl := fit_nil h21
  exact ⟨⟨q, d0, d1, d2, d3, d4, d5, d6, d7, t, r, k, a0, a1, i0, i1, t0, t1, nm, nw, off, dt⟩, rfl, hs nm (by simp), hs nw (by simp), hs dt (by simp), i64_of b_q, i64_of b_r⟩
/-- A list of lists of cells, each of which is a message's. -/
theorem msgs_of {B : Nat} : ∀ (rows : List (List Value)), (∀ (j : Nat) (row : List Value), rows[j]? = some row → ∃ m : MsgV, row = (msgC m).toList ∧ m.nm.size ≤ B ∧ m.nw.size ≤ B ∧ m.dt.size ≤ B ∧ Rng m.q ∧ Rng m.r) →
    ∃ l : List MsgV, rows = l.map (fun m => (msgC m).toList) ∧ ∀ m ∈ l, m.nm.size ≤ B ∧ m.nw.size ≤ B ∧ m.dt.size ≤ B ∧ Rng m.q ∧ Rng m.r
  | [], _ => ⟨[], rfl, by simp⟩
  | row :: rows, h => by
    obtain ⟨m, hm, h1⟩ := h 0 row rfl
    obtain ⟨l, hl, h2⟩ := msgs_of rows (fun j row' hj => h (j + 1) row' (by simpa using hj))
    refine ⟨m :: l, by rw [hm, hl]; rfl, fun x hx => ?_⟩
    rcases List.mem_cons.1 hx with rfl | hx
    · exact h1
    · exact h2 x hx
/-- Messages in a slice that came in. -/
def AreMsgs (B : Nat) (w : World) (v : Value) (l : List MsgV) : Prop := refMsgE.Are w v l ∧ ∀ m ∈ l, m.nm.size ≤ B ∧ m.nw.size ≤ B ∧ m.dt.size ≤ B ∧ Rng m.q ∧ Rng m.r
def IsMsgs (w : World) (v : Value) (A : Option Addr) (cap : Nat) (l : List MsgV) : Prop := v = .slice A l.length cap ∧ AreMsgs 140737488351232 w v l
set_option maxRecDepth 100000 in
theorem open_msgs {H : Type} {enc : TypeId × Value → H} {w : World} {base : Nat} {spare : Nat → Bool} {held : Bool} {r : Reach} {b0 : Nat} {v : Value} {d : DataW H} {p : List MemPlace} (hS : ∀ n ∈ d.weights Tryz.prog 23, n ≤ reachBytes)
    (hv : Value.okWide Tryz.prog w r b0 23 v) (h : DataW.Trod enc Tryz.prog w base spare held 23 v d p) : ∃ A cap l, IsMsgs w v A cap l := by
  obtain ⟨A, len, cap, rows, rfl, h1, h2, h3, h4⟩ := open_rowsS 20 _ Tryz.underlying23 leaves_msg (by kernel_rfl) hv h hS
  have hrb : reachBytes ≤ 140737488351232 := by decide
  obtain ⟨l, hl, h5⟩ := msgs_of (B := 140737488351232) rows (fun j row hj => fit_msg (h4 j row hj).1 (fun s hs => Nat.le_trans ((h4 j row hj).2.1 s hs) hrb))
  have hlen : l.length = len := by rw [← h3, hl]; simp
  subst hlen
  refine ⟨A, cap, l, rfl, ⟨A, cap, rfl, h1, h2, fun j x hj => ?_⟩, h5⟩
  have hr : rows[j]? = some (msgC x).toList := by rw [hl, List.getElem?_map, hj]; rfl
  obtain ⟨-, -, a, ha, hc⟩ := h4 j _ hr
  exact ⟨a, ha, hc⟩
end Go.Proofs.YtcgkkjfbdappoaaGreat
