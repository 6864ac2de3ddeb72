/- Texts that belong together, in one. -/
import Derived.Test.YtcgkkjfbdappoaaGreatBase
import Derived.Deep.Slices
import Derived.WideShapes
import Derived.SizedLaws
import Derived.ProofKit
/- How arguments that are structs and arrays of numbers, bools and strings, and slices of such, read: cell by cell. -/
namespace Go.Proofs.YtcgkkjfbdappoaaGreat.Opn
set_option linter.unusedVariables false

inductive Lf where
  | int (k : IntKind)
  | str
  | bool

mutual
/-- The cells of a type without pointers, one behind the other. -/
def leaves (P : Program) : Nat → TypeId → Option (List Lf)
  | 0, _ => none
  | f + 1, t =>
    match P.underlying t with
    | some .bool => some [.bool]
    | some (.int k) => some [.int k]
    | some .string => some [.str]
    | some (.struct fs) => (leavesFs P f fs.toList 0).bind fun l => if P.cellsOf t = l.length then some l else none
    | some (.array n e) => (leaves P f e).bind fun l => if P.cellsOf e = l.length ∧ P.cellsOf t = n * l.length then some (List.replicate n l).flatten else none
    | _ => none
def leavesFs (P : Program) : Nat → List Field → Nat → Option (List Lf)
  | 0, _, _ => none
  | _ + 1, [], _ => some []
  | f + 1, x :: r, off => if x.offset = off then (leaves P f x.type).bind fun l => if P.cellsOf x.type = l.length then (leavesFs P f r (off + l.length)).map (l ++ ·) else none else none
end

def Fits : Lf → Value → Prop
  | .int k, v => ∃ n, v = .int k n ∧ (Lit.int k n).wf = true
  | .str, v => ∃ s : ByteArray, v = .string s ∧ s.size ≤ maxLen
  | .bool, v => ∃ b, v = .bool b
def FitAll : List Lf → List Value → Prop
  | [], [] => True
  | l :: ls, v :: vs => Fits l v ∧ FitAll ls vs
  | _, _ => False

theorem FitAll.append : ∀ {a : List Lf} {x : List Value} {b : List Lf} {y : List Value}, FitAll a x → FitAll b y → FitAll (a ++ b) (x ++ y)
  | [], [], _, _, _, h => h
  | l :: ls, v :: vs, _, _, h, k => ⟨h.1, FitAll.append h.2 k⟩
  | [], _ :: _, _, _, h, _ => h.elim
  | _ :: _, [], _, _, h, _ => h.elim
theorem FitAll.len : ∀ {a : List Lf} {x : List Value}, FitAll a x → x.length = a.length
  | [], [], _ => rfl
  | l :: ls, v :: vs, h => by simp [FitAll.len h.2]
  | [], _ :: _, h => h.elim
  | _ :: _, [], h => h.elim

theorem mapM_cons_some {α β : Type} {f : α → Option β} {a : α} {l : List α} {r : List β} (h : (a :: l).mapM f = some r) : ∃ b r', f a = some b ∧ l.mapM f = some r' ∧ r = b :: r' := by
  rw [List.mapM_cons] at h
  cases hb : f a with
  | none => rw [hb] at h; simp at h
  | some b =>
    rw [hb] at h
    cases hr : l.mapM f with
    | none => rw [hr] at h; simp at h
    | some r' =>
      rw [hr] at h
      simp at h
      exact ⟨b, r', rfl, rfl, h.symm⟩
theorem mapM_all {α β : Type} {f : α → Option β} : ∀ {l : List α} {r : List β}, l.mapM f = some r → ∀ a ∈ l, ∃ b, f a = some b
  | [], _, _, a, ha => by simp at ha
  | x :: t, r, h, a, ha => by
    obtain ⟨b, r', h1, h2, _⟩ := mapM_cons_some h
    rcases List.mem_cons.1 ha with rfl | ha
    · exact ⟨b, h1⟩
    · exact mapM_all h2 a ha

section
variable {H : Type} {enc : TypeId × Value → H} {P : Program} {w : World} {base : Nat} {spare : Nat → Bool} {held : Bool}

/-- A row of elements that each fit. -/
theorem fit_row (l : List Lf) : ∀ (n : Nat) (cs : List Value), cs.length = n * l.length → (∀ i, i < n → FitAll l ((cs.drop (i * l.length)).take l.length)) → FitAll (List.replicate n l).flatten cs
  | 0, cs, hl, _ => by
    have : cs = [] := List.eq_nil_of_length_eq_zero (by omega)
    subst this; exact trivial
  | n + 1, cs, hl, h => by
    rw [List.replicate_succ, List.flatten_cons]
    have e : cs = cs.take l.length ++ cs.drop l.length := (List.take_append_drop _ _).symm
    rw [e]
    have h0 := h 0 (by omega)
    rw [Nat.zero_mul, List.drop_zero] at h0
    refine FitAll.append h0 (fit_row l n _ (by rw [List.length_drop, hl, Nat.succ_mul]; omega) fun i hi => ?_)
    have := h (i + 1) (by omega)
    rw [List.drop_drop, show l.length + i * l.length = (i + 1) * l.length from by rw [Nat.succ_mul, Nat.add_comm]]
    exact this

mutual
theorem fits (f : Nat) (t : TypeId) (fuel : Nat) (cs : List Value) (x : DataW H × List MemPlace) (ls : List Lf) (hl : leaves P f t = some ls)
    (h : DataW.trod enc P w base spare held fuel t cs = some x) : FitAll ls cs := by
  cases f with
  | zero => simp [leaves] at hl
  | succ f =>
    cases fuel with
    | zero => simp [DataW.trod] at h
    | succ fuel =>
      unfold leaves at hl
      unfold DataW.trod at h
      cases hu : P.underlying t with
      | none => rw [hu] at hl; simp at hl
      | some d =>
        rw [hu] at hl h
        cases d with
        | bool =>
          simp only [Option.some.injEq] at hl
          subst hl
          split at h <;> simp_all
          exact ⟨⟨_, rfl⟩, trivial⟩
        | int k =>
          simp only [Option.some.injEq] at hl
          subst hl
          split at h <;> simp_all
          rename_i k' n
          obtain ⟨⟨rfl, hw⟩, _⟩ := h
          exact ⟨⟨_, rfl, hw⟩, trivial⟩
        | string =>
          simp only [Option.some.injEq] at hl
          subst hl
          split at h <;> simp_all
          exact ⟨⟨_, rfl, h.1⟩, trivial⟩
        | struct fs =>
          simp only [Option.bind_eq_some_iff] at hl
          obtain ⟨l, hl1, hl2⟩ := hl
          split at hl2
          · rename_i hc
            simp only [Option.some.injEq] at hl2
            subst hl2
            simp only at h
            split at h
            · rename_i hcs
              simp only [Option.map_eq_some_iff] at h
              obtain ⟨xs, hx, _⟩ := h
              have := fits_fs f fs.toList 0 fuel cs xs l hl1 hx (by omega)
              simpa using this
            · simp at h
          · simp at hl2
        | array n e =>
          simp only [Option.bind_eq_some_iff] at hl
          obtain ⟨l, hl1, hl2⟩ := hl
          split at hl2
          · rename_i hc
            simp only [Option.some.injEq] at hl2
            subst hl2
            simp only at h
            split at h
            · rename_i hcs
              simp only [Option.map_eq_some_iff] at h
              obtain ⟨xs, hx, _⟩ := h
              refine fit_row l n cs (by omega) fun i hi => ?_
              obtain ⟨y, hy⟩ := mapM_all hx i (by simpa using hi)
              rw [hc.1] at hy
              exact fits f e fuel _ y l hl1 hy
            · simp at h
          · simp at hl2
        | _ => simp at hl
theorem fits_fs (f : Nat) (fs : List Field) (off : Nat) (fuel : Nat) (cs : List Value) (xs : List (DataW H × List MemPlace)) (ls : List Lf) (hl : leavesFs P f fs off = some ls)
    (h : (fs.mapM fun x => DataW.trod enc P w base spare held fuel x.type ((cs.drop x.offset).take (P.cellsOf x.type))) = some xs) (hc : off + ls.length = cs.length) : FitAll ls (cs.drop off) := by
  cases f with
  | zero => simp [leavesFs] at hl
  | succ f =>
    cases fs with
    | nil =>
      simp only [leavesFs, Option.some.injEq] at hl
      subst hl
      have : cs.drop off = [] := List.drop_eq_nil_of_le (by simpa using Nat.le_of_eq hc.symm)
      rw [this]; exact trivial
    | cons x r =>
      simp only [leavesFs] at hl
      split at hl
      · rename_i ho
        simp only [Option.bind_eq_some_iff] at hl
        obtain ⟨l, hl1, hl2⟩ := hl
        split at hl2
        · rename_i hcl
          simp only [Option.map_eq_some_iff] at hl2
          obtain ⟨l2, hl3, rfl⟩ := hl2
          obtain ⟨y, ys, hy, hys, _⟩ := mapM_cons_some h
          rw [ho, hcl] at hy
          have h1 := fits f x.type fuel _ y l hl1 hy
          have h2 := fits_fs f r (off + l.length) fuel cs ys l2 hl3 hys (by rw [List.length_append] at hc; omega)
          have e : cs.drop off = (cs.drop off).take l.length ++ cs.drop (off + l.length) := by
            rw [← List.drop_drop, List.take_append_drop]
          rw [e]
          exact FitAll.append h1 h2
        · simp at hl2
      · simp at hl
end
end

theorem fit_ints (k : IntKind) : ∀ (n : Nat) (cs : List Value), FitAll (List.replicate n (.int k)) cs → ∃ l : List Int, cs = l.map (Value.int k) ∧ l.length = n ∧ ∀ x ∈ l, (Lit.int k x).wf = true
  | 0, [], _ => ⟨[], rfl, rfl, by simp⟩
  | 0, _ :: _, h => h.elim
  | n + 1, [], h => h.elim
  | n + 1, v :: vs, h => by
    obtain ⟨⟨x, rfl, hx⟩, h2⟩ := h
    obtain ⟨l, rfl, rfl, hl⟩ := fit_ints k n vs h2
    exact ⟨x :: l, rfl, rfl, by simpa using ⟨hx, hl⟩⟩
end Go.Proofs.YtcgkkjfbdappoaaGreat.Opn

/- Arguments opened: structs and arrays by value, slices of whatever has no pointers. -/
namespace Go.Proofs.YtcgkkjfbdappoaaGreat.Opn
open Go.ChangeShapes Go.WideShapes Go.ChangeAt Go.RowKit
set_option linter.unusedVariables false

section
variable {H : Type} {enc : TypeId × Value → H} {P : Program} {w : World} {base : Nat} {spare : Nat → Bool} {held : Bool}

/-- A struct by value. -/
theorem open_struct {r : Reach} {b0 : Nat} {t : TypeId} {fs : Array Field} {v : Value} {d : DataW H} {p : List MemPlace} (f : Nat) (ls : List Lf) (hs : P.underlying t = some (.struct fs)) (hl : leaves P f t = some ls)
    (hv : Value.okWide P w r b0 t v) (h : DataW.Trod enc P w base spare held t v d p) : ∃ cs : List Value, v = .agg cs.toArray ∧ FitAll ls cs := by
  obtain ⟨cs, rfl, hsz⟩ := okWide_struct hs hv
  obtain ⟨fuel, hf⟩ := h
  exact ⟨cs.toList, rfl, fits f t fuel _ _ ls hl hf⟩

theorem okWide_array {r : Reach} {b0 : Nat} {t e : TypeId} {n : Nat} {v : Value} (hs : P.underlying t = some (.array n e)) (hv : Value.okWide P w r b0 t v) : ∃ cs, v = .agg cs := by
  simp only [Value.okWide, hs] at hv
  obtain ⟨cs, h1, _⟩ := hv
  exact ⟨cs, h1⟩

/-- An array by value. -/
theorem open_array {r : Reach} {b0 : Nat} {t e : TypeId} {n : Nat} {v : Value} {d : DataW H} {p : List MemPlace} (f : Nat) (ls : List Lf) (hs : P.underlying t = some (.array n e)) (hl : leaves P f t = some ls)
    (hv : Value.okWide P w r b0 t v) (h : DataW.Trod enc P w base spare held t v d p) : ∃ cs : List Value, v = .agg cs.toArray ∧ FitAll ls cs := by
  obtain ⟨cs, rfl⟩ := okWide_array hs hv
  obtain ⟨fuel, hf⟩ := h
  exact ⟨cs.toList, rfl, fits f t fuel _ _ ls hl hf⟩

/-- A row of elements that is read: each fits, cell by cell. -/
def Rows (ls : List Lf) (w : World) (A : Option Addr) (rows : List (List Value)) : Prop :=
  ∀ j row, rows[j]? = some row → FitAll ls row ∧ ∃ a, A = some a ∧ ∀ i u, row[i]? = some u → w.cell? (a.add (j * ls.length + i)) = some u

/-- A slice of elements without pointers. -/
theorem open_rows {r : Reach} {b0 : Nat} {t e : TypeId} {v : Value} {d : DataW H} {p : List MemPlace} (f : Nat) (ls : List Lf) (hs : P.underlying t = some (.slice e)) (hl : leaves P f e = some ls) (hc : P.cellsOf e = ls.length)
    (hv : Value.okWide P w r b0 t v) (h : DataW.Trod enc P w base spare held t v d p) :
    ∃ A len cap rows, v = .slice A len cap ∧ len ≤ cap ∧ cap ≤ maxLen ∧ rows.length = len ∧ Rows ls w A rows := by
  obtain ⟨A, len, cap, rfl⟩ := okWide_slice hs hv
  obtain ⟨fuel, hf⟩ := h
  rcases Deep.open_slice hs hf with ⟨h0, _⟩ | ⟨a, l, c, m, n, D, Pl, h0, hb, hlc, hm, hmm, _, hx⟩
  · simp [Value.cells] at h0
    obtain ⟨rfl, rfl, rfl⟩ := h0
    exact ⟨none, 0, 0, [], rfl, Nat.le_refl _, by unfold maxLen; omega, rfl, fun j row hj => by simp at hj⟩
  · simp [Value.cells] at h0
    obtain ⟨rfl, rfl, rfl⟩ := h0
    have hlm : len ≤ m := by rw [hmm]; split <;> omega
    have key : ∀ i, i < len → ∃ row, FitAll ls row ∧ ∀ j u, row[j]? = some u → w.cell? (a.add (i * ls.length + j)) = some u := by
      intro i hi
      obtain ⟨cs, h1, h2⟩ := hx i (by omega)
      rw [hc] at h1
      obtain ⟨_, hlen, hcell⟩ := World.cells?_some h1
      refine ⟨cs, fits f e n cs _ ls hl h2, fun j u hj => ?_⟩
      have hjl : j < ls.length := by
        rw [← hlen]
        exact (List.getElem?_eq_some_iff.1 hj).1
      have := hcell j hjl
      rw [Deep.add_add] at this
      rw [this, hj]
    have build : ∀ k, k ≤ len → ∃ rows : List (List Value), rows.length = k ∧ ∀ j row, rows[j]? = some row → FitAll ls row ∧ ∀ i u, row[i]? = some u → w.cell? (a.add (j * ls.length + i)) = some u := by
      intro k
      induction k with
      | zero => intro _; exact ⟨[], rfl, fun j row hj => by simp at hj⟩
      | succ k ih =>
        intro hk
        obtain ⟨rows, hr, hrows⟩ := ih (by omega)
        obtain ⟨row, hrow, hcells⟩ := key k (by omega)
        refine ⟨rows ++ [row], by simp [hr], fun j rw' hj => ?_⟩
        rcases Nat.lt_or_ge j rows.length with hlt | hge
        · rw [List.getElem?_append_left hlt] at hj
          exact hrows j rw' hj
        · rw [List.getElem?_append_right hge] at hj
          have hj0 : j = k := by
            have := (List.getElem?_eq_some_iff.1 hj).1
            simp at this; omega
          subst hj0
          rw [hr] at hj
          simp at hj
          subst hj
          exact ⟨hrow, hcells⟩
    obtain ⟨rows, hr, hrows⟩ := build len (Nat.le_refl _)
    exact ⟨some a, len, cap, rows, rfl, hlc, hm, hr, fun j row hj => ⟨(hrows j row hj).1, a, rfl, (hrows j row hj).2⟩⟩
end
end Go.Proofs.YtcgkkjfbdappoaaGreat.Opn

/- Texts within an argument that has no pointers are no longer than its weights. -/
namespace Go.Proofs.YtcgkkjfbdappoaaGreat.Opn
open Go.ChangeShapes Go.WideShapes Go.RowKit
set_option linter.unusedVariables false
set_option linter.unusedSimpArgs false

/-- All texts among these cells are so long at most. -/
def StrLe (B : Nat) (cs : List Value) : Prop := ∀ s : ByteArray, Value.string s ∈ cs → s.size ≤ B
theorem StrLe.append {B : Nat} {a b : List Value} (h : StrLe B a) (k : StrLe B b) : StrLe B (a ++ b) := fun s hs => (List.mem_append.1 hs).elim (h s) (k s)
section
variable {H : Type} {enc : TypeId × Value → H} {P : Program} {w : World} {base : Nat} {spare : Nat → Bool} {held : Bool} {B : Nat}
theorem weightsAll_mem {t : TypeId} : ∀ {l : List (DataW H)} {d : DataW H}, d ∈ l → ∀ n ∈ d.weights P t, n ∈ DataW.weightsAll P t l
  | x :: r, d, hd, n, hn => by
    simp only [DataW.weightsAll, List.mem_append]
    rcases List.mem_cons.1 hd with rfl | hd
    · exact .inl hn
    · exact .inr (weightsAll_mem hd n hn)
theorem strLe_rows {m : Nat} (hm : 0 < m) : ∀ (n : Nat) (cs : List Value), cs.length = n * m → (∀ i, i < n → StrLe B ((cs.drop (i * m)).take m)) → StrLe B cs
  | 0, cs, hl, _ => by
    have : cs = [] := List.eq_nil_of_length_eq_zero (by omega)
    subst this; intro s hs; cases hs
  | n + 1, cs, hl, h => by
    have e : cs = cs.take m ++ cs.drop m := (List.take_append_drop _ _).symm
    rw [e]
    have h0 := h 0 (by omega)
    rw [Nat.zero_mul, List.drop_zero] at h0
    refine h0.append (strLe_rows hm n _ (by rw [List.length_drop, hl, Nat.succ_mul]; omega) fun i hi => ?_)
    have := h (i + 1) (by omega)
    rw [List.drop_drop, show m + i * m = (i + 1) * m from by rw [Nat.succ_mul, Nat.add_comm]]
    exact this
theorem mapM_mem {α β : Type} {f : α → Option β} : ∀ {l : List α} {r : List β}, l.mapM f = some r → ∀ a ∈ l, ∃ b ∈ r, f a = some b
  | [], _, _, a, ha => by simp at ha
  | x :: t, r, h, a, ha => by
    obtain ⟨b, r', h1, h2, rfl⟩ := mapM_cons_some h
    rcases List.mem_cons.1 ha with rfl | ha
    · exact ⟨b, List.mem_cons_self, h1⟩
    · obtain ⟨c, hc, h3⟩ := mapM_mem h2 a ha
      exact ⟨c, List.mem_cons_of_mem _ hc, h3⟩
mutual
theorem sizedL (f : Nat) (t : TypeId) (fuel : Nat) (cs : List Value) (x : DataW H × List MemPlace) (ls : List Lf) (hl : leaves P f t = some ls)
    (h : DataW.trod enc P w base spare held fuel t cs = some x) (hw : ∀ n ∈ x.1.weights P t, n ≤ B) : StrLe B cs := by
  cases f with
  | zero => simp [leaves] at hl
  | succ f =>
    cases fuel with
    | zero => simp [DataW.trod] at h
    | succ fuel =>
      unfold leaves at hl
      unfold DataW.trod at h
      cases hu : P.underlying t with
      | none => rw [hu] at hl; simp at hl
      | some d =>
        rw [hu] at hl h
        cases d with
        | bool =>
          split at h <;> simp_all
          intro s hs; simp at hs
        | int k =>
          split at h <;> simp_all
          intro s hs; simp at hs
        | string =>
          split at h <;> simp_all
          rename_i s
          obtain ⟨h1, rfl⟩ := h
          intro s' hs
          simp at hs
          subst hs
          have := hw s'.data.toList.length (by simp [DataW.weights])
          exact this
        | struct fs =>
          simp only [Option.bind_eq_some_iff] at hl
          obtain ⟨l, hl1, hl2⟩ := hl
          split at hl2
          · rename_i hc
            simp only at h
            split at h
            · rename_i hcs
              simp only [Option.map_eq_some_iff] at h
              obtain ⟨xs, hx, rfl⟩ := h
              have := sizedFs f fs.toList 0 fuel cs xs l hl1 hx (by omega) (fun n hn => hw n (by simp only [DataW.weights, hu]; exact hn))
              simpa using this
            · simp at h
          · simp at hl2
        | array n e =>
          simp only [Option.bind_eq_some_iff] at hl
          obtain ⟨l, hl1, hl2⟩ := hl
          split at hl2
          · rename_i hc
            simp only at h
            split at h
            · rename_i hcs
              simp only [Option.map_eq_some_iff] at h
              obtain ⟨xs, hx, rfl⟩ := h
              rcases Nat.eq_zero_or_pos l.length with h0 | h0
              · have : cs = [] := List.eq_nil_of_length_eq_zero (by rw [hcs, hc.2, h0, Nat.mul_zero])
                subst this; intro s hs; cases hs
              · refine strLe_rows h0 n cs (by omega) fun i hi => ?_
                obtain ⟨y, hym, hy⟩ := mapM_mem hx i (by simpa using hi)
                rw [hc.1] at hy
                exact sizedL f e fuel _ y l hl1 hy (fun m hm => hw m (by
                  simp only [DataW.weights, hu]
                  exact weightsAll_mem (List.mem_map.2 ⟨y, hym, rfl⟩) m hm))
            · simp at h
          · simp at hl2
        | _ => simp at hl
theorem sizedFs (f : Nat) (fs : List Field) (off : Nat) (fuel : Nat) (cs : List Value) (xs : List (DataW H × List MemPlace)) (ls : List Lf) (hl : leavesFs P f fs off = some ls)
    (h : (fs.mapM fun x => DataW.trod enc P w base spare held fuel x.type ((cs.drop x.offset).take (P.cellsOf x.type))) = some xs) (hc : off + ls.length = cs.length)
    (hw : ∀ n ∈ DataW.weightsEach P (fs.map (·.type)) (xs.map (·.1)), n ≤ B) : StrLe B (cs.drop off) := by
  cases f with
  | zero => simp [leavesFs] at hl
  | succ f =>
    cases fs with
    | nil =>
      simp only [leavesFs, Option.some.injEq] at hl
      subst hl
      have : cs.drop off = [] := List.drop_eq_nil_of_le (by simpa using Nat.le_of_eq hc.symm)
      rw [this]; intro s hs; cases hs
    | cons x r =>
      simp only [leavesFs] at hl
      split at hl
      · rename_i ho
        simp only [Option.bind_eq_some_iff] at hl
        obtain ⟨l, hl1, hl2⟩ := hl
        split at hl2
        · rename_i hcl
          simp only [Option.map_eq_some_iff] at hl2
          obtain ⟨l2, hl3, rfl⟩ := hl2
          obtain ⟨y, ys, hy, hys, rfl⟩ := mapM_cons_some h
          rw [ho, hcl] at hy
          simp only [List.map_cons, DataW.weightsEach, List.mem_append] at hw
          have h1 := sizedL f x.type fuel _ y l hl1 hy (fun n hn => hw n (.inl hn))
          have h2 := sizedFs f r (off + l.length) fuel cs ys l2 hl3 hys (by rw [List.length_append] at hc; omega) (fun n hn => hw n (.inr hn))
          have e : cs.drop off = (cs.drop off).take l.length ++ cs.drop (off + l.length) := by
            rw [← List.drop_drop, List.take_append_drop]
          rw [e]
          exact h1.append h2
        · simp at hl2
      · simp at hl
end
/-- What one argument holds is no more than the reach. -/
theorem sized_weights {ts : List TypeId} {ds : List (DataW H)} (h : (DataW.weightsEach P ts ds).all (· ≤ reachBytes) = true) {j : Nat} {t : TypeId} {d : DataW H} (ht : ts[j]? = some t) (hd : ds[j]? = some d) : ∀ n ∈ d.weights P t, n ≤ reachBytes := fun n hn => by
  have := DataW.weights_mem_each ht hd n hn
  rw [List.all_eq_true] at h
  exact of_decide_eq_true (h n this)
theorem sized_struct {t : TypeId} {cs : List Value} {d : DataW H} {p : List MemPlace} (f : Nat) (ls : List Lf) (hl : leaves P f t = some ls)
    (h : DataW.Trod enc P w base spare held t (.agg cs.toArray) d p) (hw : ∀ n ∈ d.weights P t, n ≤ B) : StrLe B cs := by
  obtain ⟨fuel, hf⟩ := h
  exact sizedL f t fuel cs (d, p) ls hl (by simpa [Value.cells] using hf) hw
end
end Go.Proofs.YtcgkkjfbdappoaaGreat.Opn
