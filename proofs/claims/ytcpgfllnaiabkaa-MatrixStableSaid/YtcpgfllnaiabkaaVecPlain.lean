/- Vectors of eight numbers: as the machine has them, and what is joined and met. -/
import Derived.Test.YtcpgfllnaiabkaaKeep
import Derived.ChangeKeysEq
namespace Go.Proofs.Ytcpgfllnaiabkaa
open Go.RowKit Go.Proofs.YtcpgfllnaiabkaaW.PrintWords Go.Proofs.YtcpgfllnaiabkaaW.PrintLast Go.Proofs.YtcpgfllnaiabkaaW.PrintMore
set_option linter.unusedVariables false
set_option linter.unusedSimpArgs false

/-- The cells of a vector. -/
def vec (l : List Int) : Array Value := (l.map (Value.int .i64)).toArray
theorem vec_size (l : List Int) : (vec l).size = l.length := by simp [vec]
theorem vec_at {l : List Int} {k : Nat} {x : Int} (h : l[k]? = some x) : (vec l)[k]? = some (.int .i64 x) := by simp [vec, h]
theorem vec_set (l : List Int) (k : Nat) (x : Int) : (vec l).setIfInBounds k (.int .i64 x) = vec (l.set k x) := by
  unfold vec
  rw [List.map_set]
  simp
theorem vec_one (l : List Int) : (vec l).all (·.oneCell') = true := by
  rw [Array.all_eq_true]
  intro i h
  simp [vec]
  rfl
theorem size_vec : (Try.prog.info? 27).map (·.size) = some 8 := by kernel_rfl
def zero8 : List Int := List.replicate 8 0
theorem zeroVec (w : World) : (zeroValue 27).run Try.prog w = .ok (.agg (vec zero8)) w := by kernel_rfl
theorem index_vec {l : List Int} {k : Nat} {x : Int} (hl : l.length = 8) (h : l[k]? = some x) (w : World) : (Instr.index 27 (.agg (vec l)) (.int .i64 (k : Int))).run Try.prog w = .ok (.int .i64 x) w := by
  have hk : k < 8 := by rw [← hl]; exact (List.getElem?_eq_some_iff.1 h).1
  have hn : 0 ≤ (k : Int) ∧ (k : Int) < 8 := by omega
  have hs : (sizeOf 3).run Try.prog w = .ok 1 w := by kernel_rfl
  have ha : (isAgg 3).run Try.prog w = .ok false w := by kernel_rfl
  have hv := vec_at h
  simp [Instr.index, run_underlying Try.underlying27, asIntOf, hn, hs, part, ha, hv]
  intro h8; omega

/-- What is done number by number. -/
def bothL (f : Int → Int → Int) (a b : List Int) : List Int := List.zipWith f a b
def joinL (a b : List Int) : List Int := bothL mx a b
def meetL (a b : List Int) : List Int := bothL mn a b
/-- Behind so many rounds. -/
def mixL (f : Int → Int → Int) (a b : List Int) (k : Nat) : List Int := (bothL f a b).take k ++ a.drop k
theorem bothL_len {f : Int → Int → Int} {a b : List Int} (ha : a.length = 8) (hb : b.length = 8) : (bothL f a b).length = 8 := by simp [bothL, ha, hb]
theorem mixL_zero (f : Int → Int → Int) (a b : List Int) : mixL f a b 0 = a := by simp [mixL]
theorem mixL_full {f : Int → Int → Int} {a b : List Int} (ha : a.length = 8) (hb : b.length = 8) : mixL f a b 8 = bothL f a b := by
  unfold mixL
  rw [List.take_of_length_le (by rw [bothL_len ha hb]; exact Nat.le_refl _), List.drop_eq_nil_of_le (by omega), List.append_nil]
theorem mixL_len {f : Int → Int → Int} {a b : List Int} (ha : a.length = 8) (hb : b.length = 8) {k : Nat} (hk : k ≤ 8) : (mixL f a b k).length = 8 := by
  unfold mixL
  rw [List.length_append, List.length_take, List.length_drop, bothL_len ha hb]; omega
theorem mixL_at {f : Int → Int → Int} {a b : List Int} (ha : a.length = 8) (hb : b.length = 8) {k : Nat} (hk : k < 8) : (mixL f a b k)[k]? = a[k]? := by
  unfold mixL
  have h1 : ((bothL f a b).take k).length = k := by rw [List.length_take, bothL_len ha hb]; omega
  rw [List.getElem?_append_right (by omega), h1, List.getElem?_drop]; simp
theorem mixL_set {f : Int → Int → Int} {a b : List Int} (ha : a.length = 8) (hb : b.length = 8) {k : Nat} (hk : k < 8) {x y : Int} (hx : a[k]? = some x) (hy : b[k]? = some y) : (mixL f a b k).set k (f x y) = mixL f a b (k + 1) := by
  unfold mixL
  have h1 : ((bothL f a b).take k).length = k := by rw [List.length_take, bothL_len ha hb]; omega
  have h2 : (bothL f a b)[k]? = some (f x y) := by simp [bothL, List.getElem?_zipWith, hx, hy]
  have h3 : k < (bothL f a b).length := by rw [bothL_len ha hb]; exact hk
  have h4 : (bothL f a b)[k] = f x y := by rw [List.getElem?_eq_getElem h3] at h2; exact Option.some.inj h2
  have h5 : a.drop k = x :: a.drop (k + 1) := by
    have : k < a.length := by omega
    rw [List.drop_eq_getElem_cons this]
    rw [List.getElem?_eq_getElem this] at hx
    rw [Option.some.inj hx]
  rw [List.set_append_right _ _ (by omega), h1, Nat.sub_self, h5, List.set_cons_zero, List.take_succ_eq_append_getElem h3, h4, List.append_assoc]
  rfl

/-- Whether two vectors are the same. -/
def eqV (a b : List Int) : Bool := decide (a = b)
theorem eqItems_vec (d : Nat) (a b : List Int) (ha : a.length = 8) (hb : b.length = 8) (w : World) : ∀ (is : List Nat), (∀ i ∈ is, i < 8) →
    (Op.eqItems (d + 1) 3 1 (vec a) (vec b) is).run Try.prog w = .ok (is.all fun i => a[i]? == b[i]?) w := by
  intro is
  induction is with
  | nil => intro _; simp [Op.eqItems]
  | cons i is ih =>
    intro h
    have hi := h i List.mem_cons_self
    obtain ⟨x, hx⟩ : ∃ x, a[i]? = some x := ⟨_, List.getElem?_eq_getElem (by omega)⟩
    obtain ⟨y, hy⟩ : ∃ y, b[i]? = some y := ⟨_, List.getElem?_eq_getElem (by omega)⟩
    have hs : (sizeOf 3).run Try.prog w = .ok 1 w := by kernel_rfl
    have hag : (isAgg 3).run Try.prog w = .ok false w := by kernel_rfl
    have hva := vec_at hx
    have hvb := vec_at hy
    have p1 : (part 3 (vec a) (i * 1)).run Try.prog w = .ok (.int .i64 x) w := by simp [part, hag, hva]
    have p2 : (part 3 (vec b) (i * 1)).run Try.prog w = .ok (.int .i64 y) w := by simp [part, hag, hvb]
    have p3 : (Op.equalIn (d + 1) 3 (.int .i64 x) (.int .i64 y)).run Try.prog w = .ok (x == y) w := by simp [Op.equalIn, run_underlying Try.underlying3]
    simp only [Op.eqItems, Sem.run_bind, p1, p2, p3, Result.andThen_ok]
    have hih := ih (fun j hj => h j (List.mem_cons_of_mem _ hj))
    by_cases e : x = y
    · subst e
      simp [hih, hx, hy]
    · have : (x == y) = false := beq_eq_false_iff_ne.2 e
      simp [this, hx, hy, e]
set_option maxRecDepth 100000 in
theorem eqVec (d : Nat) {a b : List Int} (ha : a.length = 8) (hb : b.length = 8) (w : World) : (Op.equalIn (d + 2) 27 (.agg (vec a)) (.agg (vec b))).run Try.prog w = .ok (eqV a b) w := by
  obtain ⟨i0, hi⟩ : ∃ i0, Try.prog.info? 3 = some i0 := by
    have : (Try.prog.info? 3).isSome = true := by kernel_rfl
    exact Option.isSome_iff_exists.1 this
  rw [run_equalIn_array w (d + 1) (vec a) (vec b) Try.underlying27 hi, show Try.prog.cellsOf 3 = 1 from by kernel_rfl, eqItems_vec d a b ha hb w (List.range 8) (fun i hi => by simpa using hi)]
  congr 1
  unfold eqV
  rw [Bool.eq_iff_iff, List.all_eq_true, decide_eq_true_eq]
  constructor
  · intro h
    apply List.ext_getElem?
    intro i
    by_cases hi : i < 8
    · exact beq_iff_eq.1 (h i (by simpa using hi))
    · rw [List.getElem?_eq_none (by omega), List.getElem?_eq_none (by omega)]
  · intro h i _; rw [h]; simp
/-- A whole variable, loaded. -/
theorem run_load_row {P : Program} {o : Oper} {ρ : Operand → Value} {w : World} (ty : TypeId) (x : Operand) (ho : o.op = .load ty x)
    (g : Nat) (hx : ρ x = .pointer (some ⟨g, 0, none⟩)) (t : TypeId) (cs : Array Value) (fr : Nat × Nat) (d : TypeDesc) (hg : w.heap[g]? = some (.cells cs t fr))
    (hu : P.underlying ty = some d) (hd : (match d with | .struct _ | .array _ _ => true | _ => false) = true) (hi : (P.info? ty).map (·.size) = some cs.size) : (execOp ρ o).run P w = .ok (.value (.agg cs)) w := by
  unfold execOp
  simp only [ho, hx, Instr.loadAt, Instr.sureAddr, Sem.run_bind, Sem.run_pure, Result.andThen_ok, run_loadVar_row w g t ty cs fr d hg hu hd hi]
end Go.Proofs.Ytcpgfllnaiabkaa
