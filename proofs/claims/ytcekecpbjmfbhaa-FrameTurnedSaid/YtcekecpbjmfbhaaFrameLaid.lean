/- thimblelaw06: shown, laid: their contracts; numbers that are appended. -/
import Derived.Test.YtcekecpbjmfbhaaFrameAll
namespace Go.Proofs.Ytcekecpbjmfbhaa
open Go.RowKit Go.Proofs.YtcekecpbjmfbhaaW.PrintWords Go.Proofs.YtcekecpbjmfbhaaW.PrintLast Go.Proofs.YtcekecpbjmfbhaaW.PrintMore Pk Cr
set_option linter.unusedVariables false
set_option linter.unusedSimpArgs false

def valsI (l : List Int) : List Value := l.map (Value.int .i64)
/-- A slice of numbers of one's own. -/
def OwnI (base : Nat) (w : World) (v : Value) (l : List Int) : Prop := w.ownsRow base 3 1 v l.length (valsI l)
theorem OwnI.below {base : Nat} {w w' : World} {v : Value} {l : List Int} (h : OwnI base w v l) (hb : Below w.heap.size w w') : OwnI base w' v l := by
  obtain ⟨hl, ⟨rfl, hn⟩ | ⟨g, cap, cur, rfl, h0, hg, h1, h2, h3, h4⟩⟩ := h
  · exact ⟨hl, .inl ⟨rfl, hn⟩⟩
  · exact ⟨hl, .inr ⟨g, cap, cur, rfl, h0, (hb.block _ (Array.getElem?_eq_some_iff.1 hg).1).trans hg, h1, h2, h3, h4⟩⟩
theorem OwnI.slice {base : Nat} {w : World} {v : Value} {l : List Int} (h : OwnI base w v l) : ∃ A cap, v = .slice A l.length cap := by
  obtain ⟨hl, ⟨rfl, hn⟩ | ⟨g, cap, cur, rfl, -⟩⟩ := h
  · exact ⟨none, 0, by rw [hn]⟩
  · exact ⟨_, cap, rfl⟩
theorem OwnI.cell {base : Nat} {w : World} {A : Option Addr} {cap : Nat} {l : List Int} (h : OwnI base w (.slice A l.length cap) l) {j : Nat} {x : Int} (hx : l[j]? = some x) : ∃ a, A = some a ∧ w.cell? (a.add j) = some (.int .i64 x) := by
  have h0 := h
  obtain ⟨hl, ⟨hv, hn⟩ | ⟨g, cap, cur, hv, h0', hg, h1, h2, h3, h4⟩⟩ := h
  · obtain rfl := List.eq_nil_of_length_eq_zero hn
    simp at hx
  · simp only [Value.slice.injEq] at hv
    obtain ⟨rfl, -, rfl⟩ := hv
    exact ⟨_, rfl, World.ownsRow.cells h0 rfl j (.int .i64 x) (by unfold valsI; rw [List.getElem?_map, hx]; rfl)⟩
theorem OwnI.nil (base : Nat) (w : World) : OwnI base w (.slice none 0 0) [] := World.ownsRow_nil w base _ 1
theorem info_int : (Try.prog.info? 3).map (fun i => (i.zero, i.size, i.bytes)) = some (some (.int .i64 0), 1, 8) := by kernel_rfl
theorem OwnI.grown {base : Nat} {w w' a : World} {v : Value} {l : List Int} (h : OwnI base w v l) (hg : w.grownBy w' v.ownBlock) (hb : Below base a w) (hs : base ≤ w.heap.size) : Below base a w' :=
  hb.grown hg hs (fun k e => (World.ownsRow.lt h k e).1)
theorem run_pushI {w : World} {base : Nat} {v : Value} {l : List Int} (hown : OwnI base w v l) (g : Nat) (x : Int) (hg : w.heap[g]? = some (.cells #[.int .i64 x] 3 (0, 0))) (hn : l.length ≤ 1000000000000) (hbase : base ≤ w.heap.size) :
    ∃ v' w', (Builtin.append_ #[39, 39] 39 #[v, .slice (some ⟨g, 0, none⟩) 1 1]).run Try.prog w = .ok v' w' ∧ OwnI base w' v' (l ++ [x]) ∧ w.grownBy w' v.ownBlock := by
  obtain ⟨i, hi, e⟩ := Option.map_eq_some_iff.1 info_int
  simp only [Prod.mk.injEq] at e
  obtain ⟨e1, e2, e3⟩ := e
  obtain ⟨v', w', h1, h2, h3, -⟩ := run_append_own (P := Try.prog) w base 39 39 3 i (.int .i64 0) 1 8 Try.underlying39 hi e1 e2 e3 rfl (by omega) v l.length (valsI l) hown ⟨g, 0, none⟩ 1 1 [.int .i64 x] rfl
    (fun j u hj => by
      match j, hj with
      | 0, hj =>
        have : u = .int .i64 x := by simpa using hj.symm
        subst this
        rw [Addr.add_lit, cell_of_row w g 0 _ _ _ hg]; rfl) (by simp [Value.oneCell']) (by unfold maxLen; omega) (by omega) hbase
  refine ⟨v', w', h1, ?_, h3⟩
  unfold OwnI
  have : valsI (l ++ [x]) = valsI l ++ [.int .i64 x] := by simp [valsI]
  rw [this, List.length_append]
  exact h2
theorem wpList_pushI {ops : Array Oper} {rest : List Oper} {o : Oper} {a : Act} {Q : Exit → Act → World → Prop} {w : World} (hgd : o.guard = none) (sl x : Operand)
    (ho : o.op = .call { callee := .builtin .append, args := #[sl, x], argTypes := #[39, 39] }) (hty : o.type = 39) (base : Nat) (v : Value) (l : List Int) (hs : a.eval sl = v) (hown : OwnI base w v l) (g : Nat) (b : Int) (hx : a.eval x = .slice (some ⟨g, 0, none⟩) 1 1)
    (hg : w.heap[g]? = some (.cells #[.int .i64 b] 3 (0, 0))) (hn : l.length ≤ 1000000000000) (hbase : base ≤ w.heap.size)
    (h : ∀ v' w', OwnI base w' v' (l ++ [b]) → w.grownBy w' v.ownBlock → wpList Try.prog ops Q rest (a.put o.dst v') w') : wpList Try.prog ops Q (o :: rest) a w := by
  refine wpList_plain hgd fun K hK => ?_
  obtain ⟨v', w', hr, h2, h3⟩ := run_pushI hown g b hg hn hbase
  unfold Oper.wp execOp
  simp only [ho, hty, resolve, invoke, builtin, Sem.run_bind, Sem.run_pure, Result.andThen_ok, List.map_toArray, List.map_cons, List.map_nil, hs, hx, hr]
  exact hK _ _ (h v' w' h2 h3)

/-- Texts as bytes. -/
def lists (l : List ByteArray) : List (List UInt8) := l.map fun x => x.data.toList
theorem strs_lists (l : List ByteArray) : strs (lists l) = l := by
  unfold strs lists
  rw [List.map_map]
  have : ((fun b : List UInt8 => (⟨b.toArray⟩ : ByteArray)) ∘ fun x : ByteArray => x.data.toList) = id := by funext x; rfl
  rw [this, List.map_id]
theorem lists_strs (l : List (List UInt8)) : lists (strs l) = l := by
  unfold strs lists
  rw [List.map_map]
  have : ((fun x : ByteArray => x.data.toList) ∘ fun b : List UInt8 => (⟨b.toArray⟩ : ByteArray)) = id := by funext x; rfl
  rw [this, List.map_id]
theorem lists_len (l : List ByteArray) : (lists l).length = l.length := by unfold lists; rw [List.length_map]
/-- Where each of these records ends. -/
def endsF (ls : List (List UInt8)) (i : Nat) : List Int := (List.range i).map fun j => (((laidF (ls.take (j + 1))).length : Nat) : Int)
theorem endsF_len (ls : List (List UInt8)) (i : Nat) : (endsF ls i).length = i := by simp [endsF]
theorem endsF_succ (ls : List (List UInt8)) (i : Nat) : endsF ls (i + 1) = endsF ls i ++ [(((laidF (ls.take (i + 1))).length : Nat) : Int)] := by
  unfold endsF
  rw [List.range_succ, List.map_append]; rfl
theorem endsF_at (ls : List (List UInt8)) {i j : Nat} (h : j < i) : (endsF ls i)[j]? = some (((laidF (ls.take (j + 1))).length : Nat) : Int) := by
  unfold endsF
  rw [List.getElem?_map, List.getElem?_range h]; rfl
theorem laid_take {ls : List (List UInt8)} {i : Nat} {x : List UInt8} (h : ls[i]? = some x) : laidF (ls.take (i + 1)) = laidF (ls.take i) ++ putF x := by
  have hi := (List.getElem?_eq_some_iff.1 h).1
  rw [List.take_succ_eq_append_getElem hi, laidF_append, laidF_one]
  congr 2
  rw [List.getElem?_eq_getElem hi] at h
  exact Option.some.inj h
theorem laid_mono (ls : List (List UInt8)) (i : Nat) : (laidF (ls.take i)).length ≤ (laidF ls).length := by
  have := laidF_append (ls.take i) (ls.drop i)
  rw [List.take_append_drop] at this
  rw [this, List.length_append]
  omega

theorem laid_count : ∀ (ls : List (List UInt8)), ls.length ≤ (laidF ls).length
  | [] => Nat.le_refl _
  | b :: t => by
    have := laid_count t
    have h := putF_len b
    rw [laidF_cons, List.length_append, List.length_cons]
    omega
set_option maxHeartbeats 2000000 in
set_option maxRecDepth 100000 in
theorem law_laid {va : Value} {a : List ByteArray} {w : World} (ha : AreTexts w va a) (h1 : ∀ x ∈ a, x.size ≤ 65536) (h2 : (laidF (lists a)).length ≤ 1000000) (h3 : a.length ≤ 1000000) :
    Calls Try.prog 23 #[va] w fun e w' => ∃ vE, e = .returned (.tuple #[.string ⟨(laidF (lists a)).toArray⟩, vE]) ∧ OwnI w.heap.size w' vE (endsF (lists a) a.length) ∧ Below w.heap.size w w' := by
  obtain ⟨A, ca, rfl, a1, a2, a3⟩ := ha
  have HA := Hd.mk a3
  have HT := Hd.mk h2
  have H1 := Hd.mk h1
  have H3 := Hd.mk h3
  generalize hn : a.length = n at *
  have HN := Hd.mk hn
  clear a3 hn a1 a2 h1 h2 h3
  go_enter Try.func23, Try.ntmps23
  go_wp2_with fail
  go_loopg [4, 5, 6] n (fun kq v4 v5 v6 wr => ∃ i : Nat, i ≤ n ∧ v4 = .string ⟨(laidF ((lists a).take i)).toArray⟩ ∧ v6 = .int .i64 (i : Int) ∧ Hd (kq + i = n) ∧ Hd (OwnI w.heap.size wr v5 (endsF (lists a) i)) ∧ Hd (Below w.heap.size w wr))
  case atStart => exact ⟨0, by omega, rfl, rfl, ⟨rfl⟩, ⟨OwnI.nil _ _⟩, ⟨Below.refl _ _⟩⟩
  case round =>
    obtain ⟨i, hi, rfl, rfl, HK, HO, HW⟩ := hrel
    obtain ⟨A5, c5, rfl⟩ := HO.out.slice
    by_cases hin : i < n
    · obtain ⟨x, hx⟩ : ∃ x, a[i]? = some x := ⟨_, List.getElem?_eq_getElem (by rw [HN.out]; exact hin)⟩
      obtain ⟨aa, rfl, ca0⟩ := HA.out i x hx
      have c1 : wr.cell? (aa.add i) = some (.string x) := (HW.out.cell (World.block_lt_of_cell? w _ ca0)).trans ca0
      have f1 : (i : Int) < (n : Int) := by omega
      have HIN := Hd.mk hin
      have hw1 : wrap64 ((i : Int) + 1) = ((i + 1 : Nat) : Int) := by have := H3.out; unfold wrap64; omega
      have hx65 : x.size ≤ 65536 := H1.out x (List.mem_of_getElem? hx)
      have HP := frame_Put x (by omega)
      have e : ptV x.data.toList = .tuple #[.string ⟨(putF x.data.toList).toArray⟩, .int .i64 0] := if_pos hx65
      rw [e] at HP
      have HP := Hd.mk HP
      have hlt := laid_take (ls := lists a) (i := i) (x := x.data.toList) (by unfold lists; rw [List.getElem?_map, hx]; rfl)
      have hcat : (⟨(laidF ((lists a).take i)).toArray⟩ : ByteArray) ++ ⟨(putF x.data.toList).toArray⟩ = ⟨(laidF ((lists a).take (i + 1))).toArray⟩ := by rw [mk_append, hlt]
      have hlen : (⟨(laidF ((lists a).take i)).toArray⟩ : ByteArray).size + (⟨(putF x.data.toList).toArray⟩ : ByteArray).size = (laidF ((lists a).take (i + 1))).length := by
        rw [size_of, size_of, hlt, List.length_append]
      have hmono := laid_mono (lists a) (i + 1)
      have hsum : (⟨(laidF ((lists a).take i)).toArray⟩ : ByteArray).size + (⟨(putF x.data.toList).toArray⟩ : ByteArray).size ≤ 9223372036854775807 := by have := HT.out; omega
      have HCAT := Hd.mk (⟨hcat, hlen⟩ : _ ∧ _)
      have HE := Hd.mk (endsF_len (lists a) i)
      have HE2 := Hd.mk (endsF_succ (lists a) i)
      clear hlt hcat hlen hmono e hx65 hx ca0 hin
      generalize (⟨(putF x.data.toList).toArray⟩ : ByteArray) = R at *
      generalize hS : (⟨(laidF ((lists a).take i)).toArray⟩ : ByteArray) = S at *
      clear hS
      have HSZ : Hd (((S.size : Int) + (R.size : Int)) = (((laidF ((lists a).take (i + 1))).length : Nat) : Int)) := ⟨by rw [← HCAT.out.2]; omega⟩
      go_wp2_with fail
      refine (HP.out _).mono ?_; rintro e w1 ⟨rfl, hb1⟩
      have HO1 := Hd.mk (HO.out.below hb1)
      have HW1 := Hd.mk (below_step HW.out hb1)
      clear hb1 HO HW
      go_wp2_with (first | ((with_reducible refine gate_dst (N := 30) rfl ?_); refine wpList_pushI rfl _ _ rfl rfl w.heap.size (.slice A5 (endsF (lists a) i).length c5) (endsF (lists a) i) rfl (OwnI.below HO1.out ((Below.refl _ _).alloc (Nat.le_refl _) (.cells #[.int .i64 ((S.size : Int) + (R.size : Int))] 3))) w1.heap.size ((S.size : Int) + (R.size : Int)) rfl (heap_alloc_new _ _) (by rw [HE.out]; have := HIN.out; have := H3.out; omega) (by have := HW1.out.size; simp; omega) ?_; intro v2 w2 g1 g2; have HO2 := Hd.mk g1; have HW2 := Hd.mk ((OwnI.below HO1.out ((Below.refl _ _).alloc (Nat.le_refl _) (.cells #[.int .i64 ((S.size : Int) + (R.size : Int))] 3))).grown g2 (HW1.out.alloc HW1.out.size _) (by have := HW1.out.size; simp; omega))))
      go_roundg (n - i - 1)
      case measure => have := HK.out; have := HIN.out; omega
      case rel => exact ⟨i + 1, by have := HIN.out; omega, by rw [← HCAT.out.1], by first | rfl | congr 1, ⟨by have := HK.out; have := HIN.out; omega⟩, ⟨by rw [HE2.out, ← HSZ.out]; exact HO2.out⟩, HW2⟩
    · obtain rfl : i = n := by omega
      have f1 : ¬ (i : Int) < (i : Int) := by omega
      have ht : (lists a).take i = lists a := List.take_of_length_le (by rw [lists_len, HN.out]; exact Nat.le_refl _)
      go_wp2_with fail
      go_ret2
      exact ⟨.slice A5 (endsF (lists a) i).length c5, by rw [← ht]; first | rfl | (rw [ht]; rfl), HO.out, HW.out⟩
end Go.Proofs.Ytcekecpbjmfbhaa
