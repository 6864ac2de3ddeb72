/- thimbleref06.All: its contract; texts that are appended. -/
import Derived.Test.YtcekecpbjmfbhaaFrameWalk2
namespace Go.Proofs.Ytcekecpbjmfbhaa
open Go.RowKit Go.Proofs.YtcekecpbjmfbhaaW.PrintWords Go.Proofs.YtcekecpbjmfbhaaW.PrintLast Go.Proofs.YtcekecpbjmfbhaaW.PrintMore Pk Cr
set_option linter.unusedVariables false
set_option linter.unusedSimpArgs false

/-- Bytes as texts. -/
def strs (l : List (List UInt8)) : List ByteArray := l.map fun b => ⟨b.toArray⟩
theorem strs_app (a b : List (List UInt8)) : strs (a ++ b) = strs a ++ strs b := by unfold strs; rw [List.map_append]
theorem strs_len (a : List (List UInt8)) : (strs a).length = a.length := by unfold strs; rw [List.length_map]
theorem strs_inj {a b : List (List UInt8)} (h : strs a = strs b) : a = b := by
  unfold strs at h
  have := congrArg (List.map fun x : ByteArray => x.data.toList) h
  simpa [List.map_map, Function.comp_def] using this
def valsT (l : List ByteArray) : List Value := l.map Value.string
theorem valsT_len (l : List ByteArray) : (valsT l).length = l.length := by unfold valsT; rw [List.length_map]
/-- A slice of texts of one's own. -/
def OwnT (base : Nat) (w : World) (v : Value) (l : List ByteArray) : Prop := w.ownsRow base 9 1 v l.length (valsT l)
theorem OwnT.texts {base : Nat} {w : World} {v : Value} {l : List ByteArray} (h : OwnT base w v l) : AreTexts w v l := by
  have h0 := h
  obtain ⟨hl, ⟨rfl, hn⟩ | ⟨g, cap, cur, rfl, hb, hg, h1, h2, h3, h4⟩⟩ := h
  · obtain rfl := List.eq_nil_of_length_eq_zero hn
    exact AreTexts.nil w
  · refine ⟨_, cap, rfl, h1, h2, fun j x hx => ⟨⟨g, 0, none⟩, rfl, ?_⟩⟩
    exact World.ownsRow.cells h0 rfl j (.string x) (by unfold valsT; rw [List.getElem?_map, hx]; rfl)
theorem OwnT.below {base : Nat} {w w' : World} {v : Value} {l : List ByteArray} (h : OwnT base w v l) (hb : Below w.heap.size w w') : OwnT base w' v l := by
  obtain ⟨hl, ⟨rfl, hn⟩ | ⟨g, cap, cur, rfl, h0, hg, h1, h2, h3, h4⟩⟩ := h
  · exact ⟨hl, .inl ⟨rfl, hn⟩⟩
  · exact ⟨hl, .inr ⟨g, cap, cur, rfl, h0, (hb.block _ (Array.getElem?_eq_some_iff.1 hg).1).trans hg, h1, h2, h3, h4⟩⟩
theorem OwnT.slice {base : Nat} {w : World} {v : Value} {l : List ByteArray} (h : OwnT base w v l) : ∃ A cap, v = .slice A l.length cap := by
  obtain ⟨A, cap, rfl, -⟩ := h.texts
  exact ⟨A, cap, rfl⟩
theorem OwnT.nil (base : Nat) (w : World) : OwnT base w (.slice none 0 0) [] := World.ownsRow_nil w base _ 1
theorem info_str : (Try.prog.info? 9).map (fun i => (i.zero, i.size, i.bytes)) = some (some (.string ⟨#[]⟩), 1, 16) := by kernel_rfl
theorem OwnT.grown {base : Nat} {w w' a : World} {v : Value} {l : List ByteArray} (h : OwnT base w v l) (hg : w.grownBy w' v.ownBlock) (hb : Below base a w) (hs : base ≤ w.heap.size) : Below base a w' :=
  hb.grown hg hs (fun k e => (World.ownsRow.lt h k e).1)
/-- One text more. -/
theorem run_push {w : World} {base : Nat} {v : Value} {l : List ByteArray} (hown : OwnT base w v l) (g : Nat) (b : ByteArray) (hg : w.heap[g]? = some (.cells #[.string b] 9 (0, 0))) (hn : l.length ≤ 1000000000000) (hbase : base ≤ w.heap.size) :
    ∃ v' w', (Builtin.append_ #[32, 32] 32 #[v, .slice (some ⟨g, 0, none⟩) 1 1]).run Try.prog w = .ok v' w' ∧ OwnT base w' v' (l ++ [b]) ∧ w.grownBy w' v.ownBlock := by
  obtain ⟨i, hi, e⟩ := Option.map_eq_some_iff.1 info_str
  simp only [Prod.mk.injEq] at e
  obtain ⟨e1, e2, e3⟩ := e
  obtain ⟨v', w', h1, h2, h3, -⟩ := run_append_own (P := Try.prog) w base 32 32 9 i (.string ⟨#[]⟩) 1 16 Try.underlying32 hi e1 e2 e3 rfl (by omega) v l.length (valsT l) hown ⟨g, 0, none⟩ 1 1 [.string b] rfl
    (fun j u hj => by
      match j, hj with
      | 0, hj =>
        have : u = .string b := by simpa using hj.symm
        subst this
        rw [Addr.add_lit, cell_of_row w g 0 _ _ _ hg]; rfl) (by simp [Value.oneCell']) (by unfold maxLen; omega) (by omega) hbase
  refine ⟨v', w', h1, ?_, h3⟩
  unfold OwnT
  have : valsT (l ++ [b]) = valsT l ++ [.string b] := by simp [valsT]
  rw [this, List.length_append]
  exact h2
theorem wpList_push {ops : Array Oper} {rest : List Oper} {o : Oper} {a : Act} {Q : Exit → Act → World → Prop} {w : World} (hgd : o.guard = none) (sl x : Operand)
    (ho : o.op = .call { callee := .builtin .append, args := #[sl, x], argTypes := #[32, 32] }) (hty : o.type = 32) (base : Nat) (v : Value) (l : List ByteArray) (hs : a.eval sl = v) (hown : OwnT base w v l) (g : Nat) (b : ByteArray) (hx : a.eval x = .slice (some ⟨g, 0, none⟩) 1 1)
    (hg : w.heap[g]? = some (.cells #[.string b] 9 (0, 0))) (hn : l.length ≤ 1000000000000) (hbase : base ≤ w.heap.size)
    (h : ∀ v' w', OwnT base w' v' (l ++ [b]) → w.grownBy w' v.ownBlock → wpList Try.prog ops Q rest (a.put o.dst v') w') : wpList Try.prog ops Q (o :: rest) a w := by
  refine wpList_plain hgd fun K hK => ?_
  obtain ⟨v', w', hr, h2, h3⟩ := run_push hown g b hg hn hbase
  unfold Oper.wp execOp
  simp only [ho, hty, resolve, invoke, builtin, Sem.run_bind, Sem.run_pure, Result.andThen_ok, List.map_toArray, List.map_cons, List.map_nil, hs, hx, hr]
  exact hK _ _ (h v' w' h2 h3)

set_option maxHeartbeats 2000000 in
set_option maxRecDepth 100000 in
theorem ref_FAll (s : ByteArray) (hs : s.size ≤ 1000000) (w : World) :
    Calls Try.prog 20 #[.string s] w fun e w' => ∃ v, e = .returned (.tuple #[v, .int .i64 ((s.size - (allF s.data.toList).2.length : Nat) : Int)]) ∧ OwnT w.heap.size w' v (strs (allF s.data.toList).1) ∧ Below w.heap.size w w' := by
  go_enter Try.func20, Try.ntmps20
  go_wp2_with fail
  go_loopg [4, 5] s.size (fun kq v4 v5 wr => ∃ (pre : List (List UInt8)) (r : ByteArray), v5 = .string r ∧ Hd (kq = r.size) ∧ Hd (OwnT w.heap.size wr v4 (strs pre)) ∧ Hd (Below w.heap.size w wr) ∧ Hd (allF s.data.toList = (pre ++ (allF r.data.toList).1, (allF r.data.toList).2)) ∧ Hd (pre.length + r.size ≤ s.size))
  case atStart => exact ⟨[], s, rfl, ⟨rfl⟩, ⟨OwnT.nil _ _⟩, ⟨Below.refl _ _⟩, ⟨by simp⟩, ⟨by simp⟩⟩
  case round =>
    obtain ⟨pre, r, rfl, HK, HO, HW, HA, HL⟩ := hrel
    obtain ⟨A4, c4, rfl⟩ := HO.out.slice
    have HT := ref_FTake r (by have := HL.out; omega)
    have hrl : r.data.toList.length = r.size := rfl
    cases h : tkF r.data.toList with
    | none =>
      rw [h] at HT
      simp only [txV] at HT
      have HT := Hd.mk HT
      have ha := HA.out
      rw [allF_none h, List.append_nil] at ha
      have HA1 : Hd (pre = (allF s.data.toList).1 ∧ r.size = (allF s.data.toList).2.length) := ⟨by rw [ha]; exact ⟨rfl, hrl.symm⟩⟩
      have hw : wrap64 ((s.size : Int) - (r.size : Int)) = ((s.size - (allF s.data.toList).2.length : Nat) : Int) := by rw [← HA1.out.2]; have := HL.out; unfold wrap64; omega
      clear h ha HA hrl
      go_wp2_with fail
      refine (HT.out _).mono ?_; rintro e w1 ⟨rfl, h1⟩
      have HO1 := HO.out.below h1
      have HW1 := below_step HW.out h1
      clear h1
      go_wp2_with fail
      go_ret2
      refine ⟨.slice A4 (strs pre).length c4, by rw [← hw]; rfl, ?_, HW1⟩
      rw [← HA1.out.1]
      exact HO1
    | some p =>
      obtain ⟨b, q⟩ := p
      have hq := tkF_len h
      rw [h] at HT
      simp only [txV] at HT
      have HT := Hd.mk HT
      have HA2 : Hd (allF s.data.toList = ((pre ++ [b]) ++ (allF q).1, (allF q).2)) := ⟨by rw [HA.out, allF_some h, List.append_assoc]; rfl⟩
      have HL2 : Hd (pre.length + 1 + q.length ≤ s.size ∧ q.length < r.size) := ⟨by have := HL.out; omega⟩
      have HSZ := Hd.mk (size_of q)
      clear h hq hrl
      go_wp2_with fail
      refine (HT.out _).mono ?_; rintro e w1 ⟨rfl, h1⟩
      have HO1 := Hd.mk (HO.out.below h1)
      have HW1 := Hd.mk (below_step HW.out h1)
      clear h1 HO HW
      go_wp2_with (first | ((with_reducible refine gate_dst (N := 27) rfl ?_); refine wpList_push rfl _ _ rfl rfl w.heap.size (.slice A4 (strs pre).length c4) (strs pre) rfl (OwnT.below HO1.out ((Below.refl _ _).alloc (Nat.le_refl _) (.cells #[.string ⟨b.toArray⟩] 9))) w1.heap.size ⟨b.toArray⟩ rfl (heap_alloc_new _ _) (by rw [strs_len]; have := HL2.out; omega) (by have := HW1.out.size; simp; omega) ?_; intro v2 w2 g1 g2; have HO2 := Hd.mk g1; have HW2 := Hd.mk ((OwnT.below HO1.out ((Below.refl _ _).alloc (Nat.le_refl _) (.cells #[.string ⟨b.toArray⟩] 9))).grown g2 (HW1.out.alloc HW1.out.size _) (by have := HW1.out.size; simp; omega))))
      go_roundg q.length
      case measure => have := HK.out; have := HL2.out; omega
      case rel => exact ⟨pre ++ [b], ⟨q.toArray⟩, rfl, ⟨HSZ.out.symm⟩, ⟨by rw [strs_app]; exact HO2.out⟩, HW2, HA2, ⟨by rw [HSZ.out, List.length_append]; have := HL2.out; simp; omega⟩⟩
end Go.Proofs.Ytcekecpbjmfbhaa
