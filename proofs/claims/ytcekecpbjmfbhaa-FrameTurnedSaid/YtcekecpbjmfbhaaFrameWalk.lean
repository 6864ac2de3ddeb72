/- frame: sum, Put, Take; thimbleref06: Put, Take: their contracts. -/
import Derived.Test.YtcekecpbjmfbhaaFramePlain
import Derived.Test.YtcekecpbjmfbhaaPackAll
import Derived.Test.YtcekecpbjmfbhaaRefAll
import Derived.Test.YtcekecpbjmfbhaaHeld
import Derived.Lib.Strings
namespace Go.Proofs.Ytcekecpbjmfbhaa
open Go.RowKit Go.Proofs.YtcekecpbjmfbhaaW.PrintWords Go.Proofs.YtcekecpbjmfbhaaW.PrintLast Go.Proofs.YtcekecpbjmfbhaaW.PrintMore Pk Cr
set_option linter.unusedVariables false
set_option linter.unusedSimpArgs false

/-- Bytes, as cells. -/
def cellsU (l : List UInt8) : Array Value := (l.map fun b => Value.int .u8 (b.toNat : Int)).toArray
theorem cellsU_size (l : List UInt8) : (cellsU l).size = l.length := by simp [cellsU]
theorem cellsU_at {l : List UInt8} {i : Nat} {b : UInt8} (h : l[i]? = some b) : (cellsU l)[i]? = some (.int .u8 (b.toNat : Int)) := by simp [cellsU, h]
theorem cellsU_set (l : List UInt8) (k : Nat) (b : UInt8) : (cellsU l).setIfInBounds k (.int .u8 (b.toNat : Int)) = cellsU (l.set k b) := by
  unfold cellsU
  rw [List.setIfInBounds_toArray, List.map_set]
theorem string_of_cells {W : World} {B cap : Nat} {t : TypeId} {fr : Nat × Nat} {l : List UInt8} (h : W.heap[B]? = some (.cells (cellsU l) t fr)) : (convert 43 9 (.slice (some ⟨B, 0, none⟩) l.length cap)).run Try.prog W = .ok (.string ⟨l.toArray⟩) W := by
  have e : strOfNums (l.map fun b => (b.toNat : Int)) = ⟨l.toArray⟩ := by
    apply ByteArray.ext
    simp [strOfNums, Function.comp_def]
  rw [← e]
  refine run_convert_bytes_arg W 43 5 Try.underlying43 Try.underlying5 B 0 l.length cap _ (by simp) (fun i hi => ?_) 9 Try.underlying9
  rw [Nat.zero_add, cell_of_row W B i _ _ _ h, cellsU_at (List.getElem?_eq_getElem hi)]
  simp [List.getD_eq_getElem?_getD, hi]
theorem wpList_string {ops : Array Oper} {rest : List Oper} {o : Oper} {a : Act} {Q : Exit → Act → World → Prop} {W : World} (hgd : o.guard = none) (x : Operand) (ho : o.op = .convert 43 9 x) (B cap : Nat) (t : TypeId) (fr : Nat × Nat) (l : List UInt8) (hx : a.eval x = .slice (some ⟨B, 0, none⟩) l.length cap)
    (hB : W.heap[B]? = some (.cells (cellsU l) t fr)) (h : wpList Try.prog ops Q rest (a.put o.dst (.string ⟨l.toArray⟩)) W) : wpList Try.prog ops Q (o :: rest) a W := by
  refine wpList_plain hgd fun K hK => ?_
  unfold Oper.wp execOp
  simp only [ho, hx, Sem.run_bind, Sem.run_pure, Result.andThen_ok, string_of_cells hB]
  exact hK _ _ h
def be4up (c i : Nat) : List UInt8 := List.replicate (4 - i) 0 ++ (be4 c).drop (4 - i)
theorem zero_four (w : World) : (zeroValue 96).run Try.prog w = .ok (.agg (cellsU (be4up 0 0))) w := by kernel_rfl
theorem be4_u8 (x : Nat) : ((x : Int) % 256) = ((UInt8.ofNat x).toNat : Int) := by simp
theorem Holds.setc {w wr : World} {q : Nat} {cs : Array Value} {t : TypeId} (h : Holds w [(q, .cells cs t (0, 0))] wr) (k : Nat) (v : Value) (hq : w.heap.size ≤ q) : Holds w [(q, .cells (cs.setIfInBounds k v) t (0, 0))] (wr.setCell ⟨q, k, none⟩ v) := by
  refine ⟨fun p hp => ?_, h.2.setCell (p := ⟨q, k, none⟩) hq v⟩
  obtain rfl := List.mem_singleton.1 hp
  exact heap_setCell_same _ _ _ _ _ _ (h.get 0 rfl)
theorem be4_step {w wr : World} {q c i : Nat} {t : TypeId} (h : Holds w [(q, .cells (cellsU (be4up c i)) t (0, 0))] wr) (hq : w.heap.size ≤ q) (k x : Nat) (hs : (be4up c i).set k (UInt8.ofNat x) = be4up c (i + 1)) :
    Holds w [(q, .cells (cellsU (be4up c (i + 1))) t (0, 0))] (wr.setCell ⟨q, k, none⟩ (.int .u8 ((x : Int) % 256))) := by
  have := h.setc k (.int .u8 ((x : Int) % 256)) hq
  rw [be4_u8 x, cellsU_set, hs] at this
  rw [be4_u8 x]
  exact this

set_option maxHeartbeats 2000000 in
set_option maxRecDepth 100000 in
theorem frame_sum (s : ByteArray) (hs : s.size ≤ 140737488355328) (w : World) :
    Calls Try.prog 39 #[.string s] w fun e w' => e = .returned (.string ⟨(be4 (ofv s.data.toList)).toArray⟩) ∧ Below w.heap.size w w' := by
  have HO := Hd.mk (crc_Of' s hs)
  have hc := ofv_lt s.data.toList
  generalize ofv s.data.toList = c at *
  have hz := zero_four
  have HC := Hd.mk hc
  clear hc hs
  go_enter Try.func39, Try.ntmps39
  go_wp2_with fail
  refine (HO.out _).mono ?_; rintro e w1 ⟨rfl, h1⟩
  clear HO
  go_upto_region 3 with (fail)
  have H2 := Hd.mk ((Holds.nil w).call h1 |>.alloc (.cells (cellsU (be4up 0 0)) 96))
  have hq := Hd.mk h1.size
  clear hz h1
  generalize w1.alloc (.cells (cellsU (be4up 0 0)) 96) = W at *
  generalize w1.heap.size = q at *
  go_wp2_with fail
  go_loopg [8] 4 (fun kq v8 wr => ∃ i : Nat, i ≤ 4 ∧ v8 = .int .i64 (i : Int) ∧ Hd (kq + i = 4) ∧ Hd (Holds w [(q, .cells (cellsU (be4up c i)) 96 (0, 0))] wr))
  case atStart => exact ⟨0, by omega, rfl, ⟨rfl⟩, H2⟩
  case round =>
    clear H2
    obtain ⟨i, hi, rfl, HK, H3⟩ := hrel
    have hi2 : i = 0 ∨ i = 1 ∨ i = 2 ∨ i = 3 ∨ i = 4 := by omega
    rcases hi2 with rfl | rfl | rfl | rfl | rfl
    · have hcc : wr.cell? ⟨q, 3, none⟩ = some (.int .u8 0) := by rw [cell_of_row wr q 3 _ _ _ (H3.out.get 0 rfl)]; rfl
      have hf : wr.frozen? ⟨q, 3, none⟩ = false := frozen_of_row wr _ 3 _ _ (H3.out.get 0 rfl)
      go_wp2_with fail
      go_roundg 3
      case measure => have := HK.out; omega
      case rel => exact ⟨1, by omega, rfl, ⟨by have := HK.out; omega⟩, ⟨be4_step H3.out hq.out 3 c rfl⟩⟩
    · have hcc : wr.cell? ⟨q, 2, none⟩ = some (.int .u8 0) := by rw [cell_of_row wr q 2 _ _ _ (H3.out.get 0 rfl)]; rfl
      have hf : wr.frozen? ⟨q, 2, none⟩ = false := frozen_of_row wr _ 2 _ _ (H3.out.get 0 rfl)
      go_wp2_with fail
      go_roundg 2
      case measure => have := HK.out; omega
      case rel => exact ⟨2, by omega, rfl, ⟨by have := HK.out; omega⟩, ⟨be4_step H3.out hq.out 2 (c / 256) rfl⟩⟩
    · have hcc : wr.cell? ⟨q, 1, none⟩ = some (.int .u8 0) := by rw [cell_of_row wr q 1 _ _ _ (H3.out.get 0 rfl)]; rfl
      have hf : wr.frozen? ⟨q, 1, none⟩ = false := frozen_of_row wr _ 1 _ _ (H3.out.get 0 rfl)
      go_wp2_with fail
      go_roundg 1
      case measure => have := HK.out; omega
      case rel => exact ⟨3, by omega, rfl, ⟨by have := HK.out; omega⟩, ⟨be4_step H3.out hq.out 1 (c / 65536) rfl⟩⟩
    · have hcc : wr.cell? ⟨q, 0, none⟩ = some (.int .u8 0) := by rw [cell_of_row wr q 0 _ _ _ (H3.out.get 0 rfl)]; rfl
      have hf : wr.frozen? ⟨q, 0, none⟩ = false := frozen_of_row wr _ 0 _ _ (H3.out.get 0 rfl)
      go_wp2_with fail
      go_roundg 0
      case measure => have := HK.out; omega
      case rel => exact ⟨4, by omega, rfl, ⟨by have := HK.out; omega⟩, ⟨be4_step H3.out hq.out 0 (c / 16777216) rfl⟩⟩
    · go_wp2_with (first | ((with_reducible refine gate_dst (N := 21) rfl ?_); refine wpList_string rfl _ rfl q 4 _ _ (be4 c) rfl (H3.out.get 0 rfl) ?_))
      go_ret
      exact ⟨rfl, H3.out.2⟩
/-- A record, or that there is none. -/
def ptV (l : List UInt8) : Value := if l.length ≤ 65536 then .tuple #[.string ⟨(putF l).toArray⟩, .int .i64 0] else .tuple #[.string ⟨#[]⟩, .int .i64 11]
theorem headF_str (s : ByteArray) : (strOfNums (num s.size) ++ s).data.toList = headF s.data.toList := by
  rw [num_list]; rfl
theorem headF_len {l : List UInt8} (h : l.length ≤ 140737488351232) : (headF l).length ≤ l.length + 10 := by
  unfold headF
  rw [List.length_append, numB_len]
  have := (num_len10 (n := l.length) (by omega)).2
  omega
theorem putF_str {a b : ByteArray} {l : List UInt8} (h1 : a.data.toList = headF l) (h2 : b = ⟨(be4 (ofv (headF l))).toArray⟩) : a ++ b = ⟨(putF l).toArray⟩ := by
  refine bytes_eq ?_
  rw [append_list, h1, h2]
  rfl
set_option maxHeartbeats 1000000 in
set_option maxRecDepth 100000 in
theorem frame_Put (s : ByteArray) (hs : s.size ≤ 140737488351232) (w : World) :
    Calls Try.prog 15 #[.string s] w fun e w' => e = .returned (ptV s.data.toList) ∧ Below w.heap.size w w' := by
  have hl : s.data.toList.length = s.size := rfl
  by_cases h : s.size ≤ 65536
  · have e : ptV s.data.toList = .tuple #[.string ⟨(putF s.data.toList).toArray⟩, .int .i64 0] := if_pos (by omega)
    rw [e]
    have HT := Hd.mk (pack_Text s (by omega))
    have h1 := headF_str s
    have h2 : (strOfNums (num s.size) ++ s).size = (headF s.data.toList).length := by rw [← h1]; rfl
    have h3 := headF_len (l := s.data.toList) (by omega)
    have HS := Hd.mk (frame_sum (strOfNums (num s.size) ++ s) (by omega))
    rw [h1] at HS
    have h4 : (⟨(be4 (ofv (headF s.data.toList))).toArray⟩ : ByteArray).size = 4 := rfl
    have HP := Hd.mk (putF_str h1 (rfl : (⟨(be4 (ofv (headF s.data.toList))).toArray⟩ : ByteArray) = _))
    have g1 : ¬ (65536 : Int) < (s.size : Int) := by omega
    have g2 : (strOfNums (num s.size) ++ s).size + (⟨(be4 (ofv (headF s.data.toList))).toArray⟩ : ByteArray).size ≤ 9223372036854775807 := by omega
    have g3 : ¬ 65536 < s.size := by omega
    clear h1 h2 h3 h4 e hl h
    generalize strOfNums (num s.size) ++ s = q at *
    generalize (⟨(be4 (ofv (headF s.data.toList))).toArray⟩ : ByteArray) = q2 at *
    go_enter Try.func15, Try.ntmps15
    go_wp2_with fail
    refine (HT.out _).mono ?_; rintro e w1 ⟨rfl, hb1⟩
    go_wp2_with fail
    refine (HS.out _).mono ?_; rintro e w2 ⟨rfl, hb2⟩
    go_wp2_with fail
    go_ret2
    exact ⟨by rw [← HP.out]; rfl, below_step hb1 hb2⟩
  · have e : ptV s.data.toList = .tuple #[.string ⟨#[]⟩, .int .i64 11] := if_neg (by omega)
    rw [e]
    have g1 : (65536 : Int) < (s.size : Int) := by omega
    have g3 : 65536 < s.size := by omega
    clear e hl h
    go_enter Try.func15, Try.ntmps15
    go_wp2_with fail
    go_ret2
    exact ⟨rfl, Below.refl _ _⟩
theorem four_cells (c : Nat) (hc : c < 4294967296) : (#[.int .u8 ((c : Int) / 16777216 % 256), .int .u8 ((c : Int) / 65536 % 256), .int .u8 ((c : Int) / 256 % 256), .int .u8 ((c : Int) % 256)] : Array Value) = cellsU (be4 c) := by
  have h0 : (c : Int) / 16777216 % 256 = ((UInt8.ofNat (c / 16777216)).toNat : Int) := by rw [← be4_u8]; omega
  have h1 : (c : Int) / 65536 % 256 = ((UInt8.ofNat (c / 65536)).toNat : Int) := by rw [← be4_u8]; omega
  have h2 : (c : Int) / 256 % 256 = ((UInt8.ofNat (c / 256)).toNat : Int) := by rw [← be4_u8]; omega
  rw [h0, h1, h2, be4_u8 c]; rfl
set_option maxHeartbeats 1000000 in
set_option maxRecDepth 100000 in
theorem ref_FPut (s : ByteArray) (hs : s.size ≤ 140737488351232) (w : World) :
    Calls Try.prog 16 #[.string s] w fun e w' => e = .returned (ptV s.data.toList) ∧ Below w.heap.size w w' := by
  have hl : s.data.toList.length = s.size := rfl
  by_cases h : s.size ≤ 65536
  · have e : ptV s.data.toList = .tuple #[.string ⟨(putF s.data.toList).toArray⟩, .int .i64 0] := if_pos (by omega)
    rw [e]
    have HT := Hd.mk (ref_Text s (by omega))
    have h1 := headF_str s
    have h2 : (strOfNums (num s.size) ++ s).size = (headF s.data.toList).length := by rw [← h1]; rfl
    have h3 := headF_len (l := s.data.toList) (by omega)
    have HS := Hd.mk (ref_Of (strOfNums (num s.size) ++ s) (by omega))
    have HO : Hd (ofv (strOfNums (num s.size) ++ s).data.toList = ofv (headF s.data.toList)) := ⟨by rw [h1]⟩
    have h4 : (⟨(be4 (ofv (headF s.data.toList))).toArray⟩ : ByteArray).size = 4 := rfl
    have HP := Hd.mk (putF_str h1 (rfl : (⟨(be4 (ofv (headF s.data.toList))).toArray⟩ : ByteArray) = _))
    have g1 : ¬ (65536 : Int) < (s.size : Int) := by omega
    have g2 : (strOfNums (num s.size) ++ s).size + (⟨(be4 (ofv (headF s.data.toList))).toArray⟩ : ByteArray).size ≤ 9223372036854775807 := by omega
    have g3 : ¬ 65536 < s.size := by omega
    clear h1 h2 h3 h4 e hl h
    have HC := Hd.mk (four_cells (ofv (headF s.data.toList)) (ofv_lt _))
    rw [HO.out] at HS
    clear HO
    obtain ⟨q2, hq2⟩ : ∃ q2 : ByteArray, q2 = ⟨(be4 (ofv (headF s.data.toList))).toArray⟩ := ⟨_, rfl⟩
    rw [← hq2] at g2 HP
    have HQ2 := Hd.mk hq2
    clear hq2
    generalize ofv (headF s.data.toList) = c at *
    generalize strOfNums (num s.size) ++ s = q at *
    go_enter Try.func16, Try.ntmps16
    go_wp2_with fail
    refine (HT.out _).mono ?_; rintro e w1 ⟨rfl, hb1⟩
    have hb2 : Hd (∀ w2, Below w1.heap.size w1 w2 → Below w.heap.size w w2) := ⟨fun w2 h => below_step hb1 h⟩
    clear hb1
    go_wp2_with fail
    refine (HS.out _).mono ?_; rintro e w2 ⟨rfl, hb3⟩
    have HB := Hd.mk (Holds.call (Holds.nil w) (hb2.out _ hb3))
    clear hb2 hb3
    go_wp2_with (first | ((with_reducible refine gate_dst (N := 29) rfl ?_); refine wpList_string rfl _ rfl w2.heap.size 4 5 (0, 0) (be4 c) rfl (by rw [← HC.out]; refine (heap_alloc_new _ _).trans ?_; first | rfl | (simp; done) | go_simp) ?_; rw [← HQ2.out]))
    go_ret2
    exact ⟨by rw [← HP.out]; rfl, (HB.out.alloc _).2⟩
  · have e : ptV s.data.toList = .tuple #[.string ⟨#[]⟩, .int .i64 11] := if_neg (by omega)
    rw [e]
    have g1 : (65536 : Int) < (s.size : Int) := by omega
    have g3 : 65536 < s.size := by omega
    clear e hl h
    go_enter Try.func16, Try.ntmps16
    go_wp2_with fail
    go_ret2
    exact ⟨rfl, Below.refl _ _⟩
theorem take_str {s : ByteArray} {a b : List UInt8} (h : s.data.toList = a ++ b) : s.extract 0 (s.size - b.length) = ⟨a.toArray⟩ := by
  have hl : s.size = a.length + b.length := by
    have : s.data.toList.length = s.size := rfl
    rw [← this, h, List.length_append]
  rw [take_bytes, h, hl, Nat.add_sub_cancel, List.take_left]
set_option maxHeartbeats 1000000 in
set_option maxRecDepth 100000 in
theorem frame_Take (s : ByteArray) (hs : s.size ≤ 140737488351232) (w : World) :
    Calls Try.prog 17 #[.string s] w fun e w' => e = .returned (txV (tkF s.data.toList)) ∧ Below w.heap.size w w' := by
  have H := pack_TakeText s (by omega) 65536 (by decide) (by decide)
  cases hT : tx 65536 (tk s.data.toList 0 0) with
  | none =>
    have e : tkF s.data.toList = none := by unfold tkF; rw [hT]
    rw [e]
    rw [hT] at H
    simp only [txV] at H ⊢
    have H' := Hd.mk H
    clear H hT e
    go_enter Try.func17, Try.ntmps17
    go_wp2_with fail
    refine (H'.out _).mono ?_; rintro e w1 ⟨rfl, hb⟩
    go_wp2_with fail
    go_ret3
    exact ⟨rfl, hb⟩
  | some p =>
    obtain ⟨b, r⟩ := p
    obtain ⟨hb, hl⟩ := tx_very hT
    have e0 : tkF s.data.toList = if r.length < 4 then none else if be4 (ofv (headF b)) = r.take 4 then some (b, r.drop 4) else none := by
      unfold tkF
      rw [hT]
      simp only
      have : s.data.toList.take (s.data.toList.length - r.length) = headF b := by rw [hl, List.length_append, Nat.add_sub_cancel, List.take_left]
      rw [this]
    rw [hT] at H
    simp only [txV] at H
    have H' := Hd.mk H
    have hn : (⟨r.toArray⟩ : ByteArray).size = r.length := size_of r
    have hsz : s.size = (headF b).length + r.length := by
      have : s.data.toList.length = s.size := rfl
      rw [← this, hl, List.length_append]
    obtain ⟨q, hq⟩ : ∃ q : ByteArray, q = ⟨r.toArray⟩ := ⟨_, rfl⟩
    have HQ := Hd.mk hq
    have hql : q.data.toList = r := by rw [hq]
    rw [← hq] at hn H'
    clear H
    by_cases h4 : r.length < 4
    · rw [e0, if_pos h4]
      have g1 : (q.size : Int) < 4 := by omega
      have g2 : q.size < 4 := by omega
      clear e0 hT hl hsz hq HQ hql hn h4
      simp only [txV]
      go_enter Try.func17, Try.ntmps17
      go_wp2_with fail
      refine (H'.out _).mono ?_; rintro e w1 ⟨rfl, hb⟩
      go_wp2_with fail
      go_ret3
      exact ⟨rfl, hb⟩
    · rw [if_neg h4] at e0
      have ht := take_str hl
      have hh : s.size - r.length = (headF b).length := by omega
      rw [hh] at ht
      have HS : Hd (∀ w, Calls Try.prog 39 #[.string (s.extract 0 (headF b).length)] w fun e w' => e = .returned (.string ⟨(be4 (ofv (headF b))).toArray⟩) ∧ Below w.heap.size w w') := ⟨by
        have := frame_sum (s.extract 0 (headF b).length) (by rw [ht, size_of]; omega)
        rw [ht] at this ⊢
        exact this⟩
      have hw : wrap64 ((s.size : Int) - (q.size : Int)) = (((headF b).length : Nat) : Int) := by unfold wrap64; omega
      have g0 : ¬ (q.size : Int) < 4 := by omega
      have g2 : ¬ q.size < 4 := by omega
      have g3 : (headF b).length ≤ s.size := by omega
      have g4 : 4 ≤ q.size := by omega
      have E4 : q.extract 0 4 = ⟨(r.take 4).toArray⟩ := by rw [take_bytes, hql]
      have D4 : Hd (q.extract 4 q.size = ⟨(r.drop 4).toArray⟩) := ⟨by rw [drop_bytes, hql]⟩
      have hiff : (⟨(be4 (ofv (headF b))).toArray⟩ : ByteArray) = q.extract 0 4 ↔ be4 (ofv (headF b)) = r.take 4 := by
        rw [E4]
        constructor
        · intro h
          have := congrArg (fun x : ByteArray => x.data.toList) h
          simpa using this
        · intro h; rw [h]
      rw [e0]
      clear e0 hT hl hsz hq HQ hql hn h4 hh ht E4
      generalize (⟨(be4 (ofv (headF b))).toArray⟩ : ByteArray) = S4 at *
      generalize (headF b).length = m at *
      by_cases he : S4 = q.extract 0 4
      · rw [if_pos (hiff.1 he)]
        have hTL : S4.toList = (q.extract 0 4).toList := by rw [he]
        have hx3 : (S4.toList != (q.extract 0 4).toList) = false := by rw [hTL]; simp
        simp only [txV]
        clear hiff he
        go_enter Try.func17, Try.ntmps17
        go_wp2_with fail
        refine (H'.out _).mono ?_; rintro e w1 ⟨rfl, hb⟩
        go_upto_region 5 with (fail)
        refine start_ (n := 5) (S := fun W_ => Below w.heap.size w W_) (ds := []) #[false, false, false, false, false] (by kernel_rfl) rfl rfl (hb.drew) (fun hHeld => ?_)
        refine pure_ (i := 0) (N := some 29) (v := ?_) (a' := ?_) #[true, false, false, false, false] rfl rfl (by kernel_rfl) (fun _ _ _ h => h) (Or.inl ⟨by rfl, ?_⟩) ?_ ?_
        rotate_left
        · intro w_
          go_simp
          try with_reducible rfl
        rotate_left
        · simp only [Act.put, List.setIfInBounds_toArray, List.set_cons_zero, List.set_cons_succ]
          rfl
        refine pure_ (i := 2) (N := some 31) (v := ?_) (a' := ?_) #[true, false, true, false, false] rfl rfl (by kernel_rfl) (fun _ _ _ h => h) (Or.inl ⟨by rfl, ?_⟩) ?_ ?_
        rotate_left
        · intro w_
          go_simp
          try with_reducible rfl
        rotate_left
        · simp only [Act.put, List.setIfInBounds_toArray, List.set_cons_zero, List.set_cons_succ]
          rfl
        refine take_ (i := 3) (N := some 32) (v := .string (q.extract 0 4)) (a' := ?_) #[true, false, true, true, false] rfl rfl (by kernel_rfl) (fun _ _ _ h => h) (Or.inl ⟨by rfl, fun w' h => by go_simp⟩) hHeld ?_ ?_
        rotate_left
        · simp only [Act.put, List.setIfInBounds_toArray, List.set_cons_zero, List.set_cons_succ]
          rfl
        refine one_ (i := 1) (N := some 30) #[true, true, true, true, false] rfl rfl (by kernel_rfl) (by decide) (fun K hK => ?_)
        refine goes_ Try.func39 (by kernel_rfl) rfl #[.string (s.extract 0 m)] (by rfl) rfl rfl (by (try simp only [List.map_toArray, List.map_cons, List.map_nil]); first | done | rfl) ?_
        (with_reducible refine (HS.out _).mono ?_)
        rintro e wr1 ⟨rfl, hr1⟩
        refine ⟨_, rfl, ?_⟩
        refine hK.out _ _ (below_step hHeld hr1) (fun hHeld => ?_)
        clear hK K
        refine norm_ (a' := ?_) ?_ ?_
        rotate_left
        · show Act.put _ (some 30) _ = _
          simp only [Act.put, List.setIfInBounds_toArray, List.set_cons_zero, List.set_cons_succ]
          rfl
        refine take_ (i := 4) (N := some 33) (v := .bool false) (a' := ?_) #[true, true, true, true, true] rfl rfl (by kernel_rfl) (fun _ _ _ h => h) (Or.inl ⟨by rfl, fun w' h => by go_simp⟩) hHeld ?_ ?_
        rotate_left
        · simp only [Act.put, List.setIfInBounds_toArray, List.set_cons_zero, List.set_cons_succ]
          rfl
        refine done_ (by kernel_rfl) ?_
        go_wp2_with fail
        go_quiet (fail)
        all_goals
          go_wp2_with fail
          go_ret3
          exact ⟨by rw [← D4.out]; rfl, hHeld.trans ((below_drewN _ _).mono hHeld.size)⟩
      · rw [if_neg (fun h => he (hiff.2 h))]
        have hTL : ¬ S4.toList = (q.extract 0 4).toList := fun e => he (by
          rw [Lib.toList_data, Lib.toList_data] at e
          exact ByteArray.ext (Array.toList_inj.1 e))
        have hx3 : (S4.toList != (q.extract 0 4).toList) = true := by simpa using hTL
        simp only [txV]
        clear hiff he
        go_enter Try.func17, Try.ntmps17
        go_wp2_with fail
        refine (H'.out _).mono ?_; rintro e w1 ⟨rfl, hb⟩
        go_upto_region 5 with (fail)
        refine start_ (n := 5) (S := fun W_ => Below w.heap.size w W_) (ds := []) #[false, false, false, false, false] (by kernel_rfl) rfl rfl (hb.drew) (fun hHeld => ?_)
        refine pure_ (i := 0) (N := some 29) (v := ?_) (a' := ?_) #[true, false, false, false, false] rfl rfl (by kernel_rfl) (fun _ _ _ h => h) (Or.inl ⟨by rfl, ?_⟩) ?_ ?_
        rotate_left
        · intro w_
          go_simp
          try with_reducible rfl
        rotate_left
        · simp only [Act.put, List.setIfInBounds_toArray, List.set_cons_zero, List.set_cons_succ]
          rfl
        refine pure_ (i := 2) (N := some 31) (v := ?_) (a' := ?_) #[true, false, true, false, false] rfl rfl (by kernel_rfl) (fun _ _ _ h => h) (Or.inl ⟨by rfl, ?_⟩) ?_ ?_
        rotate_left
        · intro w_
          go_simp
          try with_reducible rfl
        rotate_left
        · simp only [Act.put, List.setIfInBounds_toArray, List.set_cons_zero, List.set_cons_succ]
          rfl
        refine take_ (i := 3) (N := some 32) (v := .string (q.extract 0 4)) (a' := ?_) #[true, false, true, true, false] rfl rfl (by kernel_rfl) (fun _ _ _ h => h) (Or.inl ⟨by rfl, fun w' h => by go_simp⟩) hHeld ?_ ?_
        rotate_left
        · simp only [Act.put, List.setIfInBounds_toArray, List.set_cons_zero, List.set_cons_succ]
          rfl
        refine one_ (i := 1) (N := some 30) #[true, true, true, true, false] rfl rfl (by kernel_rfl) (by decide) (fun K hK => ?_)
        refine goes_ Try.func39 (by kernel_rfl) rfl #[.string (s.extract 0 m)] (by rfl) rfl rfl (by (try simp only [List.map_toArray, List.map_cons, List.map_nil]); first | done | rfl) ?_
        (with_reducible refine (HS.out _).mono ?_)
        rintro e wr2 ⟨rfl, hr2⟩
        refine ⟨_, rfl, ?_⟩
        refine hK.out _ _ (below_step hHeld hr2) (fun hHeld => ?_)
        clear hK K
        refine norm_ (a' := ?_) ?_ ?_
        rotate_left
        · show Act.put _ (some 30) _ = _
          simp only [Act.put, List.setIfInBounds_toArray, List.set_cons_zero, List.set_cons_succ]
          rfl
        refine take_ (i := 4) (N := some 33) (v := .bool true) (a' := ?_) #[true, true, true, true, true] rfl rfl (by kernel_rfl) (fun _ _ _ h => h) (Or.inl ⟨by rfl, fun w' h => by go_simp⟩) hHeld ?_ ?_
        rotate_left
        · simp only [Act.put, List.setIfInBounds_toArray, List.set_cons_zero, List.set_cons_succ]
          rfl
        refine done_ (by kernel_rfl) ?_
        go_wp2_with fail
        go_ret3
        exact ⟨rfl, hHeld⟩
end Go.Proofs.Ytcekecpbjmfbhaa
