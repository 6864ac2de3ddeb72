/- Next: the first message that is ready: its contract. -/
import Derived.Test.YtcgkkjfbdappoaaGreatCauOffer
import Derived.Test.YtcgkkjfbdappoaaGreatCauDelete
import Derived.Test.YtcgkkjfbdappoaaGreatCauDown
import Derived.Test.YtcgkkjfbdappoaaGreatVecBll
namespace Go.Proofs.YtcgkkjfbdappoaaGreat
open Go.RowKit Go.Proofs.YtcgkkjfbdappoaaGreatW.PrintWords Go.Proofs.YtcgkkjfbdappoaaGreatW.PrintLast Go.Proofs.YtcgkkjfbdappoaaGreatW.PrintMore
set_option linter.unusedVariables false
set_option linter.unusedSimpArgs false

/-- Whether a message can be seen next. -/
def rdyB (s : List Int) (m : MsgV) : Bool := readyV s m.r m.q m.deps
theorem ready_c (s : List Int) (hs : s.length = 8) (m : MsgV) (hq : m.q ≤ 9223372036854775807) (w : World) : Calls Tryz.prog 28 #[.agg (vec s), .int .i64 m.r, .int .i64 m.q, .agg (vec m.deps)] w fun e w' => e = .returned (.bool (rdyB s m)) ∧ Below w.heap.size w w' :=
  vec_Ready s m.deps m.r m.q hq hs rfl w
theorem msg_deps (m : MsgV) : ∀ (j : Nat) v, (vec m.deps).toList[j]? = some v → (msgC m)[1 + j]? = some v := fun j v hj =>
  eight_at (cs := msgC m) (o := 1) rfl rfl rfl rfl rfl rfl rfl rfl j v hj
theorem rdy_of_slice0 {b r : Nat} {w : World} {g : Nat} (hr : w.heap[r]? = some (.cells #[.slice (some ⟨g, 0, none⟩) 0 0] 70 (0, 0))) (hg : w.heap[g]? = some (.cells #[] 38 (0, 0))) (hbr : b ≤ r) (hbg : b ≤ g) (hne : g ≠ r) : Rdy b w r [] := by
  refine ⟨_, hr, hbr, Elt.own_of (E := rdyE) (l := []) rfl hbg (Nat.le_refl _) (Nat.zero_le _) hg rfl rfl, fun e => hne ?_⟩
  simpa [Value.ownBlock] using e
/-- Between taking the message and the end. -/
structure Mid (S : Nat → Prop) (w : World) (p bm : Nat) (u : List Int) (v : Value) (l : List MsgV) (m : MsgV) (W : World) : Prop where
  buf : W.heap[p]? = some (.cells (bufC u v) 65 (0, 0))
  msg : W.heap[bm]? = some (.cells (msgC m) 38 (0, 0))
  res : W.heap[w.heap.size]? = some (.cells (msgC MsgV.zero) 38 (0, 0))
  own : msgE.Own 0 W v l
  keep : KeepOn S w W
theorem bufC_there {w : World} {p : Nat} {s : List Int} {v : Value} (hs : s.length = 8) (h : w.heap[p]? = some (.cells (bufC s v) 65 (0, 0))) (u : List Int) (hu : u.length = 8) : w.there p 0 (vec u).size := by
  intro j hj
  rw [vec_size, hu] at hj
  refine ⟨?_, frozen_of_row w p _ _ _ h⟩
  rw [cell_of_row w p _ _ _ _ h, Array.getElem?_eq_getElem (by rw [bufC_size s v hs]; omega)]
  rfl
theorem bufC_seen {w : World} {p : Nat} {s : List Int} {v : Value} (hs : s.length = 8) (h : w.heap[p]? = some (.cells (bufC s v) 65 (0, 0))) (u : List Int) (hu : u.length = 8) :
    (w.setCells p 0 (vec u).toList).heap[p]? = some (.cells (bufC u v) 65 (0, 0)) := by
  have hl : (vec u).toList.length = 8 := by rw [Array.length_toList, vec_size, hu]
  obtain ⟨cur, h1, h2, h3⟩ := setCells_row (vec u).toList 0 w _ h (by rw [bufC_size s v hs]; omega)
  rw [h1]
  congr 2
  apply Array.ext'
  rw [h3, hl]
  have hls : (vec s).toList.length = 8 := by rw [Array.length_toList, vec_size, hs]
  unfold bufC
  rw [Array.toList_append, Array.toList_append, List.take_zero, List.nil_append, Nat.zero_add, List.drop_append_of_le_length (by omega), List.drop_eq_nil_of_le (by omega), List.nil_append]
/-- At the head of Next's loop, k messages having been looked at. -/
def NxI (w : World) (s : List Int) (l : List MsgV) (k : Nat) (W : World) : Prop :=
  Below w.heap.size w W ∧ W.heap[w.heap.size]? = some (.cells (msgC MsgV.zero) 38 (0, 0)) ∧ w.heap.size + 1 ≤ W.heap.size ∧ ∃ l', Rdy (w.heap.size + 1) W (w.heap.size + 1 + 1) l' ∧ IsHeap l' ∧ l'.Perm ((l.take k).filter (rdyB s))
theorem NxI.call {w W W' : World} {s : List Int} {l : List MsgV} {k : Nat} (h : NxI w s l k W) (hb : Below W.heap.size W W') : NxI w s l k W' := by
  obtain ⟨h1, h2, h3, l', h4, h5, h6⟩ := h
  exact ⟨below_step h1 hb, (hb.block _ (lt_of h2)).trans h2, Nat.le_trans h3 hb.size, l', h4.call hb, h5, h6⟩
theorem NxI.skip {w W : World} {s : List Int} {l : List MsgV} {k k2 : Nat} (h : NxI w s l k W) (e : (l.take k2).filter (rdyB s) = (l.take k).filter (rdyB s)) : NxI w s l k2 W := by
  obtain ⟨h1, h2, h3, l', h4, h5, h6⟩ := h
  exact ⟨h1, h2, h3, l', h4, h5, e ▸ h6⟩
theorem NxI.push {w W W' : World} {s : List Int} {l l' : List MsgV} {k k2 : Nat} {x : MsgV} (h1 : Below w.heap.size w W) (h2 : W.heap[w.heap.size]? = some (.cells (msgC MsgV.zero) 38 (0, 0))) (h3 : w.heap.size + 1 ≤ W.heap.size) (h6 : l'.Perm ((l.take k).filter (rdyB s)))
    (e : (l.take k2).filter (rdyB s) = (l.take k).filter (rdyB s) ++ [x]) (hex : ∃ l2, Rdy (w.heap.size + 1) W' (w.heap.size + 1 + 1) l2 ∧ IsHeap l2 ∧ l2.Perm (l' ++ [x])) (hb : Below (w.heap.size + 1) W W') : NxI w s l k2 W' := by
  obtain ⟨l2, g1, g2, g3⟩ := hex
  refine ⟨h1.trans (hb.mono (Nat.le_succ _)), (hb.block _ (Nat.lt_succ_self _)).trans h2, Nat.le_trans h3 hb.size, l2, g1, g2, ?_⟩
  rw [e]
  exact g3.trans (h6.append_right _)
theorem NxI.len {l l' : List MsgV} {s : List Int} {k : Nat} (h6 : l'.Perm ((l.take k).filter (rdyB s))) : l'.length ≤ l.length := by
  rw [h6.length_eq]
  exact Nat.le_trans (List.length_filter_le _ _) (by rw [List.length_take]; exact Nat.min_le_right _ _)
theorem Mid.start {S : Nat → Prop} {w w4 X : World} {p : Nat} {s u : List Int} {v : Value} {l : List MsgV} {m : MsgV} (hX : Holds w4 [(w4.heap.size, .cells (msgC m) 38 (0, 0))] X) (h4 : Below w.heap.size w w4) (hr : w4.heap[w.heap.size]? = some (.cells (msgC MsgV.zero) 38 (0, 0)))
    (hp : w.heap[p]? = some (.cells (bufC s v) 65 (0, 0))) (hs : s.length = 8) (hu : u.length = 8) (hown : msgE.Own 0 w v l) (hno : ∀ k, v.ownBlock = some k → ¬ S k ∧ k ≠ p) (hnp : ¬ S p) (hbd : ∀ k, S k → k < w.heap.size) :
    Mid S w p w4.heap.size u v l m (X.setCells p 0 (vec u).toList) := by
  have hb : Below w.heap.size w X := h4.trans (hX.2.mono h4.size)
  have hpl := lt_of hp
  have hsz := h4.size
  have hrl := lt_of hr
  refine ⟨bufC_seen hs ((hb.block p hpl).trans hp) u hu, (setCells_far _ _ _ (by omega)).trans (hX.get 0 rfl), (setCells_far _ _ _ (by omega)).trans ((hX.2.block _ hrl).trans hr), ?_, (keep_of_below hb hbd).setCells hnp _ _⟩
  exact own_keep (hown.below hb) (fun k hk => setCells_far _ _ _ (hno k hk).2)
theorem Mid.there {S : Nat → Prop} {w w4 X : World} {p : Nat} {s u : List Int} {v : Value} {m : MsgV} (hX : Holds w4 [(w4.heap.size, .cells (msgC m) 38 (0, 0))] X) (h4 : Below w.heap.size w w4) (hp : w.heap[p]? = some (.cells (bufC s v) 65 (0, 0))) (hs : s.length = 8) (hu : u.length = 8) :
    X.there p 0 (vec u).size := bufC_there hs (((h4.trans (hX.2.mono h4.size)).block p (lt_of hp)).trans hp) u hu
/-- The slice that is kept from now on is laid into the buffer. -/
theorem Mid.lay {S : Nat → Prop} {w W W2 : World} {p bm : Nat} {u : List Int} {v v2 : Value} {l l2 : List MsgV} {m : MsgV} (h : Mid S w p bm u v l m W) (hu : u.length = 8) (hpl : p < w.heap.size) (hnp : ¬ S p) (hbd : ∀ k, S k → k < w.heap.size) (hno : ∀ k, v.ownBlock = some k → ¬ S k ∧ k ≠ p ∧ k < w.heap.size) (hbm : w.heap.size ≤ bm) (hown : msgE.Own 0 W2 v2 l2)
    (hv2 : ∀ k, v2.ownBlock = some k → v.ownBlock = some k) (hk : KeepOn (fun k => k < W.heap.size ∧ v.ownBlock ≠ some k) W W2) : Mid S w p bm u v2 l2 m (W2.setCell ⟨p, 8, none⟩ v2) := by
  have kb : ∀ {k : Nat} {o : Obj}, W.heap[k]? = some o → v.ownBlock ≠ some k → W2.heap[k]? = some o := fun hg hne => (hk.block _ ⟨lt_of hg, hne⟩).trans hg
  have hsz := h.keep.size
  have n1 : ∀ k, w.heap.size ≤ k → v.ownBlock ≠ some k := fun k hle e => by have := (hno k e).2.2; omega
  refine ⟨?_, (heap_setCell_other _ _ _ _ (by show bm ≠ p; omega)).trans (kb h.msg (n1 bm hbm)), (heap_setCell_other _ _ _ _ (by show w.heap.size ≠ p; omega)).trans (kb h.res (n1 _ (Nat.le_refl _))), own_keep hown (fun k e => heap_setCell_other _ _ _ _ (hno k (hv2 k e)).2.1), ?_⟩
  · rw [← bufC_set u v v2 hu]
    exact heap_setCell_same _ _ _ _ _ _ (kb h.buf (fun e => (hno p e).2.1 rfl))
  · have h5 : KeepOn S W W2 := hk.mono (fun k hS => ⟨Nat.lt_of_lt_of_le (hbd k hS) hsz, fun e => (hno k e).1 hS⟩)
    exact (h.keep.trans h5).setCell hnp _
theorem Mid.after {S : Nat → Prop} {w W W2 : World} {p bm : Nat} {u : List Int} {v : Value} {l : List MsgV} {m : MsgV} (h : Mid S w p bm u v l m W) (hno : ∀ k, v.ownBlock = some k → ¬ S k ∧ k ≠ p ∧ k < w.heap.size) (hk : KeepOn (fun k => k < W.heap.size ∧ v.ownBlock ≠ some k) W W2) : W2.heap[p]? = some (.cells (bufC u v) 65 (0, 0)) :=
  (hk.block _ ⟨lt_of h.buf, fun e => (hno p e).2.1 rfl⟩).trans h.buf
theorem Mid.buffer {S : Nat → Prop} {w W : World} {p bm : Nat} {u : List Int} {v : Value} {l : List MsgV} {m : MsgV} (h : Mid S w p bm u v l m W) (hu : u.length = 8) (hpl : p < w.heap.size) (hnp : ¬ S p) (hbd : ∀ k, S k → k < w.heap.size) (hno : ∀ k, v.ownBlock = some k → ¬ S k ∧ k ≠ p ∧ k < w.heap.size) :
    BufAt S (W.setRow w.heap.size (msgC m)) p u l ∧ KeepOn S w (W.setRow w.heap.size (msgC m)) := by
  have nS : ¬ S w.heap.size := fun hS => by have := hbd _ hS; omega
  have hk := h.keep.setRow nS (msgC m)
  refine ⟨⟨⟨v, (setRow_other _ _ _ _ (by omega)).trans h.buf, own_keep h.own (fun k e => setRow_other _ _ _ _ (by have := (hno k e).2.2; omega)), fun k e => ⟨(hno k e).1, (hno k e).2.1⟩⟩, hnp, fun k hS => Nat.lt_of_lt_of_le (hbd k hS) hk.size, hu⟩, hk⟩
set_option maxHeartbeats 4000000 in
set_option maxRecDepth 100000 in
theorem buf_Next (S : Nat → Prop) (p : Nat) (s : List Int) (l : List MsgV) (hlen : l.length ≤ 40000000000) (hfine : ∀ m ∈ l, m.fine = true) (w : World) (h : BufAt S w p s l) :
    Calls Tryz.prog 11 #[.pointer (some ⟨p, 0, none⟩)] w fun e w' => KeepOn S w w' ∧
      ((l.filter (rdyB s) = [] ∧ e = .returned (.tuple #[.agg (msgC MsgV.zero), .bool false]) ∧ BufAt S w' p s l) ∨
       (∃ m, m ∈ l.filter (rdyB s) ∧ (∀ x ∈ l.filter (rdyB s), lessM x m = false) ∧ e = .returned (.tuple #[.agg (msgC m), .bool true]) ∧ BufAt S w' p (upV s m.r.toNat) (l.filter fun x => !sameM x m))) := by
  obtain ⟨v, hp, hown, hno⟩ := h.ex
  obtain ⟨A, cap, rfl⟩ := hown.slice
  have HP := Hd.mk (⟨lt_of hp, hp, hown, hno⟩ : _ ∧ _ ∧ _ ∧ _)
  have HB := Hd.mk (⟨h.np, h.bd, h.len, hlen, hfine⟩ : _ ∧ _ ∧ _ ∧ _ ∧ _)
  have HV8 := Hd.mk (bufC_last s (.slice A l.length cap) h.len)
  have HZ := Hd.mk (show (Tryz.prog.info? 32).map (·.size) = some (vec s).toList.length by rw [Array.length_toList, vec_size, h.len]; exact size_vec)
  have hbel := h
  clear hp hown hno h hlen hfine hbel
  go_enter Tryz.func11, Tryz.ntmps11
  go_upto_region 4 with (fail)
  refine world_gen _ (Holds.start3 w (.cells (msgC MsgV.zero) 38 (0, 0)) (.cells #[] 38 (0, 0)) (.cells #[.slice (some ⟨w.heap.size + 1, 0, none⟩) 0 0] 70 (0, 0))) (fun W0 hK => ?_)
  have hp0 := (hK.2.block p HP.out.1).trans HP.out.2.1
  have c8 : W0.cell? ⟨p, 8, none⟩ = some (.slice A l.length cap) := (cell_of_row W0 _ 8 _ _ _ hp0).trans HV8.out
  have K0 := Hd.mk hK
  clear hK hp0
  go_wp2_with fail
  go_loopg [19] l.length (fun kq v19 w' => ∃ k : Nat, v19 = .int .i64 (k : Int) ∧ Hd (kq + k = l.length ∧ NxI w s l k w'))
  case atStart => exact ⟨0, rfl, ⟨by omega, K0.out.2, K0.out.get 2 rfl, Nat.le_of_lt (K0.out.lt 1 rfl), [], rdy_of_slice0 (K0.out.get 0 rfl) (K0.out.get 1 rfl) (by omega) (Nat.le_refl _) (by omega), IsHeap.nil, by simp⟩⟩
  case round =>
    clear c8 K0
    obtain ⟨k, rfl, HR⟩ := hrel
    by_cases hlt : k < l.length
    · obtain ⟨x, hx⟩ : ∃ x, l[k]? = some x := ⟨_, List.getElem?_eq_getElem hlt⟩
      have hxq : x.q ≤ 9223372036854775807 := by
        have h1 := HB.out.2.2.2.2 x (List.mem_of_getElem? hx)
        unfold MsgV.fine at h1
        simp only [Bool.and_eq_true, decide_eq_true_eq] at h1
        omega
      have HRy := Hd.mk (ready_c s HB.out.2.2.1 x hxq)
      have HRp := Hd.mk (rep_c x)
      obtain ⟨g, cap2, e, -, -⟩ := HP.out.2.2.1.lit (fun e => by subst e; simp at hlt)
      cases e
      have hown := HP.out.2.2.1.below HR.out.2.1
      have HRG := Hd.mk (hown.range hx)
      have hc : (k : Int) < (l.length : Int) := by omega
      obtain ⟨k2, hk2⟩ : ∃ k2 : Nat, k2 = k + 1 := ⟨_, rfl⟩
      have e1 : (k : Int) + 1 = (k2 : Int) := by omega
      have e2 : wrap64 (k2 : Int) = (k2 : Int) := by have := HB.out.2.2.2.1; unfold wrap64; omega
      have HK2 := Hd.mk hk2
      have HLT := Hd.mk hlt
      have HTK := Hd.mk (show l.take k2 = l.take k ++ [x] by
        rw [hk2, List.take_succ_eq_append_getElem hlt]
        rw [List.getElem?_eq_getElem hlt] at hx
        rw [Option.some.inj hx])
      have HPW := Hd.mk (⟨Nat.lt_of_lt_of_le HP.out.1 HR.out.2.1.size, (HR.out.2.1.block p HP.out.1).trans HP.out.2.1⟩ : _ ∧ _)
      have h1n : ¬ (x.q < 0 ∧ False) := fun h => h.2
      clear hx hxq hown hk2 hlt h1n
      generalize hn : l.length = n at *
      have HN := Hd.mk hn
      clear hn
      go_upto_region 7 with (first | ((with_reducible refine gate_dst (N := 22) rfl ?_); refine wpList_load_mid rfl 38 _ rfl g (k * 22) rfl (msgC x).toList _ HRG.out Tryz.underlying38 rfl msg_size ?_) | ((with_reducible refine gate_store (t := 38) rfl ?_); refine wpList_store_row rfl _ _ _ rfl wr.heap.size (msgC x) rfl rfl 38 _ (heap_alloc_new wr _) msg_size rfl (msgC_one x) ?_))
      refine world_gen (fun W => Holds wr [(wr.heap.size, .cells (msgC x) 38 (0, 0))] W) ((Holds.nil wr).made (msgC MsgV.zero) (msgC x) 38) (fun W hK => ?_)
      have K1 := Hd.mk hK
      clear hK HRG
      generalize hry : rdyB s x = ry at *
      have HRX := Hd.mk hry
      clear hry
      refine st_ 11 (S := fun W_ => Holds wr [(wr.heap.size, .cells (msgC x) 38 (0, 0))] W_) (ds := []) (K1.out.drew) (fun hHeld => ?_)
      refine pu_ 0 (some 23) ?_
      refine pu_ 1 (some 24) ?_
      refine pu_ 2 (some 25) ?_
      refine tk_ 3 (some 26) (.agg (vec s)) rfl (fun w' h => run_load_rangeC 32 _ rfl p 0 (vec s).toList rfl (range_ofC ((h.2.block p HPW.out.1).trans HPW.out.2) 0 _ (bufC_vec s _ HB.out.2.2.1)) _ Tryz.underlying32 rfl HZ.out) hHeld ?_
      refine tk_ 4 (some 27) (.agg (msgC x)) rfl (fun w' h => run_load_wholeC _ rfl wr.heap.size x rfl (h.get 0 rfl)) hHeld ?_
      refine pu_ 6 (some 29) ?_
      refine tk_ 7 (some 30) (.int .i64 x.q) rfl (fun w' h => by have c : w'.cell? ⟨wr.heap.size, 0, none⟩ = some (.int .i64 x.q) := (cell_of_row w' _ 0 _ _ _ (h.get 0 rfl)).trans rfl; go_simp) hHeld ?_
      refine pu_ 8 (some 31) ?_
      refine tk_ 9 (some 32) (.agg (vec x.deps)) rfl (fun w' h => run_load_rangeC 32 _ rfl wr.heap.size 1 (vec x.deps).toList rfl (range_ofC (h.get 0 rfl) 1 _ (msg_deps x)) _ Tryz.underlying32 rfl size_vec) hHeld ?_
      refine cb_ 5 (some 28) Tryz.func25 HRp (fun _ hr => hHeld.call hr) (fun wr1 hHeld => ?_)
      refine cb_ 10 (some 33) Tryz.func28 HRy (fun _ hr => hHeld.call hr) (fun wr2 hHeld => ?_)
      refine done_ (by kernel_rfl) ?_
      have K2 := Hd.mk hHeld
      clear hHeld K1 HRp HRy
      rcases ry with _ | _
      · have HF := Hd.mk (show (l.take k2).filter (rdyB s) = (l.take k).filter (rdyB s) by rw [HTK.out, List.filter_append]; simp [HRX.out])
        go_wp2_with fail
        go_roundg (n - k2)
        case measure => have := HR.out.1; have := HK2.out; have := HLT.out; omega
        case rel => exact ⟨k2, by rw [e2], ⟨by have := HK2.out; have := HLT.out; omega, (HR.out.2.call K2.out.2).skip HF.out⟩⟩
      · have HF := Hd.mk (show (l.take k2).filter (rdyB s) = (l.take k).filter (rdyB s) ++ [x] by rw [HTK.out, List.filter_append]; simp [HRX.out])
        obtain ⟨h1, h2, h3, l', h4, h5, h6⟩ := HR.out.2.call K2.out.2
        have HPu := Hd.mk (heap_Push _ l' x h5 (by have := NxI.len h6; have := HN.out; have := HB.out.2.2.2.1; omega) _ _ h4 h3)
        have HFs := Hd.mk (fun (W' : World) hex hb => NxI.push (W' := W') h1 h2 h3 h6 HF.out hex hb)
        clear h1 h2 h3 h4 h5 h6
        go_wp2_with (first | ((with_reducible refine gate_dst (N := 36) rfl ?_); refine wpList_load_mid rfl 38 _ rfl wr.heap.size 0 rfl (msgC x).toList _ (range_ofC (K2.out.get 0 rfl) 0 (msgC x).toList (fun j v hj => by simpa using hj)) Tryz.underlying38 rfl msg_size ?_))
        refine HPu.out.mono ?_; rintro e w3 ⟨rfl, hex, hb3⟩
        have HQ : Hd (n - k2 + k2 = n ∧ NxI w s l k2 w3) := ⟨by have := HK2.out; have := HLT.out; omega, HFs.out w3 hex hb3⟩
        clear HPu HFs hex hb3 K2
        go_wp2_with fail
        go_roundg (n - k2)
        case measure => have := HR.out.1; have := HK2.out; have := HLT.out; omega
        case rel => exact ⟨k2, by rw [e2], HQ⟩
    · have hc : ¬ (k : Int) < (l.length : Int) := by omega
      have hkl : k = l.length := by have := HR.out.1; omega
      obtain ⟨h1, h2, h3, l', h4, h5, h6⟩ := HR.out.2
      rw [hkl, List.take_of_length_le (Nat.le_refl _)] at h6
      obtain ⟨v2, hr, hbr, hown2, hnr⟩ := h4
      obtain ⟨A2, cap2, rfl⟩ := hown2.slice
      have cr : wr.cell? ⟨w.heap.size + 1 + 1, 0, none⟩ = some (.slice A2 l'.length cap2) := (cell_of_row wr _ 0 _ _ _ hr).trans rfl
      have HLen := Hd.mk (rdy_Len A2 l'.length cap2)
      have HQ := Hd.mk (⟨h1, h2, h3, ⟨_, hr, hbr, hown2, hnr⟩, h5, h6⟩ : _ ∧ _ ∧ _ ∧ Rdy (w.heap.size + 1) wr (w.heap.size + 1 + 1) l' ∧ _ ∧ _)
      clear h1 h2 h3 hr hbr hown2 hnr h5 hkl HR
      cases l' with
      | nil =>
        have HE := Hd.mk (show l.filter (rdyB s) = [] from (List.Perm.nil_eq h6).symm)
        clear h6
        go_wp2_with fail
        refine (HLen.out _).mono ?_; rintro e w1 ⟨rfl, rfl⟩
        clear cr HLen
        go_wp2_with (first | ((with_reducible refine gate_store (t := 38) rfl ?_); refine wpList_store_row rfl _ _ _ rfl w.heap.size (msgC MsgV.zero) rfl rfl 38 (msgC MsgV.zero) HQ.out.2.1 msg_size rfl (msgC_one MsgV.zero) ?_))
        have hb := below_setRow HQ.out.1 (Nat.le_refl w.heap.size) (msgC MsgV.zero)
        exact bodyPost_ret (results_cell_tmp (p := 2) (q := 3) rfl _ _ w.heap.size 38 (msgC MsgV.zero) (0, 0) _ rfl (setRow_heap _ _ _ _ _ _ HQ.out.2.1) Tryz.underlying38 rfl msg_size) rfl ⟨keep_of_below hb HB.out.2.1, Or.inl ⟨HE.out, rfl, BufAt.call ⟨⟨_, HP.out.2.1, HP.out.2.2.1, HP.out.2.2.2⟩, HB.out.1, HB.out.2.1, HB.out.2.2.1⟩ hb⟩⟩
      | cons m t =>
        have hmem : m ∈ l.filter (rdyB s) := h6.subset List.mem_cons_self
        have hleast : ∀ x ∈ l.filter (rdyB s), lessM x m = false := fun x hx => HQ.out.2.2.2.2.1.least rfl (h6.symm.subset hx)
        have hmf := HB.out.2.2.2.2 m (List.mem_filter.1 hmem).1
        have hlt' : t.length ≤ 50000000000 := by have h7 := NxI.len (k := l.length) (s := s) (l := l) (l' := m :: t) (by rw [List.take_of_length_le (Nat.le_refl _)]; exact h6); have := HB.out.2.2.2.1; simp at h7; omega
        have HPo := Hd.mk (heap_Pop (w.heap.size + 1 + 1) (m :: t) t.length m rfl rfl hlt' (w.heap.size + 1) wr HQ.out.2.2.2.1 HQ.out.2.2.1)
        obtain ⟨rr, hr8, hrr⟩ := may_rep (fine_may hmf)
        have HM := Hd.mk (⟨hmem, hleast, hr8, hrr⟩ : _ ∧ _ ∧ _ ∧ _)
        have HRp := Hd.mk (rep_c m)
        have HTk := Hd.mk (vec_Tick s rr hr8 HB.out.2.2.1)
        have HU := Hd.mk (show (upV s rr).length = 8 by rw [upV_len]; exact HB.out.2.2.1)
        have HUE := Hd.mk (show upV s m.r.toNat = upV s rr by rw [hrr, Int.toNat_natCast])
        have HZU := Hd.mk (show (Tryz.prog.info? 32).map (·.size) = some (vec (upV s rr)).size by rw [vec_size, HU.out]; exact size_vec)
        have HNO := Hd.mk (fun k (e : (Value.slice A l.length cap).ownBlock = some k) => (⟨(HP.out.2.2.2 k e).1, (HP.out.2.2.2 k e).2, (HP.out.2.2.1.lt e).2⟩ : ¬ S k ∧ k ≠ p ∧ k < w.heap.size))
        rw [hrr] at HRp
        have hz : ¬ ((m :: t).length : Int) = 0 := by simp; omega
        have hta := ta_msg
        clear h6 hmem hleast hmf hlt' hr8 hrr
        generalize upV s rr = u at *
        generalize wrap64 (nth s (rr : Int) + 1) = y at HTk
        generalize (m :: t).length = n2 at *
        go_wp2_with fail
        refine (HLen.out _).mono ?_; rintro e w1 ⟨rfl, rfl⟩
        clear cr HLen
        go_wp2_with fail
        refine HPo.out.mono ?_; rintro e w4 ⟨rfl, hb4⟩
        have HW := Hd.mk (⟨HQ.out.1.trans (hb4.mono (Nat.le_succ _)), (hb4.block _ (Nat.lt_succ_self _)).trans HQ.out.2.1⟩ : _ ∧ _)
        clear HPo hb4 HQ
        go_upto_region 13 with (first | ((with_reducible refine gate_store (t := 38) rfl ?_); refine wpList_store_row rfl _ _ _ rfl w4.heap.size (msgC m) rfl rfl 38 _ (heap_alloc_new w4 _) msg_size rfl (msgC_one m) ?_))
        clear hta
        refine world_gen (fun W => Holds w4 [(w4.heap.size, .cells (msgC m) 38 (0, 0))] W) ((Holds.nil w4).made (msgC MsgV.zero) (msgC m) 38) (fun W hK => ?_)
        have K1 := Hd.mk hK
        clear hK
        refine st_ 14 (S := fun W_ => Holds w4 [(w4.heap.size, .cells (msgC m) 38 (0, 0))] W_) (ds := [13]) (K1.out.drew) (fun hHeld => ?_)
        refine pu_ 0 (some 54) ?_
        refine pu_ 1 (some 55) ?_
        refine pu_ 2 (some 56) ?_
        refine pu_ 3 (some 57) ?_
        refine tk_ 4 (some 58) (.agg (vec s)) rfl (fun w' h => run_load_rangeC 32 _ rfl p 0 (vec s).toList rfl (range_ofC ((h.2.block p (Nat.lt_of_lt_of_le HP.out.1 HW.out.1.size)).trans ((HW.out.1.block p HP.out.1).trans HP.out.2.1)) 0 _ (bufC_vec s _ HB.out.2.2.1)) _ Tryz.underlying32 rfl HZ.out) hHeld ?_
        refine tk_ 5 (some 59) (.agg (msgC m)) rfl (fun w' h => run_load_wholeC _ rfl w4.heap.size m rfl (h.get 0 rfl)) hHeld ?_
        refine cb_ 6 (some 60) Tryz.func25 HRp (fun _ hr => hHeld.call hr) (fun wr3 hHeld => ?_)
        refine cb_ 7 (some 61) Tryz.func32 HTk (fun _ hr => hHeld.call hr) (fun wr4 hHeld => ?_)
        refine pu_ 8 (some 53) ?_
        refine pu_ 9 (some 62) ?_
        refine pu_ 10 (some 63) ?_
        refine pu_ 11 (some 64) ?_
        refine pu_ 12 (some 65) ?_
        refine last_ (i := 13) (N := none) #[true, true, true, true, true, true, true, true, true, true, true, true, true, true] rfl rfl (by kernel_rfl) (by decide) (fun K hK => ?_)
        refine skip_ (by rfl) rfl (run_store_midC 32 _ _ rfl p 0 (vec u) rfl rfl (Mid.there (S := S) hHeld HW.out.1 HP.out.2.1 HB.out.2.2.1 HU.out) HZU.out (vec_one _)) ?_
        refine hK.out _ _ ?_
        clear hK K
        refine done_ (by kernel_rfl) ?_
        have HMid := Hd.mk (Mid.start hHeld HW.out.1 HW.out.2 HP.out.2.1 HB.out.2.2.1 HU.out HP.out.2.2.1 HP.out.2.2.2 HB.out.1 HB.out.2.1)
        clear hHeld K1 HTk HRp
        go_upto_region 14 with (fail)
        refine world_gen (fun W6 => Mid S w p w4.heap.size u (.slice A l.length cap) l m W6) HMid.out (fun W6 h6 => ?_)
        have H6 := Hd.mk h6
        clear h6 HMid
        have c6 : W6.cell? ⟨p, 8, none⟩ = some (.slice A l.length cap) := (cell_of_row W6 _ 8 _ _ _ H6.out.buf).trans (bufC_last u _ HU.out)
        have HDel := Hd.mk (msg_DeleteFunc _ w4.heap.size (fun x => sameM x m) l (.slice A l.length cap) (by have := HB.out.2.2.2.1; omega) W6 H6.out.own (lt_of H6.out.msg) (fun k e e2 => by have := (HNO.out k e).2.2; have := HW.out.1.size; omega) (enters_of Tryz.func34 (by kernel_rfl) rfl) (fun x W2 hb => same_N x m w4.heap.size W2 (hb.trans H6.out.msg)))
        go_wp2_with fail
        refine HDel.out.mono ?_; rintro e w7 ⟨v7, rfl, hown7, hv7, hk7⟩
        obtain ⟨A7, cap7, rfl⟩ := hown7.slice
        have hb7 := Mid.after H6.out HNO.out hk7
        have HL := Hd.mk (Mid.lay H6.out HU.out HP.out.1 HB.out.1 HB.out.2.1 HNO.out HW.out.1.size hown7 hv7 hk7)
        have HN7 := Hd.mk (fun k (e : (Value.slice A7 (l.filter fun x => !sameM x m).length cap7).ownBlock = some k) => HNO.out k (hv7 k e))
        have c7 : w7.cell? ⟨p, 8, none⟩ = some (.slice A l.length cap) := (cell_of_row w7 _ 8 _ _ _ hb7).trans (bufC_last u _ HU.out)
        have f7 := frozen_of_row w7 p 8 _ _ hb7
        clear HDel c6 hb7 hown7 hv7 hk7 H6
        go_upto_region 15 with (fail)
        refine world_gen (fun W8 => Mid S w p w4.heap.size u (.slice A7 (l.filter fun x => !sameM x m).length cap7) (l.filter fun x => !sameM x m) m W8) HL.out (fun W8 h8 => ?_)
        have H8 := Hd.mk h8
        clear h8 HL c7 f7
        go_wp2_with (first | ((with_reducible refine gate_dst (N := 75) rfl ?_); refine wpList_load_mid rfl 38 _ rfl w4.heap.size 0 rfl (msgC m).toList _ (range_ofC H8.out.msg 0 (msgC m).toList (fun j v hj => by simpa using hj)) Tryz.underlying38 rfl msg_size ?_) | ((with_reducible refine gate_store (t := 38) rfl ?_); refine wpList_store_row rfl _ _ _ rfl w.heap.size (msgC m) rfl rfl 38 (msgC MsgV.zero) H8.out.res msg_size rfl (msgC_one m) ?_))
        have hfin := Mid.buffer H8.out HU.out HP.out.1 HB.out.1 HB.out.2.1 HN7.out
        exact bodyPost_ret (results_cell_tmp (p := 2) (q := 3) rfl _ _ w.heap.size 38 (msgC m) (0, 0) _ rfl (setRow_heap _ _ _ _ _ _ H8.out.res) Tryz.underlying38 rfl msg_size) rfl ⟨hfin.2, Or.inr ⟨m, HM.out.1, HM.out.2.1, rfl, by rw [HUE.out]; exact hfin.1⟩⟩
end Go.Proofs.YtcgkkjfbdappoaaGreat
