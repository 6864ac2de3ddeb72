/- A range over a function that turns a variable of its own: the law; frame.each: its contract. -/
import Derived.Test.YtcekecpbjmfbhaaFrameAllRef
import Derived.RangeFuncNested
import Derived.RangeFuncBound
import Derived.RangeFuncCalls
import Derived.RangeFuncLeaves
import Derived.RangeFuncBox
import Derived.Shelf.Abstract
import Derived.Shelf.RegionOpen
import Derived.OwnWalkIn
import Derived.TacticsInMore
import Derived.LoopNIn
import Derived.LoopIn
import Derived.Sort.LoopGhostIn
import Derived.Sort.QuietIn
namespace Go.Proofs.Ytcekecpbjmfbhaa
open Go.RowKit Go.Shelf Pk Cr
set_option linter.unusedVariables false
set_option linter.unusedSimpArgs false
attribute [local go_sem] Oper.semAt_some

/-- How a body that always goes on is left: nothing but cells has turned, and not the iterator's own variable. -/
def goesOn {α : Type} (I : List α → World → Prop) (bs : Nat) (xs : List α) (W : World) : Exit → Act → World → Prop
  | .normal, _, W' => KeepsOthers W W' ∧ W'.heap[bs]? = W.heap[bs]? ∧ I xs W'
  | _, _, _ => False
/-- A range over a function that keeps a variable of its own, in block bs. -/
theorem range_own_cell {F : Fence} {n : Nat} {P : Program} {α : Type} {g : Operand} {ps : Array Tmp} {assign body : Code} {Q : Exit → Act → World → Prop} {a : Act} {w : World}
    (hro : F.round = none) (h1 : 1 ≤ n) {gf : Nat} {lb : Array Value} (hg : a.eval g = .func (.func gf) #[] lb) (hFg : F.fn gf) (eg : ∀ args w, (callFunc gf args).run P w = .ok (.enter gf args) w)
    {encs : α → Array Value} (hps : ∀ x, (encs x).size = ps.size) {bs : Nat} (hbs : bs < w.heap.size) {S : List α → Prop} {N : Nat}
    (hseq : ∀ (l : Nat) (J : List α → World → Prop) (W : World), Below w.heap.size w W → (∀ s A B row, J s A → A.grownBy B row → (∀ r, row = some r → r = bs) → J s B) →
      (∀ pre x W1, J pre W1 → pre.length < N → YieldAt F (n - 1 - 1) P l (encs x) W1 fun e W' => e = .returned (.bool true) ∧ J (pre ++ [x]) W' ∧ W'.heap[bs]? = W1.heap[bs]?) → J [] W →
      CallsIn F (n - 1) P gf (#[.func (.yield l) #[] #[]] ++ lb) W fun e W' => (∃ v, e = .returned v) ∧ ∃ xs, S xs ∧ J xs W')
    (I : List α → World → Prop) (hI : ∀ s A B row, I s A → A.grownBy B row → (∀ r, row = some r → r = bs ∨ (w.heap.size ≤ r ∧ ∃ o : Obj, A.heap[r]? = some o ∧ o.isCells = false)) → I s B) (h0 : I [] w) (a₁ : α → Act)
    (hassign : ∀ (l : Nat) (x : α) (W : World) (K : Act → World → Prop), K (a₁ x) W →
      assign.wpIn (F.inRound l) (n - 1 - 1) P (Exit.then K (fun _ _ _ => False)) { tmps := (ps.zip (encs x)).foldl (fun t (p, v) => t.setIfInBounds p v) a.tmps, defers := [] } W)
    (hbody : ∀ (l : Nat) (pre : List α) (x : α) (W : World), I pre W → pre.length < N → body.wpIn (F.inRound l) (n - 1 - 1) P (goesOn I bs (pre ++ [x]) W) (a₁ x) W)
    (hdone : ∀ (D : Nat) (xs : List α) (W : World), w.heap.size ≤ D → S xs → I xs W → W.heap[D]? = some (.deferred (some [])) → Q .normal { a with defers := { target := .collected D, args := #[] } :: a.defers } W) :
    (Code.rangeFunc g ps assign body).wpIn F n P Q a w := by
  refine wpIn_rangeFunc ?_
  intro fn hfn
  rw [hro]
  obtain ⟨rec, hrec⟩ : ∃ rec : LoopState → Option Code → Loop, rec = fun st pe => { state := st, pending := pe, fn, tmps := a.tmps, params := ps, assign, body, defers := w.heap.size } := ⟨_, rfl⟩
  obtain ⟨W1, hW1⟩ : ∃ W1, (w.alloc (.deferred (some []))).alloc (.loop (rec .ready none)) = W1 := ⟨_, rfl⟩
  have hL1 : W1.heap[w.heap.size + 1]? = some (.loop (rec .ready none)) := by
    rw [← hW1]
    have := World.alloc_heap_new (w.alloc (.deferred (some []))) (.loop (rec .ready none))
    rwa [World.size_alloc] at this
  have hK1 : W1.heap[w.heap.size]? = some (.deferred (some [])) := by
    rw [← hW1]; exact (Below.heap_alloc _ _ _ (by simp)).trans (World.alloc_heap_new w _)
  have alone : ∀ s A o, I s A → I s (A.alloc o) := fun s A o h => hI s A _ none h (World.grownBy_alloc A o none) (fun r e => by cases e)
  have hI1 : I [] W1 := by rw [← hW1]; exact alone _ _ _ (alone _ _ _ h0)
  have hb1 : Below w.heap.size w W1 := by
    rw [← hW1]; exact ((Below.refl _ w).alloc (Nat.le_refl _) _).alloc (by simp) _
  have put : ∀ s A l o o', I s A → w.heap.size ≤ l → A.heap[l]? = some o → o.isCells = false → I s (A.putObj l o') := fun s A l o o' h hl hA ho =>
    hI s A _ (some l) h (grownBy_putObj' A l o') (fun r e => by cases e; exact .inr ⟨hl, o, hA, ho⟩)
  refine ⟨w.heap.size + 1, [{ target := .collected w.heap.size, args := #[] }], W1, { target := .fn (.func gf) lb, args := #[.func (.yield (w.heap.size + 1)) #[] #[]] }, W1, gf,
    #[.func (.yield (w.heap.size + 1)) #[] #[]] ++ lb, W1, ?_, ?_, ?_, ?_, fun _ => h1, ?_⟩
  · rw [← hW1, hrec]; exact run_enterLoop_outer _ _ _ _ _
  · simp only [resolve, hg]
    simp [go_sem]
  · intro f' hf'; simp [Target.leads] at hf'; subst hf'; exact hFg
  · simp [invoke, go_sem, eg]
  · refine (hseq (w.heap.size + 1) (fun pre W => I pre W ∧ W.heap[w.heap.size + 1]? = some (.loop (rec .ready none)) ∧ W.heap[w.heap.size]? = some (.deferred (some []))) W1 hb1 ?_ ?_ ⟨hI1, hL1, hK1⟩).mono ?_
    · intro s A B row hs hgr hrow
      have far : ∀ k o, A.heap[k]? = some o → k ≠ bs → B.heap[k]? = some o := fun k o hk hne =>
        (hgr.block k (Array.getElem?_eq_some_iff.1 hk).1 (fun e => hne (hrow k e.symm))).trans hk
      exact ⟨hI s A B row hs.1 hgr (fun r e => .inl (hrow r e)), far _ _ hs.2.1 (by omega), far _ _ hs.2.2 (by omega)⟩
    · rintro pre x W ⟨hi, hl, hk⟩ hN
      have hlt : w.heap.size + 1 < W.heap.size := (Array.getElem?_eq_some_iff.1 hl).1
      have hy := run_yield (P := P) (args := encs x) hl (by rw [hrec]; exact hps x)
      rw [hrec] at hy
      refine ⟨fn, _, assign, body, hy, roundIn_of_wpIn hfn (hassign _ x W _ ⟨_, run_beginRound hl (by rw [hrec]), ?_⟩)⟩
      have hl2 : (W.putObj (w.heap.size + 1) (.loop { rec .ready none with state := .busy })).heap[w.heap.size + 1]? = some (.loop { rec .ready none with state := .busy }) := World.putObj_heap_same hlt
      have hk2 : (W.putObj (w.heap.size + 1) (.loop { rec .ready none with state := .busy })).heap[w.heap.size]? = some (.deferred (some [])) := (World.putObj_heap_other (by omega)).trans hk
      have hs2 : (W.putObj (w.heap.size + 1) (.loop { rec .ready none with state := .busy })).heap[bs]? = W.heap[bs]? := World.putObj_heap_other (by omega)
      refine wpIn_mono (hbody _ pre x _ (put _ _ _ _ _ hi (by omega) hl rfl) hN) ?_
      rintro e a3 W3 hp
      cases e with
      | normal =>
        obtain ⟨hk3, hkb, hi3⟩ := hp
        have hl3 := hk3.same _ _ hl2 rfl
        have hr := run_endRound (P := P) none hl3
        rw [hrec] at hr hl3
        refine ⟨_, _, hr, rfl, ⟨put _ _ _ _ _ hi3 (by omega) hl3 rfl, ?_, (World.putObj_heap_other (by omega)).trans (hk3.same _ _ hk2 rfl)⟩, (World.putObj_heap_other (by omega)).trans (hkb.trans hs2)⟩
        rw [hrec]
        exact World.putObj_heap_same (Array.getElem?_eq_some_iff.1 hl3).1
      | ret => exact hp.elim
      | exit id => exact hp.elim
      | goto t => exact hp.elim
      | panic ch => exact hp.elim
      | outgrown => exact hp.elim
    · rintro e W2 ⟨⟨v, rfl⟩, xs, hS, hi, hl, hk⟩
      exact ⟨none, _, by have := run_endLoop (P := P) hl (by rw [hrec]; simp); rw [hrec] at this; exact this, hdone _ xs _ (Nat.le_refl _) hS (put _ _ _ _ _ hi (by omega) hl rfl) ((World.putObj_heap_other (by omega)).trans hk)⟩

set_option maxRecDepth 100000 in
theorem frame_each (s : ByteArray) (w : World) :
    Calls Try.prog 44 #[.string s] w fun e w' => e = .returned (.func (.func 70) #[] #[.pointer (some ⟨w.heap.size, 0, none⟩)]) ∧ w' = w.alloc (.cells #[.string s] 9) := by
  have hmf : ∀ (fn : Fn) (first cap : Array Value) (w : World), (Instr.makeFunc fn first cap).run Try.prog w = .ok (.func fn first cap) w := fun _ _ _ _ => rfl
  go_enter Try.func44, Try.ntmps44
  go_wp2_with fail
  go_ret
  exact ⟨rfl, rfl⟩
/-- What is left behind the last of these records. -/
def leftF (s : List UInt8) (xs : List (List UInt8 × List UInt8)) : List UInt8 := xs.foldl (fun _ x => x.2) s
theorem leftF_snoc (s : List UInt8) (pre : List (List UInt8 × List UInt8)) (x : List UInt8 × List UInt8) : leftF s (pre ++ [x]) = x.2 := by simp [leftF]
/-- All records have come. -/
def CameAll (s : List UInt8) (xs : List (List UInt8 × List UInt8)) : Prop := xs.map Prod.fst = (allF s).1 ∧ leftF s xs = (allF s).2
set_option maxHeartbeats 2000000 in
set_option maxRecDepth 100000 in
theorem each1_in (n : Nat) (l bs : Nat) (s : ByteArray) (hs : s.size ≤ 1000000) (J : List (List UInt8 × List UInt8) → World → Prop)
    (hJ : ∀ t A B row, J t A → A.grownBy B row → (∀ r, row = some r → r = bs) → J t B)
    (hY : ∀ pre x W1, J pre W1 → pre.length < s.size → YieldAt Fence.wide (n - 1) Try.prog l #[.string ⟨x.1.toArray⟩, .string ⟨x.2.toArray⟩] W1 fun e W' => e = .returned (.bool true) ∧ J (pre ++ [x]) W' ∧ W'.heap[bs]? = W1.heap[bs]?)
    (W : World) (hb : W.heap[bs]? = some (.cells #[.string s] 9 (0, 0))) (h0 : J [] W) :
    CallsIn Fence.wide n Try.prog 70 #[.func (.yield l) #[] #[], .pointer (some ⟨bs, 0, none⟩)] W fun e W' => (∃ v, e = .returned v) ∧ ∃ xs, CameAll s.data.toList xs ∧ J xs W' := by
  have lone : ∀ t A B, J t A → Below A.heap.size A B → J t B := fun t A B h hb => hJ t A B none h ⟨hb.os, hb.tape, hb.output, hb.size, fun k hk _ => hb.block k hk⟩ (fun r e => by cases e)
  have cell : ∀ t A v, J t A → J t (A.setCell ⟨bs, 0, none⟩ v) := fun t A v h => hJ t A _ (some bs) h (grownBy_setCell' A bs v) (fun r e => by cases e; rfl)
  refine callsIn_of_wp Try.func70 rfl trivial ?_ rfl
  simp only [Try.ntmps70, List.size_toArray, List.length_cons, List.length_nil, Nat.reduceAdd, Nat.reduceSub, Array.replicate_succ, Array.replicate_zero, List.push_toArray, List.append_toArray, List.nil_append, List.cons_append]
  gi_wp2
  gi_loopg [3] s.size (fun kq v3 wr => ∃ (pre : List (List UInt8 × List UInt8)) (r : List UInt8), kq = r.length ∧ wr.heap[bs]? = some (.cells #[.string ⟨r.toArray⟩] 9 (0, 0)) ∧ J pre wr ∧ pre.length + r.length ≤ s.size ∧ leftF s.data.toList pre = r ∧ allF s.data.toList = (pre.map Prod.fst ++ (allF r).1, (allF r).2))
  case atStart => exact ⟨[], s.data.toList, rfl, hb, h0, Nat.le_of_eq (by rw [List.length_nil, Nat.zero_add]; rfl), rfl, by simp⟩
  case round =>
    obtain ⟨pre, r, hk, hbr, hj, hrs, hlf, hal⟩ := hrel
    have HT := frame_Take ⟨r.toArray⟩ (by rw [size_of]; omega) wr
    rw [mk_list] at HT
    have hc := Boxed.cell hbr
    have hf := Boxed.frozen hbr
    cases h : tkF r with
    | none =>
      rw [h] at HT
      simp only [txV] at HT
      have HA : CameAll s.data.toList pre := by
        rw [allF_none h] at hal
        simp only [List.append_nil] at hal
        exact ⟨by rw [hal], by rw [hal, hlf]⟩
      clear hal hlf h
      gi_wp2
      refine ⟨trivial, fun h => (by cases h), (callsIn_wide.2 HT).mono ?_⟩
      rintro e w1 ⟨rfl, h1⟩
      gi_wp2
      refine ⟨fun _ _ => trivial, ?_⟩
      gi_wp2
      refine bodyPost_ret (results_none rfl _ _ _) rfl ?_
      exact ⟨⟨_, rfl⟩, pre, HA, lone _ _ _ hj h1⟩
    | some p =>
      obtain ⟨b, q⟩ := p
      have hql := tkF_len h
      rw [h] at HT
      simp only [txV] at HT
      have HA : allF s.data.toList = ((pre ++ [(b, q)]).map Prod.fst ++ (allF q).1, (allF q).2) := by rw [hal, allF_some h]; simp
      have HL := leftF_snoc s.data.toList pre (b, q)
      clear hal hlf h
      gi_wp2
      refine ⟨trivial, fun h => (by cases h), (callsIn_wide.2 HT).mono ?_⟩
      rintro e w1 ⟨rfl, h1⟩
      obtain ⟨fn, tmps, assign, body, hy, hR⟩ := hY pre (b, q) w1 (lone _ _ _ hj h1) (by omega)
      gi_wp2
      refine ⟨fun h => (by cases h), hR.mono ?_⟩
      rintro e W3 ⟨rfl, hj3, hb3⟩
      have hbr3 : Boxed W3 bs 9 (.string ⟨r.toArray⟩) := hb3.trans ((h1.block _ (Array.getElem?_eq_some_iff.1 hbr).1).trans hbr)
      have hc3 := hbr3.cell
      have hf3 := hbr3.frozen
      gi_wp2
      gi_roundg q.length
      case measure => omega
      case rel => exact ⟨pre ++ [(b, q)], q, rfl, hbr3.set _, cell _ _ _ hj3, by rw [List.length_append]; simp; omega, HL, HA⟩
end Go.Proofs.Ytcekecpbjmfbhaa
