/- Texts that belong together, in one. -/
import Derived.Test.YtcgkkjfbdappoaaGreatBase
/- What a well formed number is. -/
namespace Go.Proofs.YtcgkkjfbdappoaaGreat
open Go.RowKit

theorem u64_of {a : Int} (h : (Lit.int .u64 a).wf = true) : ∃ n : Nat, a = (n : Int) ∧ n < 18446744073709551616 := by
  have b : 0 ≤ a ∧ a ≤ 18446744073709551615 := by simpa [Lit.wf, IntKind.min, IntKind.max, IntKind.signed, IntKind.bits] using h
  obtain ⟨n, rfl⟩ := Int.eq_ofNat_of_zero_le b.1
  exact ⟨n, rfl, by omega⟩
theorem u8_of {a : Int} (h : (Lit.int .u8 a).wf = true) : ∃ n : Nat, a = (n : Int) ∧ n < 256 := by
  have b : 0 ≤ a ∧ a ≤ 255 := by simpa [Lit.wf, IntKind.min, IntKind.max, IntKind.signed, IntKind.bits] using h
  obtain ⟨n, rfl⟩ := Int.eq_ofNat_of_zero_le b.1
  exact ⟨n, rfl, by omega⟩
theorem u16_of {a : Int} (h : (Lit.int .u16 a).wf = true) : ∃ n : Nat, a = (n : Int) ∧ n < 65536 := by
  have b : 0 ≤ a ∧ a ≤ 65535 := by simpa [Lit.wf, IntKind.min, IntKind.max, IntKind.signed, IntKind.bits] using h
  obtain ⟨n, rfl⟩ := Int.eq_ofNat_of_zero_le b.1
  exact ⟨n, rfl, by omega⟩
theorem u32_of {a : Int} (h : (Lit.int .u32 a).wf = true) : ∃ n : Nat, a = (n : Int) ∧ n < 4294967296 := by
  have b : 0 ≤ a ∧ a ≤ 4294967295 := by simpa [Lit.wf, IntKind.min, IntKind.max, IntKind.signed, IntKind.bits] using h
  obtain ⟨n, rfl⟩ := Int.eq_ofNat_of_zero_le b.1
  exact ⟨n, rfl, by omega⟩
theorem i64_of {a : Int} (h : (Lit.int .i64 a).wf = true) : -9223372036854775808 ≤ a ∧ a ≤ 9223372036854775807 := by
  simpa [Lit.wf, IntKind.min, IntKind.max, IntKind.signed, IntKind.bits] using h

/-- Behind a call that made memory all that was there reads as it did. -/
theorem bcell {W w1 : World} (hb : Below W.heap.size W w1) : (∀ b o, b < W.heap.size → w1.cell? ⟨b, o, none⟩ = W.cell? ⟨b, o, none⟩) ∧ (∀ b o, b < W.heap.size → w1.frozen? ⟨b, o, none⟩ = W.frozen? ⟨b, o, none⟩) :=
  ⟨fun b o h => hb.cell (p := ⟨b, o, none⟩) h, fun b o h => hb.frozen (p := ⟨b, o, none⟩) h⟩
end Go.Proofs.YtcgkkjfbdappoaaGreat

/- The world as it stands, under one name. -/
namespace Go.Proofs.YtcgkkjfbdappoaaGreat
open Go.RowKit
theorem world_gen {P : Program} {c : Code} {Q : Exit → Act → World → Prop} {a : Act} {w : World} (F : World → Prop) (hF : F w) (h : ∀ W, F W → c.wp P Q a W) : c.wp P Q a w := h w hF
theorem world_gen_calls {P : Program} {f : FuncId} {args : Array Value} {Q : Ending → World → Prop} {w : World} (F : World → Prop) (hF : F w) (h : ∀ W, F W → Calls P f args W Q) : Calls P f args w Q := h w hF
end Go.Proofs.YtcgkkjfbdappoaaGreat

/- Blocks that are held, as a list: kept by whatever goes on from a world. -/
namespace Go.Proofs.YtcgkkjfbdappoaaGreat
open Go.RowKit Go.Proofs.YtcgkkjfbdappoaaGreatW.PrintWords Go.Proofs.YtcgkkjfbdappoaaGreatW.PrintLast Go.Proofs.YtcgkkjfbdappoaaGreatW.PrintMore
set_option linter.unusedVariables false
set_option linter.unusedSimpArgs false

/-- In a world that went on from another one: these blocks have these objects. -/
def Holds (w : World) (l : List (Nat × Obj)) (w' : World) : Prop := (∀ p ∈ l, w'.heap[p.1]? = some p.2) ∧ Below w.heap.size w w'
theorem Holds.get {w : World} {l : List (Nat × Obj)} {w' : World} (h : Holds w l w') (i : Nat) {b : Nat} {o : Obj} (hi : l[i]? = some (b, o)) : w'.heap[b]? = some o :=
  h.1 (b, o) (List.mem_of_getElem? hi)
theorem Holds.lt {w : World} {l : List (Nat × Obj)} {w' : World} (h : Holds w l w') (i : Nat) {b : Nat} {o : Obj} (hi : l[i]? = some (b, o)) : b < w'.heap.size :=
  (Array.getElem?_eq_some_iff.1 (h.get i hi)).1
theorem Holds.nil (w : World) : Holds w [] w := ⟨by simp, Below.refl _ _⟩
theorem Holds.call {w : World} {l : List (Nat × Obj)} {w' w'' : World} (h : Holds w l w') (hb : Below w'.heap.size w' w'') : Holds w l w'' := by
  refine ⟨fun p hp => ?_, below_step h.2 hb⟩
  have h1 := h.1 p hp
  exact (hb.block _ (Array.getElem?_eq_some_iff.1 h1).1).trans h1
theorem Holds.alloc {w : World} {l : List (Nat × Obj)} {w' : World} (h : Holds w l w') (o : Obj) : Holds w ((w'.heap.size, o) :: l) (w'.alloc o) := by
  refine ⟨fun p hp => ?_, h.2.alloc h.2.size _⟩
  rcases List.mem_cons.1 hp with rfl | hp
  · exact heap_alloc_new _ _
  · have h1 := h.1 p hp
    rw [heap_alloc_old _ _ (Array.getElem?_eq_some_iff.1 h1).1]; exact h1
theorem Holds.drew {w : World} {l : List (Nat × Obj)} {w' : World} (h : Holds w l w') : Holds w l w'.drew := ⟨h.1, h.2.drew⟩
/-- A new row, with a value laid in. -/
theorem Holds.made {w : World} {l : List (Nat × Obj)} {w' : World} (h : Holds w l w') (old cs : Array Value) (t : TypeId) : Holds w ((w'.heap.size, .cells cs t (0, 0)) :: l) ((w'.alloc (.cells old t (0, 0))).setRow w'.heap.size cs) := by
  refine ⟨fun p hp => ?_, below_setRow (h.2.alloc h.2.size _) h.2.size _⟩
  rcases List.mem_cons.1 hp with rfl | hp
  · exact setRow_heap _ _ _ _ _ _ (heap_alloc_new _ _)
  · have h1 := h.1 p hp
    have hlt := (Array.getElem?_eq_some_iff.1 h1).1
    have h2 := heap_alloc_old w' (.cells old t (0, 0)) hlt
    have h3 : (((w'.alloc (.cells old t (0, 0))).setRow w'.heap.size cs)).heap[p.1]? = (w'.alloc (.cells old t (0, 0))).heap[p.1]? := by
      first
        | exact setRow_other _ _ _ _ (by omega)
        | (unfold World.setRow; simp; omega)
        | (unfold World.setRow; split <;> simp <;> omega)
    rw [h3, h2]; exact h1
/-- The first block of the list is laid anew, if it lies behind the begin, and no other of the list is it. -/
theorem Holds.set {w : World} {l : List (Nat × Obj)} {w' : World} {q : Nat} {old : Array Value} {t : TypeId} {fr : Nat × Nat} (h : Holds w ((q, .cells old t fr) :: l) w') (cs : Array Value) (hq : w.heap.size ≤ q) (hl : ∀ p ∈ l, p.1 ≠ q) : Holds w ((q, .cells cs t fr) :: l) (w'.setRow q cs) := by
  refine ⟨fun p hp => ?_, below_setRow h.2 hq _⟩
  rcases List.mem_cons.1 hp with rfl | hp
  · exact setRow_heap _ _ _ _ _ _ (h.get 0 rfl)
  · have h1 := h.1 p (List.mem_cons_of_mem _ hp)
    have h3 : (w'.setRow q cs).heap[p.1]? = w'.heap[p.1]? := setRow_other _ _ _ _ (hl p hp)
    rw [h3]; exact h1
/-- A block made anew, and those that are held. -/
def NewHolds (w : World) (q : Nat) (o : Obj) (l : List (Nat × Obj)) (w' : World) : Prop := Holds w ((q, o) :: l) w' ∧ w.heap.size ≤ q ∧ ∀ p ∈ l, p.1 < q
theorem Holds.fresh {w : World} {l : List (Nat × Obj)} {w' : World} (h : Holds w l w') (o : Obj) : NewHolds w w'.heap.size o l (w'.alloc o) :=
  ⟨h.alloc o, h.2.size, fun p hp => (Array.getElem?_eq_some_iff.1 (h.1 p hp)).1⟩
theorem NewHolds.call {w : World} {q : Nat} {o : Obj} {l : List (Nat × Obj)} {w' w'' : World} (h : NewHolds w q o l w') (hb : Below w'.heap.size w' w'') : NewHolds w q o l w'' := ⟨h.1.call hb, h.2⟩
theorem NewHolds.tail {w : World} {q : Nat} {o : Obj} {l : List (Nat × Obj)} {w' : World} (h : NewHolds w q o l w') : Holds w l w' := ⟨fun p hp => h.1.1 p (List.mem_cons_of_mem _ hp), h.1.2⟩
theorem NewHolds.set {w : World} {l : List (Nat × Obj)} {w' : World} {q : Nat} {old : Array Value} {t : TypeId} {fr : Nat × Nat} (h : NewHolds w q (.cells old t fr) l w') (cs : Array Value) : Holds w ((q, .cells cs t fr) :: l) (w'.setRow q cs) :=
  h.1.set cs h.2.1 (fun p hp => Nat.ne_of_lt (h.2.2 p hp))
theorem Holds.start1 (w : World) (A : Obj) : Holds w [(w.heap.size, A)] (w.alloc A) := (Holds.nil w).alloc A
theorem Holds.start2 (w : World) (A B : Obj) : Holds w [(w.heap.size + 1, B), (w.heap.size, A)] ((w.alloc A).alloc B) := by
  have h := ((Holds.nil w).alloc A).alloc B
  rw [show (w.alloc A).heap.size = w.heap.size + 1 from by simp] at h
  exact h
theorem Holds.start3 (w : World) (A B C : Obj) : Holds w [(w.heap.size + 1 + 1, C), (w.heap.size + 1, B), (w.heap.size, A)] (((w.alloc A).alloc B).alloc C) := by
  have h := (Holds.start2 w A B).alloc C
  rw [show ((w.alloc A).alloc B).heap.size = w.heap.size + 1 + 1 from by simp] at h
  exact h
theorem Holds.rest {w : World} {l : List (Nat × Obj)} {w' : World} {p : Nat × Obj} (h : Holds w (p :: l) w') : Holds w l w' := ⟨fun q hq => h.1 q (List.mem_cons_of_mem _ hq), h.2⟩
end Go.Proofs.YtcgkkjfbdappoaaGreat
