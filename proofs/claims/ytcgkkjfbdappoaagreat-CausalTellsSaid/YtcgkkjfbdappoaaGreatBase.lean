/- Small words that all walks of this family use: hiding, Below, lists of bytes as strings. -/
import Derived.Test.YtcgkkjfbdappoaaGreatProg
import Derived.Below
import Derived.Deep.Draws
import Derived.Deep.AppendLies
import Derived.Maps.AppendAt
import Derived.OwnWalk
import Derived.Laws.BytesArg
import Derived.Laws.MakeOwn
import Derived.Laws.OwnMore
import Derived.Deep.OwnRows
import Derived.Tactics
import Derived.Lib.ConvBytes
import Derived.Laws.Slices
import Derived.WalkKit
import Derived.KernelRfl
import Derived.RowKit3
import Derived.Deep.LoopGhost
import Derived.Deep.QuietTactic
import Derived.BigQuiet
import Derived.WideLaws
import Derived.Deep.DeepCutAuto
import Derived.Deep.CutBlock
import Derived.Deep.RegionHeld3
import Derived.Laws.Rows
import Derived.Lib.AppendStr
import Derived.ArgAppend
import Derived.Laws.IdiomCopy
import Derived.OrdersHeld
import Derived.Laws.BitsLemmas
import Derived.RowKit
import Derived.Laws.Tables
import Derived.Laws.CopyOwn
import Derived.Great.Walk
import Derived.Test.YtcgkkjfbdappoaaGreatSlimT
namespace Go.Proofs.YtcgkkjfbdappoaaGreat
open Go.RowKit Go.Proofs.YtcgkkjfbdappoaaGreatW.PrintWords Go.Proofs.YtcgkkjfbdappoaaGreatW.PrintLast Go.Proofs.YtcgkkjfbdappoaaGreatW.PrintMore

theorem info_u8 : (Tryz.prog.info? 5).map (fun i => (i.zero, i.size, i.bytes)) = some (some (.int .u8 0), 1, 1) := by kernel_rfl

/-- A fact that the walk must not use as a rule. -/
structure Hd (p : Prop) : Prop where mk :: (out : p)


section
variable {P : Program} {ops : Array Oper} {rest : List Oper} {o : Oper} {a : Act} {Q : Exit → Act → World → Prop} {w : World}
/-- The operation lays a new variable of this type. -/
theorem gate_alloc {t : TypeId} (_ho : o.op = .alloc t) (h : wpList P ops Q (o :: rest) a w) : wpList P ops Q (o :: rest) a w := h
/-- The operation loads a variable of this type. -/
theorem gate_load {t : TypeId} {x : Operand} (_ho : o.op = .load t x) (h : wpList P ops Q (o :: rest) a w) : wpList P ops Q (o :: rest) a w := h
/-- The operation stores a value of this type. -/
theorem gate_store {t : TypeId} {x y : Operand} (_ho : o.op = .store t x y) (h : wpList P ops Q (o :: rest) a w) : wpList P ops Q (o :: rest) a w := h
end
set_option linter.unusedVariables false
section
variable {P : Program} {md : Region.Mode} {ops : Array Oper} {Q : Exit → Act → World → Prop} {S : World → Prop} {ds : List Nat}
theorem st_ (n : Nat) {id : Nat} {a : Act} {w : World} {l : Array Bool} (hS : S w.drew) (h : S w.drew → wpAnyLast P .any ops Q S ds n l a w.drew) (hm : P.follows .mixedOrders = true := by kernel_rfl) (hn : ops.size = n := by exact rfl)
    (hl : Array.replicate n false = l := by (simp only [Array.replicate_succ, Array.replicate_zero, List.push_toArray, List.nil_append, List.cons_append]; rfl)) : (Code.region id ops true).wp P Q a w := start_ l hm hn hl hS h
/-- The steps of a drawn region, said shortly: what each must show by reckoning is shown by itself. -/
theorem pu_ (i : Nat) (N : Option Tmp) {oi : Oper} {v : Value} {fuel : Nat} {l l' : Array Bool} {a a' : Act} {w : World} (h : wpAnyLast P md ops Q S ds fuel l' a' w)
    (hi : ops[i]? = some oi := by exact rfl) (hN : oi.dst = N := by exact rfl) (hl : l.setIfInBounds i true = l' := by (simp only [List.setIfInBounds_toArray, List.set_cons_zero, List.set_cons_succ]; rfl)) (hc : anyB md ops l l' i = true := by kernel_rfl)
    (hQ : ∀ c a w, Q (.panic c) (a.put oi.dst v) w → Q (.panic c) a w := by exact fun _ _ _ h => h) (hw : Region.wanted oi (yielded ops a.tmps) = true := by exact rfl)
    (hy : ∀ w_, (execOp a.eval oi).run P w_ = .ok (.value v) w_ := by (intro w_; go_simp; try with_reducible rfl)) (ha : a.put N v = a' := by (simp only [Act.put, List.setIfInBounds_toArray, List.set_cons_zero, List.set_cons_succ]; rfl)) :
    wpAnyLast P md ops Q S ds (fuel + 1) l a w := pure_ l' hi hN hc hQ (Or.inl ⟨hw, hy⟩) ha h
/-- Its guard is off. -/
theorem po_ (i : Nat) (N : Option Tmp) {oi : Oper} {fuel : Nat} {l l' : Array Bool} {a a' : Act} {w : World} (h : wpAnyLast P md ops Q S ds fuel l' a' w)
    (hi : ops[i]? = some oi := by exact rfl) (hN : oi.dst = N := by exact rfl) (hl : l.setIfInBounds i true = l' := by (simp only [List.setIfInBounds_toArray, List.set_cons_zero, List.set_cons_succ]; rfl)) (hc : anyB md ops l l' i = true := by kernel_rfl)
    (hQ : ∀ c a w, Q (.panic c) (a.put oi.dst undef) w → Q (.panic c) a w := by exact fun _ _ _ h => h) (hw : Region.wanted oi (yielded ops a.tmps) = false := by exact rfl)
    (ha : a.put N undef = a' := by (simp only [Act.put, List.setIfInBounds_toArray, List.set_cons_zero, List.set_cons_succ]; rfl)) :
    wpAnyLast P md ops Q S ds (fuel + 1) l a w := pure_ l' hi hN hc hQ (Or.inr ⟨hw, rfl⟩) ha h
theorem tk_ (i : Nat) (N : Option Tmp) {oi : Oper} (v : Value) {fuel : Nat} {l l' : Array Bool} {a a' : Act} {w : World} (hi : ops[i]? = some oi) (hp : ∀ w, S w → (execOp a.eval oi).run P w = .ok (.value v) w) (hS : S w) (h : wpAnyLast P md ops Q S ds fuel l' a' w)
    (hN : oi.dst = N := by exact rfl) (hl : l.setIfInBounds i true = l' := by (simp only [List.setIfInBounds_toArray, List.set_cons_zero, List.set_cons_succ]; rfl)) (hc : takeB md ops ds l l' i = true := by kernel_rfl)
    (hQ : ∀ c a w, Q (.panic c) (a.put oi.dst v) w → Q (.panic c) a w := by exact fun _ _ _ h => h) (hw : Region.wanted oi (yielded ops a.tmps) = true := by exact rfl)
    (ha : a.put N v = a' := by (simp only [Act.put, List.setIfInBounds_toArray, List.set_cons_zero, List.set_cons_succ]; rfl)) :
    wpAnyLast P md ops Q S ds (fuel + 1) l a w := take_ l' hi hN hc hQ (Or.inl ⟨hw, hp⟩) hS ha h
/-- A call of a Go function whose contract holds in every world. -/
theorem cb_ (i : Nat) (N : Option Tmp) {oi : Oper} {f : FuncId} {fn : Func} {args : Array Value} {v : Value} {xs : Array Operand} {ts : Array TypeId} {fuel : Nat} {l l' : Array Bool} {a a' : Act} {w : World} (hf : P.funcs[f]? = some fn)
    (H : Hd (∀ w, Calls P f args w fun e w' => e = .returned v ∧ Below w.heap.size w w')) (hS : ∀ wr, Below w.heap.size w wr → S wr) (h : ∀ wr, S wr → wpAnyLast P md ops Q S ds fuel l' a' wr)
    (hi : ops[i]? = some oi := by exact rfl) (hN : oi.dst = N := by exact rfl) (hl : l.setIfInBounds i true = l' := by (simp only [List.setIfInBounds_toArray, List.set_cons_zero, List.set_cons_succ]; rfl)) (hc : readyB md ops l l' i = true := by kernel_rfl) (hd : i ∉ ds := by decide)
    (hname : (fn.name == "runtime.NumGoroutine") = false := by kernel_rfl) (hb : fn.body.isSome = true := by exact rfl) (hw : Region.wanted oi (yielded ops a.tmps) = true := by exact rfl)
    (hop : oi.op = .call { callee := .value (.func f), args := xs, argTypes := ts } := by exact rfl) (hargs : xs.map a.eval = args := by ((try simp only [List.map_toArray, List.map_cons, List.map_nil]); first | done | rfl))
    (ha : a.put N v = a' := by (simp only [Act.put, List.setIfInBounds_toArray, List.set_cons_zero, List.set_cons_succ]; rfl)) :
    wpAnyLast P md ops Q S ds (fuel + 1) l a w := by
  subst ha
  exact one_ l' hi hN hc hd fun K hK => goes_ hf hname hb args hw hN hop hargs ((H.out w).mono fun e w' ⟨he, hb⟩ => ⟨v, he, hK.out _ _ (hS w' hb) (fun hs => h w' hs)⟩)
end
end Go.Proofs.YtcgkkjfbdappoaaGreat
