/- Messages as bytes: the plain law. -/
import Derived.Test.YtcgkkjfbdappoaaGreatCmpAll
import Derived.Test.YtcgkkjfbdappoaaGreatOpTakeAll
import Derived.Test.YtcgkkjfbdappoaaGreatVecRefA
import Derived.Test.YtcgkkjfbdappoaaGreatCauMay
namespace Go.Proofs.YtcgkkjfbdappoaaGreat
open Go.RowKit Go.Proofs.YtcgkkjfbdappoaaGreatW.PrintWords Go.Proofs.YtcgkkjfbdappoaaGreatW.PrintLast Go.Proofs.YtcgkkjfbdappoaaGreatW.PrintMore Pk
set_option linter.unusedVariables false
set_option linter.unusedSimpArgs false

theorem dc_one (m : MsgV) : (([.int .i64 m.d0, .int .i64 m.d1, .int .i64 m.d2, .int .i64 m.d3, .int .i64 m.d4, .int .i64 m.d5, .int .i64 m.d6, .int .i64 m.d7]).toArray : Array Value).all (·.oneCell') = true := by kernel_rfl
theorem oc_one (m : MsgV) : (#[.int .i64 m.t, .int .i64 m.r, .int .i64 m.k, .int .i64 m.a0, .int .i64 m.a1, .int .i64 m.i0, .int .i64 m.i1, .int .i64 m.t0, .int .i64 m.t1, .string m.nm, .string m.nw, .int .i64 m.off, .string m.dt] : Array Value).all (·.oneCell') = true := by kernel_rfl
def MsgV.opv (m : MsgV) : OpV := ⟨m.t, m.r, m.k, m.a0, m.a1, m.i0, m.i1, m.t0, m.t1, m.nm, m.nw, m.off, m.dt⟩
def mkMsg (q : Int) (x : List Int) (o : OpV) : MsgV := ⟨q, x.getD 0 0, x.getD 1 0, x.getD 2 0, x.getD 3 0, x.getD 4 0, x.getD 5 0, x.getD 6 0, x.getD 7 0, o.t, o.r, o.k, o.a0, o.a1, o.i0, o.i1, o.t0, o.t1, o.nm, o.nw, o.off, o.dt⟩
theorem mkMsg_self (m : MsgV) : mkMsg m.q m.deps m.opv = m := rfl
/-- A message as bytes. -/
def MsgV.put (m : MsgV) : ByteArray := strOfNums (num (zig m.q)) ++ putV m.deps ++ m.opv.put
/-- Whether numbers are those of the machine, and texts no longer than it bears. -/
structure MsgV.Ok (m : MsgV) : Prop where
  q : Rng m.q
  deps : Fits64 m.deps
  op : m.opv.Fine
/-- The vector with which a string begins, the rest, and whether there is none. -/
def tvT (s : ByteArray) : List Int × ByteArray × Bool :=
  match tkV s.data.toList with
  | none => (zero8, ⟨#[]⟩, true)
  | some (v, q) => (v, ⟨q.toArray⟩, false)
def toT (s : ByteArray) : OpV × ByteArray × Bool :=
  match takeO s with
  | none => (OpV.zero, ⟨#[]⟩, true)
  | some (o, q) => (o, q, false)
def tiB (s : ByteArray) : Bool := (tiT s).2.2 != 0
def z1 (s : ByteArray) : ByteArray := (tiT s).2.1
def z2 (s : ByteArray) : ByteArray := (tvT (z1 s)).2.1
def z3 (s : ByteArray) : ByteArray := (toT (z2 s)).2.1
def rawM (s : ByteArray) : MsgV := mkMsg (tiT s).1 (tvT (z1 s)).1 (toT (z2 s)).1
/-- The message with which a string begins, and what is behind it. -/
def takeM (s : ByteArray) : Option (MsgV × ByteArray) := if (tiB s || (tvT (z1 s)).2.2 || (toT (z2 s)).2.2 || !(rawM s).fine) = true then none else some (rawM s, z3 s)
theorem takeM_put {m : MsgV} (h : m.Ok) (s : ByteArray) : takeM (m.put ++ s) = if m.fine = true then some (m, s) else none := by
  have e1 : tiT (m.put ++ s) = (m.q, putV m.deps ++ (m.opv.put ++ s), 0) := by
    have := tiT_put h.q (putV m.deps ++ (m.opv.put ++ s))
    rw [← this]; congr 1; unfold MsgV.put; simp [ByteArray.append_assoc]
  have x1 : z1 (m.put ++ s) = putV m.deps ++ (m.opv.put ++ s) := by unfold z1; rw [e1]
  have b1 : tiB (m.put ++ s) = false := by unfold tiB; rw [e1]; rfl
  have e2 := tkV_put (v := m.deps) rfl h.deps (m.opv.put ++ s)
  unfold takeM
  rw [b1, x1]
  by_cases hv : mayV m.deps = true
  · rw [if_pos hv] at e2
    have t2 : tvT (putV m.deps ++ (m.opv.put ++ s)) = (m.deps, m.opv.put ++ s, false) := by unfold tvT; rw [e2]
    have x2 : z2 (m.put ++ s) = m.opv.put ++ s := by unfold z2; rw [x1, t2]
    rw [t2, x2]
    have e3 := takeO_put h.op s
    by_cases ho : m.opv.may = true
    · rw [if_pos ho] at e3
      have t3 : toT (m.opv.put ++ s) = (m.opv, s, false) := by unfold toT; rw [e3]
      have xm : rawM (m.put ++ s) = m := by unfold rawM; rw [e1, x1, t2, x2, t3]; exact mkMsg_self m
      have x3 : z3 (m.put ++ s) = s := by unfold z3; rw [x2, t3]
      rw [t3, xm, x3]
      cases m.fine <;> rfl
    · rw [if_neg ho] at e3
      have t3 : toT (m.opv.put ++ s) = (OpV.zero, ⟨#[]⟩, true) := by unfold toT; rw [e3]
      have hf : m.fine = false := by
        have : m.may = false := Bool.eq_false_iff.2 ho
        unfold MsgV.fine; rw [this]; rfl
      rw [t3, hf]; rfl
  · rw [if_neg hv] at e2
    have t2 : tvT (putV m.deps ++ (m.opv.put ++ s)) = (zero8, ⟨#[]⟩, true) := by unfold tvT; rw [e2]
    have hf : m.fine = false := by
      have : mayV m.deps = false := Bool.eq_false_iff.2 hv
      unfold MsgV.fine; rw [this]; simp
    rw [t2, hf]; rfl
end Go.Proofs.YtcgkkjfbdappoaaGreat
