/- A message that comes in, opened. -/
import Derived.Test.YtcgkkjfbdappoaaGreatOpOpen
import Derived.Test.YtcgkkjfbdappoaaGreatCauMsgP
import Derived.Test.YtcgkkjfbdappoaaGreatMsgOpen
namespace Go.Proofs.YtcgkkjfbdappoaaGreat
open Go.RowKit Go.ChangeShapes Go.WideShapes Opn Go.Proofs.YtcgkkjfbdappoaaGreatW.PrintWords
set_option linter.unusedVariables false

set_option maxRecDepth 100000 in
theorem open_msg1 {H : Type} {enc : TypeId × Value → H} {w : World} {base : Nat} {spare : Nat → Bool} {held : Bool} {r : Reach} {b0 : Nat} {v : Value} {d : DataW H} {p : List MemPlace} (hS : ∀ n ∈ d.weights Tryz.prog 41, n ≤ reachBytes)
    (hv : Value.okWide Tryz.prog w r b0 41 v) (h : DataW.Trod enc Tryz.prog w base spare held 41 v d p) : ∃ m : MsgV, v = .agg (msgC m) ∧ m.Ok := by
  obtain ⟨cs, rfl, hc⟩ := open_struct 20 _ Tryz.underlying41 leaves_msg hv h
  have hst := sized_struct 20 _ leaves_msg h hS
  obtain ⟨_, _, rfl, ⟨q, rfl, b_q⟩, h0⟩ := fit_cons hc
  obtain ⟨_, _, rfl, ⟨d0, rfl, b_d0⟩, h1⟩ := fit_cons h0
  obtain ⟨_, _, rfl, ⟨d1, rfl, b_d1⟩, h2⟩ := fit_cons h1
  obtain ⟨_, _, rfl, ⟨d2, rfl, b_d2⟩, h3⟩ := fit_cons h2
  obtain ⟨_, _, rfl, ⟨d3, rfl, b_d3⟩, h4⟩ := fit_cons h3
  obtain ⟨_, _, rfl, ⟨d4, rfl, b_d4⟩, h5⟩ := fit_cons h4
  obtain ⟨_, _, rfl, ⟨d5, rfl, b_d5⟩, h6⟩ := fit_cons h5
  obtain ⟨_, _, rfl, ⟨d6, rfl, b_d6⟩, h7⟩ := fit_cons h6
  obtain ⟨_, _, rfl, ⟨d7, rfl, b_d7⟩, h8⟩ := fit_cons h7
  obtain ⟨_, _, rfl, ⟨t, rfl, b_t⟩, h9⟩ := fit_cons h8
  obtain ⟨_, _, rfl, ⟨r, rfl, b_r⟩, h10⟩ := fit_cons h9
  obtain ⟨_, _, rfl, ⟨k, rfl, b_k⟩, h11⟩ := fit_cons h10
  obtain ⟨_, _, rfl, ⟨a0, rfl, b_a0⟩, h12⟩ := fit_cons h11
  obtain ⟨_, _, rfl, ⟨a1, rfl, b_a1⟩, h13⟩ := fit_cons h12
  obtain ⟨_, _, rfl, ⟨i0, rfl, b_i0⟩, h14⟩ := fit_cons h13
  obtain ⟨_, _, rfl, ⟨i1, rfl, b_i1⟩, h15⟩ := fit_cons h14
  obtain ⟨_, _, rfl, ⟨t0, rfl, b_t0⟩, h16⟩ := fit_cons h15
  obtain ⟨_, _, rfl, ⟨t1, rfl, b_t1⟩, h17⟩ := fit_cons h16
  obtain ⟨_, _, rfl, ⟨nm, rfl, _⟩, h18⟩ := fit_cons h17
  obtain ⟨_, _, rfl, ⟨nw, rfl, _⟩, h19⟩ := fit_cons h18
  obtain ⟨_, _, rfl, ⟨off, rfl, b_off⟩, h20⟩ := fit_cons h19
  obtain ⟨_, _, rfl, ⟨dt, rfl, _⟩, h21⟩ := fit_cons h20
  obtain rfl := fit_nil h21
  have hrb : reachBytes ≤ 140737488351232 := by decide
  have e_nm : nm.size ≤ 140737488355328 := by have := hst nm (by simp); omega
  have e_nw : nw.size ≤ 140737488355328 := by have := hst nw (by simp); omega
  have e_dt : dt.size ≤ 140737488355328 := by have := hst dt (by simp); omega
  refine ⟨⟨q, d0, d1, d2, d3, d4, d5, d6, d7, t, r, k, a0, a1, i0, i1, t0, t1, nm, nw, off, dt⟩, rfl, ⟨i64_of b_q, fun x hx => ?_, ⟨⟨i64_of b_t, i64_of b_r, i64_of b_k, i64_of b_a0, i64_of b_a1, i64_of b_i0, i64_of b_i1, i64_of b_t0, i64_of b_t1, i64_of b_off⟩, e_nm, e_nw, e_dt⟩⟩⟩
  simp only [MsgV.deps, List.mem_cons, List.not_mem_nil, or_false] at hx
  rcases hx with rfl | rfl | rfl | rfl | rfl | rfl | rfl | rfl
  · exact i64_of b_d0
  · exact i64_of b_d1
  · exact i64_of b_d2
  · exact i64_of b_d3
  · exact i64_of b_d4
  · exact i64_of b_d5
  · exact i64_of b_d6
  · exact i64_of b_d7
end Go.Proofs.YtcgkkjfbdappoaaGreat
