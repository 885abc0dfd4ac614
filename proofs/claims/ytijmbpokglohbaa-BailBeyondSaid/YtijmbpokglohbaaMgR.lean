/-
  A message that came in: its cells, its lists in memory.
-/
import Derived.Test.YtijmbpokglohbaaRd
import Derived.Test.YtijmbpokglohbaaKh
namespace Go.Proofs.Ytijmbpokglohbaa
open Go.ChangeShapes Go.WideShapes Go.ChangeAt Go.RowKit
set_option linter.unusedSimpArgs false
set_option linter.unusedVariables false
theorem cell_ltM {w : World} {a : Addr} {v : Value} (h : w.cell? a = some v) : a.block < w.heap.size ∧ a.spot = none := by
  unfold World.cell? at h
  split at h
  · rename_i c e f hb
    refine ⟨blk_lt hb, ?_⟩
    split at h
    · cases h
    · rename_i hs; simpa using hs
  · cases h
theorem add_offM (g o n : Nat) : (⟨g, o, none⟩ : Addr).add n = ⟨g, o + n, none⟩ := by cases n <;> simp [Addr.add]
abbrev QnTy : Ty := .st (.cons .str (.cons (.int .i64) .fin))
abbrev RcTy : Ty := .st (.cons .str (.cons (.int .i64) (.cons (.int .i64) (.cons .str .fin))))
abbrev MsgTy : Ty := .st (.cons (.int .i64) (.cons .bool (.cons (.int .i64) (.cons .bool (.cons .bool (.cons .bool (.cons .bool (.cons (.int .i64) (.cons (.slice QnTy) (.cons (.slice RcTy) (.cons (.slice RcTy) (.cons (.slice RcTy) (.cons (.int .i64) .fin)))))))))))))
theorem qsr_of {w : World} {cs : List Value} (h : Reads w (.slice QnTy) cs) : ∃ ao cap, ∃ xs : List Qn, cs = [.slice ao xs.length cap] ∧ QsR w ao xs ∧ xs.length ≤ maxLen := by
  simp only [Reads] at h
  rcases h with h | ⟨a, len, cap, h, hl, hm, hel⟩
  · exact ⟨none, 0, [], h, .inl rfl, by simp [maxLen]⟩
  · obtain ⟨ss, hs1, hs2⟩ := reads_list (α := Qn) (e := QnTy) (f := fun s => s.cells) (fun cs hc => by
      simp only [Reads] at hc
      obtain ⟨_, _, rfl, ⟨⟨⟨q⟩⟩, rfl, _⟩, _, _, rfl, ⟨y, rfl, _⟩, rfl⟩ := hc
      exact ⟨⟨q, y⟩, rfl⟩) hel
    refine ⟨some a, cap, ss, by rw [h, hs1], ?_, by omega⟩
    have h3 : QnTy.cells = 2 := rfl
    rw [h3] at hs2
    cases ss with
    | nil => exact .inl rfl
    | cons x0 ss =>
      have h0 := hs2 0 x0 rfl 0 _ rfl
      obtain ⟨g1, g2⟩ := cell_ltM h0
      obtain ⟨g, o, sp⟩ := a
      have g3 : sp = none := by simpa [Addr.add] using g2
      subst g3
      rw [add_offM] at g1
      refine .inr ⟨g, o, rfl, g1, fun i x hx => ?_⟩
      refine ⟨?_, ?_⟩
      · have := hs2 i x hx 0 _ rfl; rw [add_offM] at this; exact this
      · have := hs2 i x hx 1 _ rfl; rw [add_offM] at this; exact this
theorem rsr_of {w : World} {cs : List Value} (h : Reads w (.slice RcTy) cs) : ∃ ao cap, ∃ xs : List Rc, cs = [.slice ao xs.length cap] ∧ RsR w ao xs ∧ xs.length ≤ maxLen := by
  simp only [Reads] at h
  rcases h with h | ⟨a, len, cap, h, hl, hm, hel⟩
  · exact ⟨none, 0, [], h, .inl rfl, by simp [maxLen]⟩
  · obtain ⟨ss, hs1, hs2⟩ := reads_list (α := Rc) (e := RcTy) (f := fun s => s.cells) (fun cs hc => by
      simp only [Reads] at hc
      obtain ⟨_, _, rfl, ⟨⟨⟨q⟩⟩, rfl, _⟩, _, _, rfl, ⟨y, rfl, _⟩, _, _, rfl, ⟨t, rfl, _⟩, _, _, rfl, ⟨⟨⟨d⟩⟩, rfl, _⟩, rfl⟩ := hc
      exact ⟨⟨q, y, t, d⟩, rfl⟩) hel
    refine ⟨some a, cap, ss, by rw [h, hs1], ?_, by omega⟩
    have h3 : RcTy.cells = 4 := rfl
    rw [h3] at hs2
    cases ss with
    | nil => exact .inl rfl
    | cons x0 ss =>
      have h0 := hs2 0 x0 rfl 0 _ rfl
      obtain ⟨g1, g2⟩ := cell_ltM h0
      obtain ⟨g, o, sp⟩ := a
      have g3 : sp = none := by simpa [Addr.add] using g2
      subst g3
      rw [add_offM] at g1
      refine .inr ⟨g, o, rfl, g1, fun i x hx => ?_⟩
      refine ⟨?_, ?_, ?_, ?_⟩
      · have := hs2 i x hx 0 _ rfl; rw [add_offM] at this; exact this
      · have := hs2 i x hx 1 _ rfl; rw [add_offM] at this; exact this
      · have := hs2 i x hx 2 _ rfl; rw [add_offM] at this; exact this
      · have := hs2 i x hx 3 _ rfl; rw [add_offM] at this; exact this
/-- a slice of records as an argument -/
theorem rsr_arg {w : World} {v : Value} (hv : ∃ a len cap, v = .slice a len cap) (h : Reads w (.slice RcTy) v.cells.toList) : ∃ ao cap, ∃ xs : List Rc, v = .slice ao xs.length cap ∧ RsR w ao xs ∧ xs.length ≤ maxLen := by
  obtain ⟨a0, l0, c0, rfl⟩ := hv
  obtain ⟨ao, cap, xs, h1, h2, h3⟩ := rsr_of h
  exact ⟨ao, cap, xs, by simpa [Value.cells] using h1, h2, h3⟩
def Msg.big (m : Msg) : Prop := m.qs.length ≤ maxLen ∧ m.an.length ≤ maxLen ∧ m.ns.length ≤ maxLen ∧ m.ex.length ≤ maxLen
def msgCs (m : Msg) (q a n x : Option Addr) (cq ca cn cx : Nat) : List Value := [.int .i64 m.id, .bool m.re, .int .i64 m.op, .bool m.au, .bool m.tr, .bool m.wa, .bool m.av, .int .i64 m.rc, .slice q m.qs.length cq, .slice a m.an.length ca, .slice n m.ns.length cn, .slice x m.ex.length cx, .int .i64 m.sz]
theorem msg_cs {w : World} {cs : List Value} (h : Reads w MsgTy cs) : ∃ (m : Msg) (q a n x : Option Addr) (cq ca cn cx : Nat), cs = msgCs m q a n x cq ca cn cx ∧ MsR w m q a n x ∧ m.big := by
  have k0 : Reads w (.cons (.int .i64) _) cs := h
  obtain ⟨e0, r0, rfl, f0, k1⟩ := k0
  obtain ⟨id, rfl, _⟩ := f0
  obtain ⟨e1, r1, rfl, f1, k2⟩ := k1
  obtain ⟨re, rfl⟩ := f1
  obtain ⟨e2, r2, rfl, f2, k3⟩ := k2
  obtain ⟨op, rfl, _⟩ := f2
  obtain ⟨e3, r3, rfl, f3, k4⟩ := k3
  obtain ⟨au, rfl⟩ := f3
  obtain ⟨e4, r4, rfl, f4, k5⟩ := k4
  obtain ⟨tr, rfl⟩ := f4
  obtain ⟨e5, r5, rfl, f5, k6⟩ := k5
  obtain ⟨wa, rfl⟩ := f5
  obtain ⟨e6, r6, rfl, f6, k7⟩ := k6
  obtain ⟨av, rfl⟩ := f6
  obtain ⟨e7, r7, rfl, f7, k8⟩ := k7
  obtain ⟨rc, rfl, _⟩ := f7
  obtain ⟨e8, r8, rfl, f8, k9⟩ := k8
  obtain ⟨aq, cq, qs, rfl, hq, lq⟩ := qsr_of f8
  obtain ⟨e9, r9, rfl, f9, k10⟩ := k9
  obtain ⟨aan, can, an, rfl, han, lan⟩ := rsr_of f9
  obtain ⟨e10, r10, rfl, f10, k11⟩ := k10
  obtain ⟨ans, cns, ns, rfl, hns, lns⟩ := rsr_of f10
  obtain ⟨e11, r11, rfl, f11, k12⟩ := k11
  obtain ⟨aex, cex, ex, rfl, hex, lex⟩ := rsr_of f11
  obtain ⟨e12, r12, rfl, f12, k13⟩ := k12
  obtain ⟨sz, rfl, _⟩ := f12
  have k14 : r12 = [] := k13
  subst k14
  exact ⟨⟨id, re, op, au, tr, wa, av, rc, qs, an, ns, ex, sz⟩, aq, aan, ans, aex, cq, can, cns, cex, rfl, ⟨hq, han, hns, hex⟩, ⟨lq, lan, lns, lex⟩⟩
theorem msg_arg {w : World} {cs : Array Value} (h : Reads w MsgTy (Value.agg cs).cells.toList) : ∃ (m : Msg) (q a n x : Option Addr) (cq ca cn cx : Nat), cs = (msgCs m q a n x cq ca cn cx).toArray ∧ MsR w m q a n x ∧ m.big := by
  obtain ⟨m, q, a, n, x, cq, ca, cn, cx, h1, h2⟩ := msg_cs h
  exact ⟨m, q, a, n, x, cq, ca, cn, cx, by rw [← h1]; cases cs; simp [Value.cells], h2⟩
end Go.Proofs.Ytijmbpokglohbaa
