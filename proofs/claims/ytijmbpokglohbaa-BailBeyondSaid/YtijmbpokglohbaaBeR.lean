/-
  What BailBeyond gets: a question, a message, a zone, records.
-/
import Derived.Test.YtijmbpokglohbaaMgR
namespace Go.Proofs.Ytijmbpokglohbaa
open Go.ChangeShapes Go.WideShapes Go.ChangeAt Go.RowKit
set_option linter.unusedSimpArgs false
set_option linter.unusedVariables false
abbrev MoreTy : Ty := .st (.cons QnTy (.cons MsgTy (.cons .str (.cons (.slice RcTy) .fin))))
theorem more_arg {w : World} {cs : Array Value} (h : Reads w MoreTy (Value.agg cs).cells.toList) : ∃ (n : Bs) (k : Int) (m : Msg) (q a ns x : Option Addr) (cq ca cn cx : Nat) (z : Bs) (ll : Option Addr) (cl : Nat) (l : List Rc),
    cs = #[.string ⟨n.toArray⟩, .int .i64 k, .int .i64 m.id, .bool m.re, .int .i64 m.op, .bool m.au, .bool m.tr, .bool m.wa, .bool m.av, .int .i64 m.rc, .slice q m.qs.length cq, .slice a m.an.length ca, .slice ns m.ns.length cn, .slice x m.ex.length cx, .int .i64 m.sz, .string ⟨z.toArray⟩, .slice ll l.length cl] ∧ MsR w m q a ns x ∧ m.big ∧ RsR w ll l ∧ l.length ≤ maxLen := by
  have k0 : Reads w (.cons QnTy _) (Value.agg cs).cells.toList := h
  obtain ⟨e0, r0, e, f0, k1⟩ := k0
  obtain ⟨e1, r1, rfl, f1, k2⟩ := k1
  obtain ⟨e2, r2, rfl, f2, k3⟩ := k2
  obtain ⟨e3, r3, rfl, f3, k4⟩ := k3
  have k5 : r3 = [] := k4
  subst k5
  simp only [Reads] at f0 f2
  obtain ⟨_, _, rfl, ⟨⟨⟨n⟩⟩, rfl, _⟩, _, _, rfl, ⟨k, rfl, _⟩, rfl⟩ := f0
  obtain ⟨⟨⟨z⟩⟩, rfl, _⟩ := f2
  obtain ⟨m, q, a, ns, x, cq, ca, cn, cx, rfl, hS, hb⟩ := msg_cs f1
  obtain ⟨ll, cl, l, rfl, hl, hm⟩ := rsr_of f3
  refine ⟨n, k, m, q, a, ns, x, cq, ca, cn, cx, z, ll, cl, l, ?_, hS, hb, hl, hm⟩
  cases cs
  simpa [Value.cells, msgCs] using e
end Go.Proofs.Ytijmbpokglohbaa
