/-
  A slice of operations that came in.
-/
import Derived.Test.YtfhaehkofeiobaaPkR
import Derived.Test.YtfhaehkofeiobaaScriptsW
namespace Go.Proofs.Ytfhaehkofeiobaa
open Go.ChangeShapes Go.WideShapes Go.ChangeAt Go.RowKit
set_option linter.unusedSimpArgs false
set_option linter.unusedVariables false
def OpTy : Ty := .st (.cons (.int .i64) (.cons PkTy (.cons (.int .i64) .fin)))
def OpV.cells (x : OpV) : List Value := [.int .i64 x.dO, .int .i64 x.p.fr, .int .i64 x.p.to, .string x.p.by_, .int .i64 x.i]
theorem opr_of {w : World} {v : Value} (hv : ∃ a len cap, v = .slice a len cap) (h : Reads w (.slice OpTy) v.cells.toList) : ∃ ao cap, ∃ xs : List OpV, v = .slice ao xs.length cap ∧ OpR w ao xs ∧ xs.length ≤ maxLen := by
  obtain ⟨a0, l0, c0, rfl⟩ := hv
  simp only [Reads] at h
  rcases h with h | ⟨a, len, cap, h, hl, hm, hel⟩
  · refine ⟨none, 0, [], ?_, .inl rfl, by simp [maxLen]⟩
    simpa [Value.cells] using h
  · have hv : Value.slice a0 l0 c0 = .slice (some a) len cap := by simpa [Value.cells] using h
    obtain ⟨ss, hs1, hs2⟩ := reads_list (α := OpV) (e := OpTy) (f := fun s => s.cells) (fun cs hc => by
      simp only [OpTy, PkTy, Reads] at hc
      obtain ⟨_, _, rfl, ⟨d, rfl, _⟩, _, _, rfl, ⟨_, _, rfl, ⟨x, rfl, _⟩, _, _, rfl, ⟨y, rfl, _⟩, _, _, rfl, ⟨s, rfl, hs⟩, rfl⟩, _, _, rfl, ⟨i, rfl, _⟩, rfl⟩ := hc
      exact ⟨⟨d, ⟨x, y, s⟩, i⟩, rfl⟩) hel
    refine ⟨some a, cap, ss, by rw [hv, hs1], ?_, by omega⟩
    have h3 : OpTy.cells = 5 := rfl
    rw [h3] at hs2
    cases ss with
    | nil => exact .inl rfl
    | cons x0 ss =>
      have h0 := hs2 0 x0 rfl 0 _ rfl
      obtain ⟨g1, g2⟩ := cell_lt h0
      obtain ⟨g, o, sp⟩ := a
      have g3 : sp = none := by simpa [Addr.add] using g2
      subst g3
      rw [add_off] at g1
      refine .inr ⟨g, o, rfl, g1, fun i x hx => ?_⟩
      refine ⟨?_, ?_, ?_, ?_, ?_⟩
      · have := hs2 i x hx 0 _ rfl; rw [add_off] at this; exact this
      · have := hs2 i x hx 1 _ rfl; rw [add_off] at this; exact this
      · have := hs2 i x hx 2 _ rfl; rw [add_off] at this; exact this
      · have := hs2 i x hx 3 _ rfl; rw [add_off] at this; exact this
      · have := hs2 i x hx 4 _ rfl; rw [add_off] at this; exact this
end Go.Proofs.Ytfhaehkofeiobaa
