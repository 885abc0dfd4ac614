/-
  A slice of operations on timers that came in.
-/
import Derived.Test.YtkkncnffkmopbaaRd
import Derived.Test.YtkkncnffkmopbaaTmW
namespace Go.Proofs.Ytkkncnffkmopbaa
open Go.ChangeShapes Go.WideShapes Go.ChangeAt Go.RowKit
set_option linter.unusedSimpArgs false
set_option linter.unusedVariables false
theorem cell_lt {w : World} {a : Addr} {v : Value} (h : w.cell? a = some v) : a.block < w.heap.size ∧ a.spot = none := by
  unfold World.cell? at h
  split at h
  · rename_i c e f hb
    refine ⟨blk_lt hb, ?_⟩
    split at h
    · cases h
    · rename_i hs; simpa using hs
  · cases h
theorem add_off (g o n : Nat) : (⟨g, o, none⟩ : Addr).add n = ⟨g, o + n, none⟩ := by cases n <;> simp [Addr.add]
def OptTy : Ty := .st (.cons (.int .i64) (.cons .str (.cons (.int .i64) .fin)))
def OpT.cells (x : OpT) : List Value := [.int .i64 x.dO, .string ⟨x.nm.toArray⟩, .int .i64 x.at_]
theorem optr_of {w : World} {v : Value} (hv : ∃ a len cap, v = .slice a len cap) (h : Reads w (.slice OptTy) v.cells.toList) : ∃ ao cap, ∃ xs : List OpT, v = .slice ao xs.length cap ∧ OptR w ao xs ∧ xs.length ≤ maxLen := by
  obtain ⟨a0, l0, c0, rfl⟩ := hv
  simp only [Reads] at h
  rcases h with h | ⟨a, len, cap, h, hl, hm, hel⟩
  · refine ⟨none, 0, [], ?_, .inl rfl, by simp [maxLen]⟩
    simpa [Value.cells] using h
  · have hv : Value.slice a0 l0 c0 = .slice (some a) len cap := by simpa [Value.cells] using h
    obtain ⟨ss, hs1, hs2⟩ := reads_list (α := { x : OpT // x.nm.length ≤ maxLen }) (e := OptTy) (f := fun s => s.1.cells) (fun cs hc => by
      simp only [OptTy, Reads] at hc
      obtain ⟨_, _, rfl, ⟨d, rfl, _⟩, _, _, rfl, ⟨⟨⟨q⟩⟩, rfl, hq⟩, _, _, rfl, ⟨y, rfl, _⟩, rfl⟩ := hc
      exact ⟨⟨⟨d, q, y⟩, hq⟩, rfl⟩) hel
    refine ⟨some a, cap, ss.map (·.1), by rw [hv, List.length_map, hs1], ?_, by rw [List.length_map]; omega⟩
    have h3 : OptTy.cells = 3 := rfl
    rw [h3] at hs2
    cases ss with
    | nil => exact .inl rfl
    | cons x0 ss =>
      have h0 := hs2 0 x0 rfl 0 _ rfl
      obtain ⟨g1, g2⟩ := cell_lt h0
      obtain ⟨g, o, sp⟩ := a
      have g3 : sp = none := by simpa [Addr.add] using g2
      subst g3
      rw [add_off] at g1
      refine .inr ⟨g, o, rfl, g1, fun i x hx => ?_⟩
      rw [List.getElem?_map] at hx
      obtain ⟨x, hx', rfl⟩ := Option.map_eq_some_iff.1 hx
      clear hx
      have hx := hx'
      refine ⟨?_, ?_, ?_, x.2⟩
      · have := hs2 i x hx 0 _ rfl; rw [add_off] at this; exact this
      · have := hs2 i x hx 1 _ rfl; rw [add_off] at this; exact this
      · have := hs2 i x hx 2 _ rfl; rw [add_off] at this; exact this
end Go.Proofs.Ytkkncnffkmopbaa
