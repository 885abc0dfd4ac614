/-
  A slice of denials' operations that came in.
-/
import Derived.Test.YtdjleplefbmjbaaRd
import Derived.Test.YtdjleplefbmjbaaDnL
namespace Go.Proofs.Ytdjleplefbmjbaa
open Go.ChangeShapes Go.WideShapes Go.ChangeAt Go.RowKit
set_option linter.unusedSimpArgs false
set_option linter.unusedVariables false
theorem cell_lt {w : World} {a : Addr} {v : Value} (h : w.cell? a = some v) : a.block < w.heap.size ∧ a.spot = none := by
  unfold World.cell? at h
  split at h
  · rename_i c e f hb
    refine ⟨blk_lt hb, ?_⟩
    split at h
    · cases h
    · rename_i hs; simpa using hs
  · cases h
theorem add_off (g o n : Nat) : (⟨g, o, none⟩ : Addr).add n = ⟨g, o + n, none⟩ := by cases n <;> simp [Addr.add]
def OpdTy : Ty := .st (.cons (.int .i64) (.cons (.st (.cons .str (.cons (.int .i64) .fin))) (.cons (.int .i64) (.cons (.st (.cons .str (.cons (.int .i64) (.cons (.int .i64) (.cons .str .fin))))) (.cons (.int .i64) .fin)))))
def OpD.cells (x : OpD) : List Value := [.int .i64 x.dO, .string ⟨x.q.toArray⟩, .int .i64 x.ty, .int .i64 x.k, .string ⟨x.r.nm.toArray⟩, .int .i64 x.r.ty, .int .i64 x.r.tl, .string ⟨x.r.d.toArray⟩, .int .i64 x.now]
/-- a slice of operations that came in -/
def OpdR (w : World) (ao : Option Addr) (xs : List OpD) : Prop := xs = [] ∨ ∃ g o, ao = some ⟨g, o, none⟩ ∧ g < w.heap.size ∧ ∀ (i : Nat) x, xs[i]? = some x → w.cell? ⟨g, o + i * 9, none⟩ = some (.int .i64 x.dO) ∧ w.cell? ⟨g, o + i * 9 + 1, none⟩ = some (.string ⟨x.q.toArray⟩) ∧ w.cell? ⟨g, o + i * 9 + 2, none⟩ = some (.int .i64 x.ty) ∧
  w.cell? ⟨g, o + i * 9 + 3, none⟩ = some (.int .i64 x.k) ∧ w.cell? ⟨g, o + i * 9 + 4, none⟩ = some (.string ⟨x.r.nm.toArray⟩) ∧ w.cell? ⟨g, o + i * 9 + 5, none⟩ = some (.int .i64 x.r.ty) ∧ w.cell? ⟨g, o + i * 9 + 6, none⟩ = some (.int .i64 x.r.tl) ∧ w.cell? ⟨g, o + i * 9 + 7, none⟩ = some (.string ⟨x.r.d.toArray⟩) ∧ w.cell? ⟨g, o + i * 9 + 8, none⟩ = some (.int .i64 x.now)
theorem OpdR.some {w : World} {ao : Option Addr} {xs : List OpD} (h : OpdR w ao xs) {i : Nat} {x : OpD} (hk : xs[i]? = some x) : ∃ g o, ao = some ⟨g, o, none⟩ ∧ g < w.heap.size ∧ w.cell? ⟨g, o + i * 9, none⟩ = some (.int .i64 x.dO) ∧ w.cell? ⟨g, o + i * 9 + 1, none⟩ = some (.string ⟨x.q.toArray⟩) ∧ w.cell? ⟨g, o + i * 9 + 2, none⟩ = some (.int .i64 x.ty) ∧
  w.cell? ⟨g, o + i * 9 + 3, none⟩ = some (.int .i64 x.k) ∧ w.cell? ⟨g, o + i * 9 + 4, none⟩ = some (.string ⟨x.r.nm.toArray⟩) ∧ w.cell? ⟨g, o + i * 9 + 5, none⟩ = some (.int .i64 x.r.ty) ∧ w.cell? ⟨g, o + i * 9 + 6, none⟩ = some (.int .i64 x.r.tl) ∧ w.cell? ⟨g, o + i * 9 + 7, none⟩ = some (.string ⟨x.r.d.toArray⟩) ∧ w.cell? ⟨g, o + i * 9 + 8, none⟩ = some (.int .i64 x.now) := by
  rcases h with rfl | ⟨g, o, h1, h2, h3⟩
  · simp at hk
  · exact ⟨g, o, h1, h2, h3 i x hk⟩
theorem opdr_of {w : World} {v : Value} (hv : ∃ a len cap, v = .slice a len cap) (h : Reads w (.slice OpdTy) v.cells.toList) : ∃ ao cap, ∃ xs : List OpD, v = .slice ao xs.length cap ∧ OpdR w ao xs ∧ xs.length ≤ maxLen := by
  obtain ⟨a0, l0, c0, rfl⟩ := hv
  simp only [Reads] at h
  rcases h with h | ⟨a, len, cap, h, hl, hm, hel⟩
  · refine ⟨none, 0, [], ?_, .inl rfl, by simp [maxLen]⟩
    simpa [Value.cells] using h
  · have hv : Value.slice a0 l0 c0 = .slice (some a) len cap := by simpa [Value.cells] using h
    obtain ⟨ss, hs1, hs2⟩ := reads_list (α := OpD) (e := OpdTy) (f := fun s => s.cells) (fun cs hc => by
      simp only [OpdTy, Reads] at hc
      obtain ⟨_, _, rfl, ⟨d, rfl, _⟩, _, _, rfl, ⟨_, _, rfl, ⟨⟨⟨q⟩⟩, rfl, _⟩, _, _, rfl, ⟨y, rfl, _⟩, rfl⟩, _, _, rfl, ⟨k, rfl, _⟩, _, _, rfl, ⟨_, _, rfl, ⟨⟨⟨m⟩⟩, rfl, _⟩, _, _, rfl, ⟨n, rfl, _⟩, _, _, rfl, ⟨j, rfl, _⟩, _, _, rfl, ⟨⟨⟨s⟩⟩, rfl, _⟩, rfl⟩, _, _, rfl, ⟨t, rfl, ht⟩, rfl⟩ := hc
      exact ⟨⟨d, q, y, k, ⟨m, n, j, s⟩, t⟩, rfl⟩) hel
    refine ⟨some a, cap, ss, by rw [hv, hs1], ?_, by omega⟩
    have h3 : OpdTy.cells = 9 := rfl
    rw [h3] at hs2
    cases ss with
    | nil => exact .inl rfl
    | cons x0 ss =>
      have h0 := hs2 0 x0 rfl 0 _ rfl
      obtain ⟨g1, g2⟩ := cell_lt h0
      obtain ⟨g, o, sp⟩ := a
      have g3 : sp = none := by simpa [Addr.add] using g2
      subst g3
      rw [add_off] at g1
      refine .inr ⟨g, o, rfl, g1, fun i x hx => ?_⟩
      refine ⟨?_, ?_, ?_, ?_, ?_, ?_, ?_, ?_, ?_⟩
      · have := hs2 i x hx 0 _ rfl; rw [add_off] at this; exact this
      · have := hs2 i x hx 1 _ rfl; rw [add_off] at this; exact this
      · have := hs2 i x hx 2 _ rfl; rw [add_off] at this; exact this
      · have := hs2 i x hx 3 _ rfl; rw [add_off] at this; exact this
      · have := hs2 i x hx 4 _ rfl; rw [add_off] at this; exact this
      · have := hs2 i x hx 5 _ rfl; rw [add_off] at this; exact this
      · have := hs2 i x hx 6 _ rfl; rw [add_off] at this; exact this
      · have := hs2 i x hx 7 _ rfl; rw [add_off] at this; exact this
      · have := hs2 i x hx 8 _ rfl; rw [add_off] at this; exact this
end Go.Proofs.Ytdjleplefbmjbaa
