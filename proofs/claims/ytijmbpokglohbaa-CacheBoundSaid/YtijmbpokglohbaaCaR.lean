/-
  Layer 18's arguments that came in: sets, operations, slices of them.
-/
import Derived.Test.YtijmbpokglohbaaRd
import Derived.Test.YtijmbpokglohbaaCaN
namespace Go.Proofs.Ytijmbpokglohbaa
open Go.ChangeShapes Go.WideShapes Go.ChangeAt Go.RowKit
set_option linter.unusedSimpArgs false
set_option linter.unusedVariables false
theorem cell_ltC {w : World} {a : Addr} {v : Value} (h : w.cell? a = some v) : a.block < w.heap.size ∧ a.spot = none := by
  unfold World.cell? at h
  split at h
  · rename_i c e f hb
    refine ⟨blk_lt hb, ?_⟩
    split at h
    · cases h
    · rename_i hs; simpa using hs
  · cases h
theorem add_offC (g o n : Nat) : (⟨g, o, none⟩ : Addr).add n = ⟨g, o + n, none⟩ := by cases n <;> simp [Addr.add]
abbrev SetTy : Ty := .st (.cons .str (.cons (.int .i64) (.cons (.int .i64) (.cons (.slice .str) .fin))))
abbrev OpeTy : Ty := .st (.cons (.int .i64) (.cons SetTy (.cons (.int .i64) (.cons (.int .i64) .fin))))
abbrev PutsTy : Ty := .st (.cons SetTy (.cons (.int .i64) (.cons (.int .i64) (.cons (.int .i64) (.cons (.int .i64) .fin)))))
theorem sr_cs {w : World} {cs : List Value} (h : Reads w (.slice .str) cs) : ∃ ao cap, ∃ L : List Bs, cs = [.slice ao L.length cap] ∧ SR w ao L ∧ L.length ≤ maxLen := by
  simp only [Reads] at h
  rcases h with h | ⟨a, len, cap, h, hl, hm, hel⟩
  · exact ⟨none, 0, [], h, .inl rfl, by simp [maxLen]⟩
  · obtain ⟨ss, hs1, hs2⟩ := reads_list (α := Bs) (e := .str) (f := fun s => [Value.string ⟨s.toArray⟩]) (fun cs hc => by
      obtain ⟨⟨⟨s⟩⟩, rfl, hs⟩ := hc
      exact ⟨s, rfl⟩) hel
    refine ⟨some a, cap, ss, by rw [h, hs1], ?_, by omega⟩
    have h3 : Ty.cells .str = 1 := rfl
    rw [h3] at hs2
    cases ss with
    | nil => exact .inl rfl
    | cons x0 ss =>
      have h0 := hs2 0 x0 rfl 0 _ rfl
      obtain ⟨g1, g2⟩ := cell_ltC h0
      obtain ⟨g, o, sp⟩ := a
      have g3 : sp = none := by simpa [Addr.add] using g2
      subst g3
      rw [add_offC] at g1
      refine .inr ⟨g, o, rfl, g1, fun i x hx => ?_⟩
      have := hs2 i x hx 0 _ rfl
      rw [add_offC] at this
      simpa using this
theorem set_cs {w : World} {cs : List Value} (h : Reads w SetTy cs) : ∃ (s : St) (ao : Option Addr) (cap : Nat), cs = [.string ⟨s.nm.toArray⟩, .int .i64 s.ty, .int .i64 s.tl, .slice ao s.dt.length cap] ∧ SR w ao s.dt ∧ (Lit.int .i64 s.ty).wf = true := by
  have k0 : Reads w (.cons .str _) cs := h
  obtain ⟨e0, r0, rfl, f0, k1⟩ := k0
  obtain ⟨⟨⟨nm⟩⟩, rfl, _⟩ := f0
  obtain ⟨e1, r1, rfl, f1, k2⟩ := k1
  obtain ⟨ty, rfl, hty⟩ := f1
  obtain ⟨e2, r2, rfl, f2, k3⟩ := k2
  obtain ⟨tl, rfl, _⟩ := f2
  obtain ⟨e3, r3, rfl, f3, k4⟩ := k3
  obtain ⟨ao, cap, L, rfl, hS, hl⟩ := sr_cs f3
  have k5 : r3 = [] := k4
  subst k5
  refine ⟨⟨nm, ty, tl, L⟩, ao, cap, rfl, hS, ?_⟩
  simp only [Lit.wf, Bool.and_eq_true, decide_eq_true_eq]
  exact hty
theorem ope_cs {w : World} {cs : List Value} (h : Reads w OpeTy cs) : ∃ x : OpE, cs = x.cells ∧ OpE.ok w x := by
  have k0 : Reads w (.cons (.int .i64) _) cs := h
  obtain ⟨e0, r0, rfl, f0, k1⟩ := k0
  obtain ⟨dO, rfl, _⟩ := f0
  obtain ⟨e1, r1, rfl, f1, k2⟩ := k1
  obtain ⟨s, ao, cap, rfl, hS, hty⟩ := set_cs f1
  obtain ⟨e2, r2, rfl, f2, k3⟩ := k2
  obtain ⟨rk, rfl, _⟩ := f2
  obtain ⟨e3, r3, rfl, f3, k4⟩ := k3
  obtain ⟨now, rfl, _⟩ := f3
  have k5 : r3 = [] := k4
  subst k5
  exact ⟨⟨dO, s, ao, cap, rk, now⟩, rfl, hS, hty⟩
theorem ope_arg {w : World} {cs : Array Value} (h : Reads w OpeTy (Value.agg cs).cells.toList) : ∃ x : OpE, cs = x.cells.toArray ∧ OpE.ok w x := by
  obtain ⟨x, h1, h2⟩ := ope_cs h
  exact ⟨x, by rw [← h1]; cases cs; simp [Value.cells], h2⟩
theorem set_arg {w : World} {cs : Array Value} (h : Reads w SetTy (Value.agg cs).cells.toList) : ∃ (s : St) (ao : Option Addr) (cap : Nat), cs = #[.string ⟨s.nm.toArray⟩, .int .i64 s.ty, .int .i64 s.tl, .slice ao s.dt.length cap] ∧ SR w ao s.dt ∧ (Lit.int .i64 s.ty).wf = true := by
  obtain ⟨s, ao, cap, h1, h2⟩ := set_cs h
  exact ⟨s, ao, cap, by rw [show (#[.string ⟨s.nm.toArray⟩, .int .i64 s.ty, .int .i64 s.tl, .slice ao s.dt.length cap] : Array Value) = List.toArray [.string ⟨s.nm.toArray⟩, .int .i64 s.ty, .int .i64 s.tl, .slice ao s.dt.length cap] from rfl, ← h1]; cases cs; simp [Value.cells], h2⟩
theorem puts_arg {w : World} {cs : Array Value} (h : Reads w PutsTy (Value.agg cs).cells.toList) : ∃ (s : St) (ao : Option Addr) (cap : Nat) (rk most now later : Int), cs = #[.string ⟨s.nm.toArray⟩, .int .i64 s.ty, .int .i64 s.tl, .slice ao s.dt.length cap, .int .i64 rk, .int .i64 most, .int .i64 now, .int .i64 later] ∧ SR w ao s.dt ∧ (Lit.int .i64 s.ty).wf = true := by
  have k0 : Reads w (.cons SetTy _) (Value.agg cs).cells.toList := h
  obtain ⟨e0, r0, hcs, f0, k1⟩ := k0
  obtain ⟨s, ao, cap, rfl, hS, hty⟩ := set_cs f0
  obtain ⟨e1, r1, rfl, f1, k2⟩ := k1
  obtain ⟨rk, rfl, _⟩ := f1
  obtain ⟨e2, r2, rfl, f2, k3⟩ := k2
  obtain ⟨most, rfl, _⟩ := f2
  obtain ⟨e3, r3, rfl, f3, k4⟩ := k3
  obtain ⟨now, rfl, _⟩ := f3
  obtain ⟨e4, r4, rfl, f4, k5⟩ := k4
  obtain ⟨later, rfl, _⟩ := f4
  have k6 : r4 = [] := k5
  subst k6
  exact ⟨s, ao, cap, rk, most, now, later, by
    have h9 : cs.toList = _ := (show cs.toList = (Value.agg cs).cells.toList by simp [Value.cells]).trans hcs
    cases cs
    simp only at h9
    rw [h9]; rfl, hS, hty⟩
/-- a slice of operations that came in -/
def OpeR (w : World) (ao : Option Addr) (xs : List OpE) : Prop := xs = [] ∨ ∃ g o, ao = some ⟨g, o, none⟩ ∧ g < w.heap.size ∧ ∀ (i : Nat) x, xs[i]? = some x → OpE.ok w x ∧ w.cell? ⟨g, o + i * 7, none⟩ = some (.int .i64 x.dO) ∧ w.cell? ⟨g, o + i * 7 + 1, none⟩ = some (.string ⟨x.s.nm.toArray⟩) ∧ w.cell? ⟨g, o + i * 7 + 2, none⟩ = some (.int .i64 x.s.ty) ∧
  w.cell? ⟨g, o + i * 7 + 3, none⟩ = some (.int .i64 x.s.tl) ∧ w.cell? ⟨g, o + i * 7 + 4, none⟩ = some (.slice x.ao x.s.dt.length x.cap) ∧ w.cell? ⟨g, o + i * 7 + 5, none⟩ = some (.int .i64 x.rk) ∧ w.cell? ⟨g, o + i * 7 + 6, none⟩ = some (.int .i64 x.now)
theorem OpeR.some {w : World} {ao : Option Addr} {xs : List OpE} (h : OpeR w ao xs) {i : Nat} {x : OpE} (hk : xs[i]? = some x) : ∃ g o, ao = some ⟨g, o, none⟩ ∧ g < w.heap.size ∧ OpE.ok w x ∧ w.cell? ⟨g, o + i * 7, none⟩ = some (.int .i64 x.dO) ∧ w.cell? ⟨g, o + i * 7 + 1, none⟩ = some (.string ⟨x.s.nm.toArray⟩) ∧ w.cell? ⟨g, o + i * 7 + 2, none⟩ = some (.int .i64 x.s.ty) ∧
  w.cell? ⟨g, o + i * 7 + 3, none⟩ = some (.int .i64 x.s.tl) ∧ w.cell? ⟨g, o + i * 7 + 4, none⟩ = some (.slice x.ao x.s.dt.length x.cap) ∧ w.cell? ⟨g, o + i * 7 + 5, none⟩ = some (.int .i64 x.rk) ∧ w.cell? ⟨g, o + i * 7 + 6, none⟩ = some (.int .i64 x.now) := by
  rcases h with rfl | ⟨g, o, h1, h2, h3⟩
  · simp at hk
  · exact ⟨g, o, h1, h2, h3 i x hk⟩
theorem OpeR.up {w w' : World} {ao : Option Addr} {xs : List OpE} (h : OpeR w ao xs) (k : Upd0 w w') : OpeR w' ao xs := by
  rcases h with rfl | ⟨g, o, h1, h2, h3⟩
  · exact .inl rfl
  · refine .inr ⟨g, o, h1, Nat.lt_of_lt_of_le h2 k.size, fun i x hx => ?_⟩
    obtain ⟨⟨a, b⟩, c0, c1, c2, c3, c4, c5, c6⟩ := h3 i x hx
    exact ⟨⟨a.up k, b⟩, k.cell (fun h => h) c0, k.cell (fun h => h) c1, k.cell (fun h => h) c2, k.cell (fun h => h) c3, k.cell (fun h => h) c4, k.cell (fun h => h) c5, k.cell (fun h => h) c6⟩
theorem oper_of {w : World} {v : Value} (hv : ∃ a len cap, v = .slice a len cap) (h : Reads w (.slice OpeTy) v.cells.toList) : ∃ ao cap, ∃ xs : List OpE, v = .slice ao xs.length cap ∧ OpeR w ao xs ∧ xs.length ≤ maxLen := by
  obtain ⟨a0, l0, c0, rfl⟩ := hv
  have h : Reads w (.slice OpeTy) [.slice a0 l0 c0] := by simpa [Value.cells] using h
  unfold Reads at h
  rcases h with h | ⟨a, len, cap, h, hl, hm, hel⟩
  · refine ⟨none, 0, [], ?_, .inl rfl, by simp [maxLen]⟩
    simpa using h
  · have hv : Value.slice a0 l0 c0 = .slice (some a) len cap := by simpa using h
    obtain ⟨ss, hs1, hs2⟩ := reads_list (α := { x : OpE // OpE.ok w x }) (e := OpeTy) (f := fun s => s.1.cells) (fun cs hc => by
      obtain ⟨x, rfl, hx⟩ := ope_cs hc
      exact ⟨⟨x, hx⟩, rfl⟩) hel
    refine ⟨some a, cap, ss.map (·.1), by rw [hv, List.length_map, hs1], ?_, by rw [List.length_map]; omega⟩
    have h3 : OpeTy.cells = 7 := rfl
    rw [h3] at hs2
    cases ss with
    | nil => exact .inl rfl
    | cons x0 ss =>
      have h0 := hs2 0 x0 rfl 0 _ rfl
      obtain ⟨g1, g2⟩ := cell_ltC h0
      obtain ⟨g, o, sp⟩ := a
      have g3 : sp = none := by simpa [Addr.add] using g2
      subst g3
      rw [add_offC] at g1
      refine .inr ⟨g, o, rfl, g1, fun i x hx => ?_⟩
      rw [List.getElem?_map] at hx
      obtain ⟨x, hx', rfl⟩ := Option.map_eq_some_iff.1 hx
      refine ⟨x.2, ?_, ?_, ?_, ?_, ?_, ?_, ?_⟩
      · have := hs2 i x hx' 0 _ rfl; rw [add_offC] at this; exact this
      · have := hs2 i x hx' 1 _ rfl; rw [add_offC] at this; exact this
      · have := hs2 i x hx' 2 _ rfl; rw [add_offC] at this; exact this
      · have := hs2 i x hx' 3 _ rfl; rw [add_offC] at this; exact this
      · have := hs2 i x hx' 4 _ rfl; rw [add_offC] at this; exact this
      · have := hs2 i x hx' 5 _ rfl; rw [add_offC] at this; exact this
      · have := hs2 i x hx' 6 _ rfl; rw [add_offC] at this; exact this
end Go.Proofs.Ytijmbpokglohbaa
