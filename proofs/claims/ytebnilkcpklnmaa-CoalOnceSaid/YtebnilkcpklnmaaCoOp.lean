/-
  Scripts that came in; steps of both tables, for the laws.
-/
import Derived.Test.YtebnilkcpklnmaaCoNlW
namespace Go.Proofs.Ytebnilkcpklnmaa
open Go.RowKit Go.Maps
set_option linter.unusedSimpArgs false
set_option linter.unusedVariables false
variable {B : Nat}
/-- a slice of operations that came in -/
def OpcR (w : World) (ao : Option Addr) (xs : List OpC) : Prop := xs = [] ∨ ∃ g o, ao = some ⟨g, o, none⟩ ∧ g < w.heap.size ∧ ∀ (i : Nat) x, xs[i]? = some x → w.cell? ⟨g, o + i * 7, none⟩ = some (.int .i64 x.dO) ∧ w.cell? ⟨g, o + i * 7 + 1, none⟩ = some (.string ⟨x.q.toArray⟩) ∧ w.cell? ⟨g, o + i * 7 + 2, none⟩ = some (.int .i64 x.ty) ∧
  w.cell? ⟨g, o + i * 7 + 3, none⟩ = some (.int .i64 x.c.node) ∧ w.cell? ⟨g, o + i * 7 + 4, none⟩ = some (.int .i64 x.c.id) ∧ w.cell? ⟨g, o + i * 7 + 5, none⟩ = some (.string ⟨x.c.nm.toArray⟩) ∧ w.cell? ⟨g, o + i * 7 + 6, none⟩ = some (.int .i64 x.tk) ∧ (Lit.int .i64 x.tk).wf = true
theorem OpcR.some {w : World} {ao : Option Addr} {xs : List OpC} (h : OpcR w ao xs) {i : Nat} {x : OpC} (hk : xs[i]? = some x) : ∃ g o, ao = some ⟨g, o, none⟩ ∧ g < w.heap.size ∧ w.cell? ⟨g, o + i * 7, none⟩ = some (.int .i64 x.dO) ∧ w.cell? ⟨g, o + i * 7 + 1, none⟩ = some (.string ⟨x.q.toArray⟩) ∧ w.cell? ⟨g, o + i * 7 + 2, none⟩ = some (.int .i64 x.ty) ∧
  w.cell? ⟨g, o + i * 7 + 3, none⟩ = some (.int .i64 x.c.node) ∧ w.cell? ⟨g, o + i * 7 + 4, none⟩ = some (.int .i64 x.c.id) ∧ w.cell? ⟨g, o + i * 7 + 5, none⟩ = some (.string ⟨x.c.nm.toArray⟩) ∧ w.cell? ⟨g, o + i * 7 + 6, none⟩ = some (.int .i64 x.tk) ∧ (Lit.int .i64 x.tk).wf = true := by
  rcases h with rfl | ⟨g, o, h1, h2, h3⟩
  · simp at hk
  · exact ⟨g, o, h1, h2, h3 i x hk⟩
theorem UpdP.other {w w' : World} (h : UpdP B w w') {n : Nat} {c : Array Value} {T : TypeId} {f : Nat × Nat} (hb : w.heap[n]? = some (.cells c T f)) (hT : (decide (T = 83) || decide (T = 87) || decide (T = 42)) = false) : w'.heap[n]? = some (.cells c T f) :=
  h.block (fun hs => by have := hs.2; rw [hb] at this; simp only [kindP] at this; rw [hT] at this; cases this) hb
theorem UpdR.other {w w' : World} (h : UpdR B w w') {n : Nat} {c : Array Value} {T : TypeId} {f : Nat × Nat} (hb : w.heap[n]? = some (.cells c T f)) (hT : (decide (T = 31) || decide (T = 89) || decide (T = 36)) = false) : w'.heap[n]? = some (.cells c T f) :=
  h.block (fun hs => by have := hs.2; rw [hb] at this; simp only [kindR] at this; rw [hT] at this; cases this) hb
theorem UpdR.rowP {w w' : World} (h : UpdR B w w') {v : Value} {n : Nat} {xs : List Value} (hr : w.ownsRow 0 42 3 v n xs) : w'.ownsRow 0 42 3 v n xs :=
  ownsRow_upd hr h fun g hg hs => by
    obtain ⟨cur, hc⟩ := kind_row hr hg
    have := hs.2
    rw [hc] at this
    simp [kindR] at this
theorem Ro.len {w : World} {t : Nat} {s : Tb} (h : Ro B w t s) : ∃ ao cap, w.cell? ⟨t, 3, none⟩ = some (.slice ao s.L.length cap) := by
  obtain ⟨_, v, M, h⟩ := h
  obtain ⟨ao, cap, rfl⟩ := ownsRow_slice h.row
  have : M.length = s.L.length := by rw [← h.abs]; simp
  exact ⟨ao, cap, by rw [blk_cell h.blk, ← this]; rfl⟩
theorem ro_new (w : World) (hB : B ≤ w.heap.size) {r m : Int} (h1 : 1 ≤ r) (h2 : r ≤ 100) (h3 : 1 ≤ m) (h4 : m ≤ 100) :
    Ro B (w.alloc (.cells #[.int .i64 r, .int .i64 m, .int .i64 0, .slice none 0 0] 31 (0, 0))) w.heap.size ⟨r, m, 0, []⟩ :=
  ⟨Tb.ok.empty h1 h2 h3 h4, .slice none 0 0, [], alloc_last _ _ _ rfl, ⟨rfl, .inl ⟨rfl, rfl⟩⟩, rfl, by simp, List.Pairwise.nil, hB, by simp [Value.ownBlock], by simp⟩
end Go.Proofs.Ytebnilkcpklnmaa
