/-
  CachePuts: helpers.
-/
import Derived.Test.YtijmbpokglohbaaCaRkW
import Derived.RegionTactic
import Derived.BigRegion
namespace Go.Proofs.Ytijmbpokglohbaa
open Go.RowKit Go.Maps
set_option linter.unusedSimpArgs false
set_option linter.unusedVariables false
variable {B : Nat}
theorem set8 {w : World} {b : Nat} {a0 a1 a2 a3 a4 a5 a6 a7 : Value} {t : TypeId} (h : w.heap[b]? = some (.cells #[a0, a1, a2, a3, a4, a5, a6, a7] t (0, 0))) : w.cell? ⟨b, 0, none⟩ = some a0 ∧ w.cell? ⟨b, 1, none⟩ = some a1 ∧ w.cell? ⟨b, 2, none⟩ = some a2 ∧ w.cell? ⟨b, 3, none⟩ = some a3 ∧ w.cell? ⟨b, 4, none⟩ = some a4 ∧ w.cell? ⟨b, 5, none⟩ = some a5 ∧ w.cell? ⟨b, 6, none⟩ = some a6 ∧ w.cell? ⟨b, 7, none⟩ = some a7 :=
  ⟨by rw [blk_cell h]; rfl, by rw [blk_cell h]; rfl, by rw [blk_cell h]; rfl, by rw [blk_cell h]; rfl, by rw [blk_cell h]; rfl, by rw [blk_cell h]; rfl, by rw [blk_cell h]; rfl, by rw [blk_cell h]; rfl⟩
theorem CaIs.lower {B B' : Nat} {w : World} {t bm : Nat} {room most N : Int} {L : List CE} {M : List EM} (h : CaIs B' w t bm room most N L M) (k : B ≤ B') : CaIs B w t bm room most N L M :=
  ⟨h.blk, h.own, h.abs, h.ent, h.dg, Nat.le_trans k h.lo.1, Nat.le_trans k h.lo.2.1, fun m hm => Nat.le_trans k (h.lo.2.2 m hm)⟩
theorem Ca.lower {B B' : Nat} {w : World} {t : Nat} {c : CS} (h : Ca B' w t c) (k : B ≤ B') : Ca B w t c := by
  obtain ⟨bm, M, h⟩ := h
  exact ⟨bm, M, h.lower k⟩
end Go.Proofs.Ytijmbpokglohbaa
