/-
  What is over goes: the closure, maps.DeleteFunc.
-/
import Derived.Test.YtijmbpokglohbaaCaB
import Derived.RegionTactic
import Derived.BigRegion
namespace Go.Proofs.Ytijmbpokglohbaa
open Go.RowKit Go.Maps
set_option linter.unusedSimpArgs false
set_option linter.unusedVariables false
variable {B : Nat}
theorem ent7 {w : World} {m : EM} (h : EIs w m) : w.cell? ⟨m.g, 0, none⟩ = some (.string ⟨m.e.nm.toArray⟩) ∧ w.cell? ⟨m.g, 1, none⟩ = some (.int .i64 m.e.ty) ∧ w.cell? ⟨m.g, 2, none⟩ = some (.int .i64 m.e.tl) ∧ w.cell? ⟨m.g, 3, none⟩ = some (.slice m.ao m.e.dt.length m.cap) ∧ w.cell? ⟨m.g, 4, none⟩ = some (.int .i64 m.e.rk) ∧ w.cell? ⟨m.g, 5, none⟩ = some (.int .i64 m.e.en) ∧ w.cell? ⟨m.g, 6, none⟩ = some (.int .i64 m.e.us) :=
  ⟨by rw [blk_cell h.blk]; rfl, by rw [blk_cell h.blk]; rfl, by rw [blk_cell h.blk]; rfl, by rw [blk_cell h.blk]; rfl, by rw [blk_cell h.blk]; rfl, by rw [blk_cell h.blk]; rfl, by rw [blk_cell h.blk]; rfl⟩
set_option maxRecDepth 100000 in
theorem over_w (p : Nat) (now : Int) (nm : Bs) (ty : Int) (m : EM) (w : World) (hb : w.heap[p]? = some (.cells #[.int .i64 now] 3 (0, 0))) (h : EIs w m) :
    Calls Try.prog 83 #[.agg #[.string ⟨nm.toArray⟩, .int .i64 ty], .pointer (some ⟨m.g, 0, none⟩), .pointer (some ⟨p, 0, none⟩)] w (Rets fun r w' => r = .bool (decide (m.e.en ≤ now)) ∧ Upd0 w w') := by
  obtain ⟨e0, e1, e2, e3, e4, e5, e6⟩ := ent7 h
  have hl := blk_lt h.blk
  have hpl := blk_lt hb
  have hp : w.cell? ⟨p, 0, none⟩ = some (.int .i64 now) := by rw [blk_cell hb]; rfl
  have hh := Lib.hid h
  clear h
  by_cases hd : m.e.en ≤ now
  · have hX := Lib.hid (decide_eq_true hd)
    go_enter Try.func83, Try.ntmps83
    go_wp2_with (first | (with_reducible refine wp_serial (by kernel_rfl) (by kernel_rfl) (by repeat with_reducible (first | apply NoBad.then | apply NoBad.inBlock | apply NoBad.jump | exact NoBad.rets)) ?_) | fail)
    all_goals go_returns
    all_goals exact ⟨by rw [hX.out]; rfl, (by repeat first | with_reducible (first | exact Upd.refl _ _ | assumption | apply Upd.drew | apply Upd.alloc) | refine Upd0.tr ?_ (by with_reducible assumption) | refine Upd.setCell ?_ (fun h => absurd h (by first | exact Nat.lt_irrefl _ | (simp only []; omega))) _)⟩
  · have hX := Lib.hid (decide_eq_false hd)
    have hd2 : now < m.e.en := by omega
    go_enter Try.func83, Try.ntmps83
    go_wp2_with (first | (with_reducible refine wp_serial (by kernel_rfl) (by kernel_rfl) (by repeat with_reducible (first | apply NoBad.then | apply NoBad.inBlock | apply NoBad.jump | exact NoBad.rets)) ?_) | fail)
    all_goals go_returns
    all_goals exact ⟨by rw [hX.out]; rfl, (by repeat first | with_reducible (first | exact Upd.refl _ _ | assumption | apply Upd.drew | apply Upd.alloc) | refine Upd0.tr ?_ (by with_reducible assumption) | refine Upd.setCell ?_ (fun h => absurd h (by first | exact Nat.lt_irrefl _ | (simp only []; omega))) _)⟩
end Go.Proofs.Ytijmbpokglohbaa
