/-
  Denials in memory; what the closures, slices.IndexFunc and slices.DeleteFunc make of them.
-/
import Derived.Test.YtdjleplefbmjbaaOff
import Derived.Test.YtdjleplefbmjbaaNmC
import Derived.Test.YtdjleplefbmjbaaRdP
namespace Go.Proofs.Ytdjleplefbmjbaa
open Go.RowKit
set_option linter.unusedSimpArgs false
set_option linter.unusedVariables false
structure Ent where
  nm : Bs
  kd : Int
  k : Int
  sn : Bs
  st : Int
  tl : Int
  sd : Bs
  en : Int
def Ent.cells (x : Ent) : List Value := [.string ⟨x.nm.toArray⟩, .int .i64 x.kd, .int .i64 x.k, .string ⟨x.sn.toArray⟩, .int .i64 x.st, .int .i64 x.tl, .string ⟨x.sd.toArray⟩, .int .i64 x.en]
def ens (l : List Ent) : List Value := l.flatMap Ent.cells
theorem en_len (x : Ent) : x.cells.length = 8 := rfl
theorem ens_len (l : List Ent) : (ens l).length = l.length * 8 := flat_len en_len l
theorem ens_one : ∀ (l : List Ent), ∀ u ∈ ens l, u.oneCell' = true := by
  intro l u hu
  simp only [ens, List.mem_flatMap, Ent.cells] at hu
  obtain ⟨p, _, h⟩ := hu
  simp at h
  rcases h with rfl | rfl | rfl | rfl | rfl | rfl | rfl | rfl <;> rfl
theorem info_ent : (Try.prog.info? 100).map (fun i => (i.zero.map (fun z => (z.cells.size, z.cells.toList.all (·.oneCell'))), i.size, i.bytes)) = some (some (8, true), 8, 88) := by kernel_rfl
theorem info_ent' : ∃ i z, Try.prog.info? 100 = some i ∧ i.zero = some z ∧ z.cells.size = 8 ∧ z.cells.toList.all (·.oneCell') = true ∧ i.size = 8 ∧ i.bytes = 88 := by
  have h := info_ent
  cases hi : Try.prog.info? 100 with
  | none => rw [hi] at h; cases h
  | some i =>
    rw [hi] at h
    simp only [Option.map_some, Option.some.injEq, Prod.mk.injEq, Option.map_eq_some_iff] at h
    obtain ⟨⟨z, h1, h2, h3⟩, h4, h5⟩ := h
    exact ⟨i, z, rfl, h1, h2, h3, h4, h5⟩
/-- the cells of an entry of such a slice -/
theorem ent_cells {w : World} {e : TypeId} {n g off cap : Nat} {l : List Ent} (h : OffR w e 8 (.slice (some ⟨g, off, none⟩) n cap) n (ens l)) {j : Nat} {x : Ent} (hj : l[j]? = some x) :
    w.cell? ⟨g, off + j * 8, none⟩ = some (.string ⟨x.nm.toArray⟩) ∧ w.cell? ⟨g, off + j * 8 + 1, none⟩ = some (.int .i64 x.kd) ∧ w.cell? ⟨g, off + j * 8 + 2, none⟩ = some (.int .i64 x.k) ∧ w.cell? ⟨g, off + j * 8 + 3, none⟩ = some (.string ⟨x.sn.toArray⟩) ∧
    w.cell? ⟨g, off + j * 8 + 4, none⟩ = some (.int .i64 x.st) ∧ w.cell? ⟨g, off + j * 8 + 5, none⟩ = some (.int .i64 x.tl) ∧ w.cell? ⟨g, off + j * 8 + 6, none⟩ = some (.string ⟨x.sd.toArray⟩) ∧ w.cell? ⟨g, off + j * 8 + 7, none⟩ = some (.int .i64 x.en) := by
  have hc : ∀ i u, x.cells[i]? = some u → i < 8 → w.cell? ⟨g, off + j * 8 + i, none⟩ = some u := fun i u hu hi => by
    rw [Nat.add_assoc]
    exact h.cell (by rw [ens, flat_get en_len l j i x hj hi]; exact hu)
  exact ⟨hc 0 _ rfl (by omega), hc 1 _ rfl (by omega), hc 2 _ rfl (by omega), hc 3 _ rfl (by omega), hc 4 _ rfl (by omega), hc 5 _ rfl (by omega), hc 6 _ rfl (by omega), hc 7 _ rfl (by omega)⟩
def delP (pn : Bs) (pk : Int) (x : Ent) : Bool := decide (x.nm = pn) && decide (x.kd = pk)
def delD (pn : Bs) (x : Ent) : Bool := decide (x.nm = pn)
def fidx (p : Ent → Bool) (l : List Ent) : Int := match l.findIdx? p with | some i => i | none => -1
theorem delP_w (x : Ent) (b : Nat) (pn : Bs) (pk : Int) (w : World) (hb : w.heap[b]? = some (.cells #[.string ⟨pn.toArray⟩, .int .i64 pk] 98 (0, 0))) :
    Calls Try.prog 62 #[.agg #[.string ⟨x.nm.toArray⟩, .int .i64 x.kd, .int .i64 x.k, .string ⟨x.sn.toArray⟩, .int .i64 x.st, .int .i64 x.tl, .string ⟨x.sd.toArray⟩, .int .i64 x.en], .pointer (some ⟨b, 0, none⟩)] w (Rets fun r w' => r = .bool (delP pn pk x) ∧ Upd0 w w') := by
  have c0 : w.cell? ⟨b, 0, none⟩ = some (.string ⟨pn.toArray⟩) := by rw [blk_cell hb]; rfl
  have c1 : w.cell? ⟨b, 1, none⟩ = some (.int .i64 pk) := by rw [blk_cell hb]; rfl
  have hbl := blk_lt hb
  have hne : ¬ b = w.heap.size := by omega
  have hne' : ¬ w.heap.size = b := by omega
  clear hb
  obtain ⟨nm, kd, k, sn, st, tl, sd, en⟩ := x
  simp only [delP]
  by_cases h1 : nm = pn
  · by_cases h2 : kd = pk
    · rw [decide_eq_true h1, decide_eq_true h2]
      subst h1 h2
      go_enter Try.func62, Try.ntmps62
      go_wp2_with (first | (with_reducible refine wp_serial (by kernel_rfl) (by kernel_rfl) (by (repeat (first | (with_reducible apply NoBad.then) | (with_reducible apply NoBad.inBlock) | (with_reducible exact NoBad.rets))); done) ?_) | fail)
      all_goals go_returns
      all_goals exact ⟨rfl, (by (repeat (first | (with_reducible exact Upd.refl _ _) | (with_reducible assumption) | (with_reducible apply Upd.drew) | (with_reducible apply Upd.alloc) | (refine Upd0.tr ?_ (by with_reducible assumption)) | (refine Upd.setCell ?_ (fun h => absurd h (by first | exact Nat.lt_irrefl _ | (simp only []; omega))) _))); done)⟩
    · rw [decide_eq_true h1, decide_eq_false h2]
      subst h1
      have h3 : (kd == pk) = false := beq_eq_false_iff_ne.2 h2
      go_enter Try.func62, Try.ntmps62
      go_wp2_with (first | (with_reducible refine wp_serial (by kernel_rfl) (by kernel_rfl) (by (repeat (first | (with_reducible apply NoBad.then) | (with_reducible apply NoBad.inBlock) | (with_reducible exact NoBad.rets))); done) ?_) | fail)
      all_goals go_returns
      all_goals exact ⟨by first | rfl | simp [h3], (by (repeat (first | (with_reducible exact Upd.refl _ _) | (with_reducible assumption) | (with_reducible apply Upd.drew) | (with_reducible apply Upd.alloc) | (refine Upd0.tr ?_ (by with_reducible assumption)) | (refine Upd.setCell ?_ (fun h => absurd h (by first | exact Nat.lt_irrefl _ | (simp only []; omega))) _))); done)⟩
  · rw [decide_eq_false h1, Bool.false_and]
    have h3 : (nm == pn) = false := beq_eq_false_iff_ne.2 h1
    go_enter Try.func62, Try.ntmps62
    go_wp2_with (first | (with_reducible refine wp_serial (by kernel_rfl) (by kernel_rfl) (by (repeat (first | (with_reducible apply NoBad.then) | (with_reducible apply NoBad.inBlock) | (with_reducible exact NoBad.rets))); done) ?_) | fail)
    all_goals go_returns
    all_goals exact ⟨by first | rfl | simp [h3], (by (repeat (first | (with_reducible exact Upd.refl _ _) | (with_reducible assumption) | (with_reducible apply Upd.drew) | (with_reducible apply Upd.alloc) | (refine Upd0.tr ?_ (by with_reducible assumption)) | (refine Upd.setCell ?_ (fun h => absurd h (by first | exact Nat.lt_irrefl _ | (simp only []; omega))) _))); done)⟩
theorem delD_w (x : Ent) (b : Nat) (pn : Bs) (w : World) (hb : w.heap[b]? = some (.cells #[.string ⟨pn.toArray⟩] 22 (0, 0))) :
    Calls Try.prog 63 #[.agg #[.string ⟨x.nm.toArray⟩, .int .i64 x.kd, .int .i64 x.k, .string ⟨x.sn.toArray⟩, .int .i64 x.st, .int .i64 x.tl, .string ⟨x.sd.toArray⟩, .int .i64 x.en], .pointer (some ⟨b, 0, none⟩)] w (Rets fun r w' => r = .bool (delD pn x) ∧ Upd0 w w') := by
  have c0 : w.cell? ⟨b, 0, none⟩ = some (.string ⟨pn.toArray⟩) := by rw [blk_cell hb]; rfl
  have hbl := blk_lt hb
  have hne : ¬ b = w.heap.size := by omega
  have hne' : ¬ w.heap.size = b := by omega
  clear hb
  obtain ⟨nm, kd, k, sn, st, tl, sd, en⟩ := x
  simp only [delD]
  by_cases h1 : nm = pn
  · rw [decide_eq_true h1]
    subst h1
    go_enter Try.func63, Try.ntmps63
    go_wp2_with (first | (with_reducible refine wp_serial (by kernel_rfl) (by kernel_rfl) (by (repeat (first | (with_reducible apply NoBad.then) | (with_reducible apply NoBad.inBlock) | (with_reducible exact NoBad.rets))); done) ?_) | fail)
    all_goals go_returns
    all_goals exact ⟨by first | rfl | simp, (by (repeat (first | (with_reducible exact Upd.refl _ _) | (with_reducible assumption) | (with_reducible apply Upd.drew) | (with_reducible apply Upd.alloc) | (refine Upd0.tr ?_ (by with_reducible assumption)) | (refine Upd.setCell ?_ (fun h => absurd h (by first | exact Nat.lt_irrefl _ | (simp only []; omega))) _))); done)⟩
  · rw [decide_eq_false h1]
    have h3 : (nm == pn) = false := beq_eq_false_iff_ne.2 h1
    go_enter Try.func63, Try.ntmps63
    go_wp2_with (first | (with_reducible refine wp_serial (by kernel_rfl) (by kernel_rfl) (by (repeat (first | (with_reducible apply NoBad.then) | (with_reducible apply NoBad.inBlock) | (with_reducible exact NoBad.rets))); done) ?_) | fail)
    all_goals go_returns
    all_goals exact ⟨by first | rfl | simp [h3], (by (repeat (first | (with_reducible exact Upd.refl _ _) | (with_reducible assumption) | (with_reducible apply Upd.drew) | (with_reducible apply Upd.alloc) | (refine Upd0.tr ?_ (by with_reducible assumption)) | (refine Upd.setCell ?_ (fun h => absurd h (by first | exact Nat.lt_irrefl _ | (simp only []; omega))) _))); done)⟩
end Go.Proofs.Ytdjleplefbmjbaa
