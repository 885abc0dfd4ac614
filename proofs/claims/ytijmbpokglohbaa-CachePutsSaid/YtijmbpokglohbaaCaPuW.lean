/-
  The walk of CachePuts: what is put is told, as long as its time is not over.
-/
import Derived.Test.YtijmbpokglohbaaCaRkW
import Derived.RegionTactic
import Derived.BigRegion
namespace Go.Proofs.Ytijmbpokglohbaa
open Go.RowKit Go.Maps
set_option linter.unusedSimpArgs false
set_option linter.unusedVariables false
variable {B : Nat}
theorem set8 {w : World} {b : Nat} {a0 a1 a2 a3 a4 a5 a6 a7 : Value} {t : TypeId} (h : w.heap[b]? = some (.cells #[a0, a1, a2, a3, a4, a5, a6, a7] t (0, 0))) : w.cell? ⟨b, 0, none⟩ = some a0 ∧ w.cell? ⟨b, 1, none⟩ = some a1 ∧ w.cell? ⟨b, 2, none⟩ = some a2 ∧ w.cell? ⟨b, 3, none⟩ = some a3 ∧ w.cell? ⟨b, 4, none⟩ = some a4 ∧ w.cell? ⟨b, 5, none⟩ = some a5 ∧ w.cell? ⟨b, 6, none⟩ = some a6 ∧ w.cell? ⟨b, 7, none⟩ = some a7 :=
  ⟨by rw [blk_cell h]; rfl, by rw [blk_cell h]; rfl, by rw [blk_cell h]; rfl, by rw [blk_cell h]; rfl, by rw [blk_cell h]; rfl, by rw [blk_cell h]; rfl, by rw [blk_cell h]; rfl, by rw [blk_cell h]; rfl⟩
theorem CaIs.lower {B B' : Nat} {w : World} {t bm : Nat} {room most N : Int} {L : List CE} {M : List EM} (h : CaIs B' w t bm room most N L M) (k : B ≤ B') : CaIs B w t bm room most N L M :=
  ⟨h.blk, h.own, h.abs, h.ent, h.dg, Nat.le_trans k h.lo.1, Nat.le_trans k h.lo.2.1, fun m hm => Nat.le_trans k (h.lo.2.2 m hm)⟩
theorem Ca.lower {B B' : Nat} {w : World} {t : Nat} {c : CS} (h : Ca B' w t c) (k : B ≤ B') : Ca B w t c := by
  obtain ⟨bm, M, h⟩ := h
  exact ⟨bm, M, h.lower k⟩
-- WALK
set_option maxRecDepth 100000 in
set_option maxHeartbeats 4000000 in
theorem puts_1 (nm : Bs) (ty tl : Int) (dt : List Bs) (ao : Option Addr) (cap : Nat) (rk most now later : Int) (w : World) (hS : SR w ao dt) (hf : fewS ⟨nm, ty, tl, dt⟩ = false) : Calls Try.prog 11 #[.agg #[.string ⟨nm.toArray⟩, .int .i64 ty, .int .i64 tl, .slice ao dt.length cap, .int .i64 rk, .int .i64 most, .int .i64 now, .int .i64 later]] w (Rets fun r w' => r = .bool true ∧ Upd0 w w') := by
  have hSh := Lib.hid hS
  have hw := Lib.hid (fun (w' : World) (k : SR w' ao dt) => (show Calls Try.prog 33 #[.agg #[.string ⟨nm.toArray⟩, .int .i64 ty, .int .i64 tl, .slice ao dt.length cap]] w' (Rets fun r w'' => r = .bool false ∧ Upd0 w' w'') from by have h1 := cshort_w ⟨nm, ty, tl, dt⟩ ao cap w' k; rw [hf] at h1; exact h1))
  clear hS hf
  go_enter Try.func11, Try.ntmps11
  go_upto_region 1 with (first | (with_reducible refine wp_serial (by kernel_rfl) (by kernel_rfl) (by (repeat (first | (with_reducible apply NoBad.then) | (with_reducible apply NoBad.inBlock) | (with_reducible apply NoBad.jump) | (with_reducible exact NoBad.rets))); done) ?_) | fail)
  go_region
  go_wp2_with (first
    | (go_at_call 33; (with_reducible refine (hw.out _ (hSh.out.up (by (repeat (first | (with_reducible exact Upd.refl _ _) | (with_reducible assumption) | (with_reducible apply Upd.drew) | (with_reducible apply Upd.alloc) | (refine Upd0.tr ?_ (by with_reducible assumption)) | (refine Upd.setCell ?_ (fun h => absurd h (by first | exact Nat.lt_irrefl _ | (simp only []; omega))) _))); done))).use ?_); rintro v w1 ⟨rfl, hu1⟩; have U1 : Upd0 w w1 := (by (repeat (first | (with_reducible exact Upd.refl _ _) | (with_reducible assumption) | (with_reducible apply Upd.drew) | (with_reducible apply Upd.alloc) | (refine Upd0.tr ?_ (by with_reducible assumption)) | (refine Upd.setCell ?_ (fun h => absurd h (by first | exact Nat.lt_irrefl _ | (simp only []; omega))) _))); done); have y1 := Lib.hid (hu1.block (fun h => h) (alloc_last _ _ (w.heap.size + 1) (by simp))); have yc := set4 y1.out; obtain ⟨c0, c1, c2, c3⟩ := yc; have z1 := U1.size; have l1 := blk_lt y1.out)
    | (go_at_call 32; (with_reducible refine (clive_w _).use ?_); rintro v wl ⟨rfl, hul⟩)
    | (with_reducible refine wp_serial (by kernel_rfl) (by kernel_rfl) (by (repeat (first | (with_reducible apply NoBad.then) | (with_reducible apply NoBad.inBlock) | (with_reducible apply NoBad.jump) | (with_reducible exact NoBad.rets))); done) ?_) | fail)
  all_goals go_returns
  all_goals exact ⟨rfl, show Upd0 w _ from U1.tr (by (repeat (first | (with_reducible exact Upd.refl _ _) | (with_reducible assumption) | (with_reducible apply Upd.drew) | (with_reducible apply Upd.alloc) | (refine Upd0.tr ?_ (by with_reducible assumption)) | (refine Upd.setCell ?_ (fun h => absurd h (by first | exact Nat.lt_irrefl _ | (simp only []; omega))) _))); done)⟩
set_option maxRecDepth 100000 in
set_option maxHeartbeats 4000000 in
theorem puts_2 (nm : Bs) (ty tl : Int) (dt : List Bs) (ao : Option Addr) (cap : Nat) (rk most now later : Int) (w : World) (hS : SR w ao dt) (hf : fewS ⟨nm, ty, tl, dt⟩ = true) (n1 : now < 0) : Calls Try.prog 11 #[.agg #[.string ⟨nm.toArray⟩, .int .i64 ty, .int .i64 tl, .slice ao dt.length cap, .int .i64 rk, .int .i64 most, .int .i64 now, .int .i64 later]] w (Rets fun r w' => r = .bool true ∧ Upd0 w w') := by
  have hSh := Lib.hid hS
  have hw := Lib.hid (fun (w' : World) (k : SR w' ao dt) => (show Calls Try.prog 33 #[.agg #[.string ⟨nm.toArray⟩, .int .i64 ty, .int .i64 tl, .slice ao dt.length cap]] w' (Rets fun r w'' => r = .bool true ∧ Upd0 w' w'') from by have h1 := cshort_w ⟨nm, ty, tl, dt⟩ ao cap w' k; rw [hf] at h1; exact h1))
  clear hS hf
  go_enter Try.func11, Try.ntmps11
  go_upto_region 1 with (first | (with_reducible refine wp_serial (by kernel_rfl) (by kernel_rfl) (by (repeat (first | (with_reducible apply NoBad.then) | (with_reducible apply NoBad.inBlock) | (with_reducible apply NoBad.jump) | (with_reducible exact NoBad.rets))); done) ?_) | fail)
  go_region
  go_wp2_with (first
    | (go_at_call 33; (with_reducible refine (hw.out _ (hSh.out.up (by (repeat (first | (with_reducible exact Upd.refl _ _) | (with_reducible assumption) | (with_reducible apply Upd.drew) | (with_reducible apply Upd.alloc) | (refine Upd0.tr ?_ (by with_reducible assumption)) | (refine Upd.setCell ?_ (fun h => absurd h (by first | exact Nat.lt_irrefl _ | (simp only []; omega))) _))); done))).use ?_); rintro v w1 ⟨rfl, hu1⟩; have U1 : Upd0 w w1 := (by (repeat (first | (with_reducible exact Upd.refl _ _) | (with_reducible assumption) | (with_reducible apply Upd.drew) | (with_reducible apply Upd.alloc) | (refine Upd0.tr ?_ (by with_reducible assumption)) | (refine Upd.setCell ?_ (fun h => absurd h (by first | exact Nat.lt_irrefl _ | (simp only []; omega))) _))); done); have y1 := Lib.hid (hu1.block (fun h => h) (alloc_last _ _ (w.heap.size + 1) (by simp))); have yc := set4 y1.out; obtain ⟨c0, c1, c2, c3⟩ := yc; have z1 := U1.size; have l1 := blk_lt y1.out)
    | (go_at_call 32; (with_reducible refine (clive_w _).use ?_); rintro v wl ⟨rfl, hul⟩)
    | (with_reducible refine wp_serial (by kernel_rfl) (by kernel_rfl) (by (repeat (first | (with_reducible apply NoBad.then) | (with_reducible apply NoBad.inBlock) | (with_reducible apply NoBad.jump) | (with_reducible exact NoBad.rets))); done) ?_) | fail)
  all_goals go_returns
  all_goals exact ⟨rfl, show Upd0 w _ from U1.tr (by (repeat (first | (with_reducible exact Upd.refl _ _) | (with_reducible assumption) | (with_reducible apply Upd.drew) | (with_reducible apply Upd.alloc) | (refine Upd0.tr ?_ (by with_reducible assumption)) | (refine Upd.setCell ?_ (fun h => absurd h (by first | exact Nat.lt_irrefl _ | (simp only []; omega))) _))); done)⟩
set_option maxRecDepth 100000 in
set_option maxHeartbeats 4000000 in
theorem puts_3 (nm : Bs) (ty tl : Int) (dt : List Bs) (ao : Option Addr) (cap : Nat) (rk most now later : Int) (w : World) (hS : SR w ao dt) (hf : fewS ⟨nm, ty, tl, dt⟩ = true) (n1 : ¬ now < 0) (n2 : 1000000 < now) : Calls Try.prog 11 #[.agg #[.string ⟨nm.toArray⟩, .int .i64 ty, .int .i64 tl, .slice ao dt.length cap, .int .i64 rk, .int .i64 most, .int .i64 now, .int .i64 later]] w (Rets fun r w' => r = .bool true ∧ Upd0 w w') := by
  have hSh := Lib.hid hS
  have hw := Lib.hid (fun (w' : World) (k : SR w' ao dt) => (show Calls Try.prog 33 #[.agg #[.string ⟨nm.toArray⟩, .int .i64 ty, .int .i64 tl, .slice ao dt.length cap]] w' (Rets fun r w'' => r = .bool true ∧ Upd0 w' w'') from by have h1 := cshort_w ⟨nm, ty, tl, dt⟩ ao cap w' k; rw [hf] at h1; exact h1))
  clear hS hf
  go_enter Try.func11, Try.ntmps11
  go_upto_region 1 with (first | (with_reducible refine wp_serial (by kernel_rfl) (by kernel_rfl) (by (repeat (first | (with_reducible apply NoBad.then) | (with_reducible apply NoBad.inBlock) | (with_reducible apply NoBad.jump) | (with_reducible exact NoBad.rets))); done) ?_) | fail)
  go_region
  go_wp2_with (first
    | (go_at_call 33; (with_reducible refine (hw.out _ (hSh.out.up (by (repeat (first | (with_reducible exact Upd.refl _ _) | (with_reducible assumption) | (with_reducible apply Upd.drew) | (with_reducible apply Upd.alloc) | (refine Upd0.tr ?_ (by with_reducible assumption)) | (refine Upd.setCell ?_ (fun h => absurd h (by first | exact Nat.lt_irrefl _ | (simp only []; omega))) _))); done))).use ?_); rintro v w1 ⟨rfl, hu1⟩; have U1 : Upd0 w w1 := (by (repeat (first | (with_reducible exact Upd.refl _ _) | (with_reducible assumption) | (with_reducible apply Upd.drew) | (with_reducible apply Upd.alloc) | (refine Upd0.tr ?_ (by with_reducible assumption)) | (refine Upd.setCell ?_ (fun h => absurd h (by first | exact Nat.lt_irrefl _ | (simp only []; omega))) _))); done); have y1 := Lib.hid (hu1.block (fun h => h) (alloc_last _ _ (w.heap.size + 1) (by simp))); have yc := set4 y1.out; obtain ⟨c0, c1, c2, c3⟩ := yc; have z1 := U1.size; have l1 := blk_lt y1.out)
    | (go_at_call 32; (with_reducible refine (clive_w _).use ?_); rintro v wl ⟨rfl, hul⟩)
    | (with_reducible refine wp_serial (by kernel_rfl) (by kernel_rfl) (by (repeat (first | (with_reducible apply NoBad.then) | (with_reducible apply NoBad.inBlock) | (with_reducible apply NoBad.jump) | (with_reducible exact NoBad.rets))); done) ?_) | fail)
  all_goals go_returns
  all_goals exact ⟨rfl, show Upd0 w _ from U1.tr (by (repeat (first | (with_reducible exact Upd.refl _ _) | (with_reducible assumption) | (with_reducible apply Upd.drew) | (with_reducible apply Upd.alloc) | (refine Upd0.tr ?_ (by with_reducible assumption)) | (refine Upd.setCell ?_ (fun h => absurd h (by first | exact Nat.lt_irrefl _ | (simp only []; omega))) _))); done)⟩
set_option maxRecDepth 100000 in
set_option maxHeartbeats 4000000 in
theorem puts_4 (nm : Bs) (ty tl : Int) (dt : List Bs) (ao : Option Addr) (cap : Nat) (rk most now later : Int) (w : World) (hS : SR w ao dt) (hf : fewS ⟨nm, ty, tl, dt⟩ = true) (n1 : ¬ now < 0) (n2 : ¬ 1000000 < now) (n3 : later < 0) : Calls Try.prog 11 #[.agg #[.string ⟨nm.toArray⟩, .int .i64 ty, .int .i64 tl, .slice ao dt.length cap, .int .i64 rk, .int .i64 most, .int .i64 now, .int .i64 later]] w (Rets fun r w' => r = .bool true ∧ Upd0 w w') := by
  have hSh := Lib.hid hS
  have hw := Lib.hid (fun (w' : World) (k : SR w' ao dt) => (show Calls Try.prog 33 #[.agg #[.string ⟨nm.toArray⟩, .int .i64 ty, .int .i64 tl, .slice ao dt.length cap]] w' (Rets fun r w'' => r = .bool true ∧ Upd0 w' w'') from by have h1 := cshort_w ⟨nm, ty, tl, dt⟩ ao cap w' k; rw [hf] at h1; exact h1))
  clear hS hf
  go_enter Try.func11, Try.ntmps11
  go_upto_region 1 with (first | (with_reducible refine wp_serial (by kernel_rfl) (by kernel_rfl) (by (repeat (first | (with_reducible apply NoBad.then) | (with_reducible apply NoBad.inBlock) | (with_reducible apply NoBad.jump) | (with_reducible exact NoBad.rets))); done) ?_) | fail)
  go_region
  go_wp2_with (first
    | (go_at_call 33; (with_reducible refine (hw.out _ (hSh.out.up (by (repeat (first | (with_reducible exact Upd.refl _ _) | (with_reducible assumption) | (with_reducible apply Upd.drew) | (with_reducible apply Upd.alloc) | (refine Upd0.tr ?_ (by with_reducible assumption)) | (refine Upd.setCell ?_ (fun h => absurd h (by first | exact Nat.lt_irrefl _ | (simp only []; omega))) _))); done))).use ?_); rintro v w1 ⟨rfl, hu1⟩; have U1 : Upd0 w w1 := (by (repeat (first | (with_reducible exact Upd.refl _ _) | (with_reducible assumption) | (with_reducible apply Upd.drew) | (with_reducible apply Upd.alloc) | (refine Upd0.tr ?_ (by with_reducible assumption)) | (refine Upd.setCell ?_ (fun h => absurd h (by first | exact Nat.lt_irrefl _ | (simp only []; omega))) _))); done); have y1 := Lib.hid (hu1.block (fun h => h) (alloc_last _ _ (w.heap.size + 1) (by simp))); have yc := set4 y1.out; obtain ⟨c0, c1, c2, c3⟩ := yc; have z1 := U1.size; have l1 := blk_lt y1.out)
    | (go_at_call 32; (with_reducible refine (clive_w _).use ?_); rintro v wl ⟨rfl, hul⟩)
    | (with_reducible refine wp_serial (by kernel_rfl) (by kernel_rfl) (by (repeat (first | (with_reducible apply NoBad.then) | (with_reducible apply NoBad.inBlock) | (with_reducible apply NoBad.jump) | (with_reducible exact NoBad.rets))); done) ?_) | fail)
  all_goals go_returns
  all_goals exact ⟨rfl, show Upd0 w _ from U1.tr (by (repeat (first | (with_reducible exact Upd.refl _ _) | (with_reducible assumption) | (with_reducible apply Upd.drew) | (with_reducible apply Upd.alloc) | (refine Upd0.tr ?_ (by with_reducible assumption)) | (refine Upd.setCell ?_ (fun h => absurd h (by first | exact Nat.lt_irrefl _ | (simp only []; omega))) _))); done)⟩
set_option maxRecDepth 100000 in
set_option maxHeartbeats 4000000 in
theorem puts_5 (nm : Bs) (ty tl : Int) (dt : List Bs) (ao : Option Addr) (cap : Nat) (rk most now later : Int) (w : World) (hS : SR w ao dt) (hf : fewS ⟨nm, ty, tl, dt⟩ = true) (n1 : ¬ now < 0) (n2 : ¬ 1000000 < now) (n3 : ¬ later < 0) (n4 : 10000000 < later) : Calls Try.prog 11 #[.agg #[.string ⟨nm.toArray⟩, .int .i64 ty, .int .i64 tl, .slice ao dt.length cap, .int .i64 rk, .int .i64 most, .int .i64 now, .int .i64 later]] w (Rets fun r w' => r = .bool true ∧ Upd0 w w') := by
  have hSh := Lib.hid hS
  have hw := Lib.hid (fun (w' : World) (k : SR w' ao dt) => (show Calls Try.prog 33 #[.agg #[.string ⟨nm.toArray⟩, .int .i64 ty, .int .i64 tl, .slice ao dt.length cap]] w' (Rets fun r w'' => r = .bool true ∧ Upd0 w' w'') from by have h1 := cshort_w ⟨nm, ty, tl, dt⟩ ao cap w' k; rw [hf] at h1; exact h1))
  clear hS hf
  go_enter Try.func11, Try.ntmps11
  go_upto_region 1 with (first | (with_reducible refine wp_serial (by kernel_rfl) (by kernel_rfl) (by (repeat (first | (with_reducible apply NoBad.then) | (with_reducible apply NoBad.inBlock) | (with_reducible apply NoBad.jump) | (with_reducible exact NoBad.rets))); done) ?_) | fail)
  go_region
  go_wp2_with (first
    | (go_at_call 33; (with_reducible refine (hw.out _ (hSh.out.up (by (repeat (first | (with_reducible exact Upd.refl _ _) | (with_reducible assumption) | (with_reducible apply Upd.drew) | (with_reducible apply Upd.alloc) | (refine Upd0.tr ?_ (by with_reducible assumption)) | (refine Upd.setCell ?_ (fun h => absurd h (by first | exact Nat.lt_irrefl _ | (simp only []; omega))) _))); done))).use ?_); rintro v w1 ⟨rfl, hu1⟩; have U1 : Upd0 w w1 := (by (repeat (first | (with_reducible exact Upd.refl _ _) | (with_reducible assumption) | (with_reducible apply Upd.drew) | (with_reducible apply Upd.alloc) | (refine Upd0.tr ?_ (by with_reducible assumption)) | (refine Upd.setCell ?_ (fun h => absurd h (by first | exact Nat.lt_irrefl _ | (simp only []; omega))) _))); done); have y1 := Lib.hid (hu1.block (fun h => h) (alloc_last _ _ (w.heap.size + 1) (by simp))); have yc := set4 y1.out; obtain ⟨c0, c1, c2, c3⟩ := yc; have z1 := U1.size; have l1 := blk_lt y1.out)
    | (go_at_call 32; (with_reducible refine (clive_w _).use ?_); rintro v wl ⟨rfl, hul⟩)
    | (with_reducible refine wp_serial (by kernel_rfl) (by kernel_rfl) (by (repeat (first | (with_reducible apply NoBad.then) | (with_reducible apply NoBad.inBlock) | (with_reducible apply NoBad.jump) | (with_reducible exact NoBad.rets))); done) ?_) | fail)
  all_goals go_returns
  all_goals exact ⟨rfl, show Upd0 w _ from U1.tr (by (repeat (first | (with_reducible exact Upd.refl _ _) | (with_reducible assumption) | (with_reducible apply Upd.drew) | (with_reducible apply Upd.alloc) | (refine Upd0.tr ?_ (by with_reducible assumption)) | (refine Upd.setCell ?_ (fun h => absurd h (by first | exact Nat.lt_irrefl _ | (simp only []; omega))) _))); done)⟩
set_option maxRecDepth 100000 in
set_option maxHeartbeats 4000000 in
theorem puts_6 (nm : Bs) (ty tl : Int) (dt : List Bs) (ao : Option Addr) (cap : Nat) (rk most now later : Int) (w : World) (hS : SR w ao dt) (hf : fewS ⟨nm, ty, tl, dt⟩ = true) (n1 : ¬ now < 0) (n2 : ¬ 1000000 < now) (n3 : ¬ later < 0) (n4 : ¬ 10000000 < later) (hm : ¬ ((1 : Int) ≤ 3 ∧ (3 : Int) ≤ 200 ∧ 1 ≤ most ∧ most ≤ 2147483647)) : Calls Try.prog 11 #[.agg #[.string ⟨nm.toArray⟩, .int .i64 ty, .int .i64 tl, .slice ao dt.length cap, .int .i64 rk, .int .i64 most, .int .i64 now, .int .i64 later]] w (Rets fun r w' => r = .bool true ∧ Upd0 w w') := by
  have hSh := Lib.hid hS
  have hw := Lib.hid (fun (w' : World) (k : SR w' ao dt) => (show Calls Try.prog 33 #[.agg #[.string ⟨nm.toArray⟩, .int .i64 ty, .int .i64 tl, .slice ao dt.length cap]] w' (Rets fun r w'' => r = .bool true ∧ Upd0 w' w'') from by have h1 := cshort_w ⟨nm, ty, tl, dt⟩ ao cap w' k; rw [hf] at h1; exact h1))
  clear hS hf
  go_enter Try.func11, Try.ntmps11
  go_upto_region 1 with (first | (with_reducible refine wp_serial (by kernel_rfl) (by kernel_rfl) (by (repeat (first | (with_reducible apply NoBad.then) | (with_reducible apply NoBad.inBlock) | (with_reducible apply NoBad.jump) | (with_reducible exact NoBad.rets))); done) ?_) | fail)
  go_region
  go_wp2_with (first
    | (go_at_call 33; (with_reducible refine (hw.out _ (hSh.out.up (by (repeat (first | (with_reducible exact Upd.refl _ _) | (with_reducible assumption) | (with_reducible apply Upd.drew) | (with_reducible apply Upd.alloc) | (refine Upd0.tr ?_ (by with_reducible assumption)) | (refine Upd.setCell ?_ (fun h => absurd h (by first | exact Nat.lt_irrefl _ | (simp only []; omega))) _))); done))).use ?_); rintro v w1 ⟨rfl, hu1⟩; have U1 : Upd0 w w1 := (by (repeat (first | (with_reducible exact Upd.refl _ _) | (with_reducible assumption) | (with_reducible apply Upd.drew) | (with_reducible apply Upd.alloc) | (refine Upd0.tr ?_ (by with_reducible assumption)) | (refine Upd.setCell ?_ (fun h => absurd h (by first | exact Nat.lt_irrefl _ | (simp only []; omega))) _))); done); have y1 := Lib.hid (hu1.block (fun h => h) (alloc_last _ _ (w.heap.size + 1) (by simp))); have yc := set4 y1.out; obtain ⟨c0, c1, c2, c3⟩ := yc; have z1 := U1.size; have l1 := blk_lt y1.out)
    | (go_at_call 31; (with_reducible refine (cnew_no 3 most hm _).use ?_); rintro v w2 ⟨rfl, hu2⟩; have U2 : Upd0 w w2 := (by (repeat (first | (with_reducible exact Upd.refl _ _) | (with_reducible assumption) | (with_reducible apply Upd.drew) | (with_reducible apply Upd.alloc) | (refine Upd0.tr ?_ (by with_reducible assumption)) | (refine Upd.setCell ?_ (fun h => absurd h (by first | exact Nat.lt_irrefl _ | (simp only []; omega))) _))); done))
    | (go_at_call 32; (with_reducible refine (clive_w _).use ?_); rintro v wl ⟨rfl, hul⟩)
    | (with_reducible refine wp_serial (by kernel_rfl) (by kernel_rfl) (by (repeat (first | (with_reducible apply NoBad.then) | (with_reducible apply NoBad.inBlock) | (with_reducible apply NoBad.jump) | (with_reducible exact NoBad.rets))); done) ?_) | fail)
  all_goals go_returns
  all_goals exact ⟨rfl, show Upd0 w _ from U2.tr (by (repeat (first | (with_reducible exact Upd.refl _ _) | (with_reducible assumption) | (with_reducible apply Upd.drew) | (with_reducible apply Upd.alloc) | (refine Upd0.tr ?_ (by with_reducible assumption)) | (refine Upd.setCell ?_ (fun h => absurd h (by first | exact Nat.lt_irrefl _ | (simp only []; omega))) _))); done)⟩
set_option maxRecDepth 100000 in
set_option maxHeartbeats 4000000 in
theorem puts_7 (nm : Bs) (ty tl : Int) (dt : List Bs) (ao : Option Addr) (cap : Nat) (rk most now later : Int) (w : World) (hS : SR w ao dt) (hf : fewS ⟨nm, ty, tl, dt⟩ = true) (n1 : ¬ now < 0) (n2 : ¬ 1000000 < now) (n3 : ¬ later < 0) (n4 : ¬ 10000000 < later) (hm1 : 1 ≤ most) (hm2 : most ≤ 2147483647) (hty : (Lit.int .i64 ty).wf = true) (c1 : CS) (hp : putI ⟨3, most, 0, []⟩ ⟨nm, ty, tl, dt⟩ rk now = 1 ∧ putS ⟨3, most, 0, []⟩ ⟨nm, ty, tl, dt⟩ rk now = c1) (hh : hitB c1 nm ty later = none) : Calls Try.prog 11 #[.agg #[.string ⟨nm.toArray⟩, .int .i64 ty, .int .i64 tl, .slice ao dt.length cap, .int .i64 rk, .int .i64 most, .int .i64 now, .int .i64 later]] w (Rets fun r w' => r = .bool true ∧ Upd0 w w') := by
  have hSh := Lib.hid hS
  have hw := Lib.hid (fun (w' : World) (k : SR w' ao dt) => (show Calls Try.prog 33 #[.agg #[.string ⟨nm.toArray⟩, .int .i64 ty, .int .i64 tl, .slice ao dt.length cap]] w' (Rets fun r w'' => r = .bool true ∧ Upd0 w' w'') from by have h1 := cshort_w ⟨nm, ty, tl, dt⟩ ao cap w' k; rw [hf] at h1; exact h1))
  have hok1 : COk c1 := by rw [← hp.2]; exact putS_ok (empty_ok 3 most (by decide) (by decide) hm1 hm2) hf
  have hN1 : c1.N ≤ 1000000 := by rw [← hp.2]; exact Int.le_trans (putS_N _ _ _ _) (by simp only []; omega)
  have hn7 : nm.length ≤ 70000 := by have := (fewS_num hf).2.1; simp only [] at this; omega
  have hP := Lib.hid (fun (t : Nat) (w' : World) (hB : w.heap.size ≤ w'.heap.size) (h : Ca w.heap.size w' t ⟨3, most, 0, []⟩) (k : Stay w.heap.size w' ao dt) => (show Calls Try.prog 34 #[.pointer (some ⟨t, 0, none⟩), .agg #[.string ⟨nm.toArray⟩, .int .i64 ty, .int .i64 tl, .slice ao dt.length cap], .int .i64 rk, .int .i64 now] w' (Rets fun r w'' => r = .int .i64 1 ∧ UpdQ w.heap.size w' w'' ∧ Ca w.heap.size w'' t c1) from by have h1 := cput_w t ⟨3, most, 0, []⟩ ⟨nm, ty, tl, dt⟩ ao cap rk now w' (empty_ok 3 most (by decide) (by decide) hm1 hm2) (by decide) hf hB h k; rw [hp.1, hp.2] at h1; exact h1))
  have hG := Lib.hid (fun (t : Nat) (w' : World) (h : Ca w.heap.size w' t c1) => cget_miss t c1 nm ty later w' hok1 hn7 hty h hh)
  clear hp hh hok1 hN1
  clear hS hf
  go_enter Try.func11, Try.ntmps11
  go_upto_region 1 with (first | (with_reducible refine wp_serial (by kernel_rfl) (by kernel_rfl) (by (repeat (first | (with_reducible apply NoBad.then) | (with_reducible apply NoBad.inBlock) | (with_reducible apply NoBad.jump) | (with_reducible exact NoBad.rets))); done) ?_) | fail)
  go_region
  go_wp2_with (first
    | (go_at_call 33; (with_reducible refine (hw.out _ (hSh.out.up (by (repeat (first | (with_reducible exact Upd.refl _ _) | (with_reducible assumption) | (with_reducible apply Upd.drew) | (with_reducible apply Upd.alloc) | (refine Upd0.tr ?_ (by with_reducible assumption)) | (refine Upd.setCell ?_ (fun h => absurd h (by first | exact Nat.lt_irrefl _ | (simp only []; omega))) _))); done))).use ?_); rintro v w1 ⟨rfl, hu1⟩; have U1 : Upd0 w w1 := (by (repeat (first | (with_reducible exact Upd.refl _ _) | (with_reducible assumption) | (with_reducible apply Upd.drew) | (with_reducible apply Upd.alloc) | (refine Upd0.tr ?_ (by with_reducible assumption)) | (refine Upd.setCell ?_ (fun h => absurd h (by first | exact Nat.lt_irrefl _ | (simp only []; omega))) _))); done); have y1 := Lib.hid (hu1.block (fun h => h) (alloc_last _ _ (w.heap.size + 1) (by simp))); have yc := set4 y1.out; obtain ⟨c0, c1, c2, c3⟩ := yc; have z1 := U1.size; have l1 := blk_lt y1.out)
    | (go_at_call 31; (with_reducible refine (cnew_w 3 most (by decide) (by decide) hm1 hm2 _).use ?_); rintro v w2 ⟨t, rfl, hu2, hc2⟩; have U2 : Upd0 w w2 := (by (repeat (first | (with_reducible exact Upd.refl _ _) | (with_reducible assumption) | (with_reducible apply Upd.drew) | (with_reducible apply Upd.alloc) | (refine Upd0.tr ?_ (by with_reducible assumption)) | (refine Upd.setCell ?_ (fun h => absurd h (by first | exact Nat.lt_irrefl _ | (simp only []; omega))) _))); done); have C2 := Lib.hid (hc2.lower U1.size); have y2 := Lib.hid (hu2.block (fun h => h) y1.out); have yd := set4 y2.out; obtain ⟨d0, d1, d2, d3⟩ := yd; have z2 := U2.size; have l2 := blk_lt y2.out; clear hc2)
    | (go_at_call 34; (with_reducible refine (hP.out t _ z2 C2.out (Stay.of hSh.out U2)).use ?_); rintro v w3 ⟨rfl, hq3, hc3⟩; have U3 : Upd0 w w3 := UpdQ.fin U2 hq3; have C3 := Lib.hid hc3; have y3 := Lib.hid (keepS y2.out hq3); have ye := set4 y3.out; obtain ⟨e0, e1, e2, e3⟩ := ye; have z3 := U3.size; have l3 := blk_lt y3.out; clear hc3)
    | (go_at_call 36; (with_reducible refine (hG.out t _ C3.out).use ?_); rintro v w4 ⟨rfl, hu4⟩; have U4 : Upd0 w w4 := U3.tr hu4; have y4 := Lib.hid (hu4.block (fun h => h) y3.out); have yf := set4 y4.out; obtain ⟨f0, f1, f2, f3⟩ := yf; have z4 := U4.size; have l4 := blk_lt y4.out)
    | (go_at_call 32; (with_reducible refine (clive_w _).use ?_); rintro v wl ⟨rfl, hul⟩)
    | (with_reducible refine wp_serial (by kernel_rfl) (by kernel_rfl) (by (repeat (first | (with_reducible apply NoBad.then) | (with_reducible apply NoBad.inBlock) | (with_reducible apply NoBad.jump) | (with_reducible exact NoBad.rets))); done) ?_) | fail)
  all_goals go_returns
  all_goals exact ⟨rfl, show Upd0 w _ from U4.tr (by (repeat (first | (with_reducible exact Upd.refl _ _) | (with_reducible assumption) | (with_reducible apply Upd.drew) | (with_reducible apply Upd.alloc) | (refine Upd0.tr ?_ (by with_reducible assumption)) | (refine Upd.setCell ?_ (fun h => absurd h (by first | exact Nat.lt_irrefl _ | (simp only []; omega))) _))); done)⟩
set_option maxRecDepth 100000 in
set_option maxHeartbeats 4000000 in
theorem puts_8 (nm : Bs) (ty tl : Int) (dt : List Bs) (ao : Option Addr) (cap : Nat) (rk most now later : Int) (w : World) (hS : SR w ao dt) (hf : fewS ⟨nm, ty, tl, dt⟩ = true) (n1 : ¬ now < 0) (n2 : ¬ 1000000 < now) (n3 : ¬ later < 0) (n4 : ¬ 10000000 < later) (hm1 : 1 ≤ most) (hm2 : most ≤ 2147483647) (hty : (Lit.int .i64 ty).wf = true) (c1 : CS) (ht : ¬ 0 < tl) (hp : putI ⟨3, most, 0, []⟩ ⟨nm, ty, tl, dt⟩ rk now = 0 ∧ putS ⟨3, most, 0, []⟩ ⟨nm, ty, tl, dt⟩ rk now = c1) (hh : hitB c1 nm ty later = none) : Calls Try.prog 11 #[.agg #[.string ⟨nm.toArray⟩, .int .i64 ty, .int .i64 tl, .slice ao dt.length cap, .int .i64 rk, .int .i64 most, .int .i64 now, .int .i64 later]] w (Rets fun r w' => r = .bool true ∧ Upd0 w w') := by
  have hSh := Lib.hid hS
  have hw := Lib.hid (fun (w' : World) (k : SR w' ao dt) => (show Calls Try.prog 33 #[.agg #[.string ⟨nm.toArray⟩, .int .i64 ty, .int .i64 tl, .slice ao dt.length cap]] w' (Rets fun r w'' => r = .bool true ∧ Upd0 w' w'') from by have h1 := cshort_w ⟨nm, ty, tl, dt⟩ ao cap w' k; rw [hf] at h1; exact h1))
  have hok1 : COk c1 := by rw [← hp.2]; exact putS_ok (empty_ok 3 most (by decide) (by decide) hm1 hm2) hf
  have hN1 : c1.N ≤ 1000000 := by rw [← hp.2]; exact Int.le_trans (putS_N _ _ _ _) (by simp only []; omega)
  have hn7 : nm.length ≤ 70000 := by have := (fewS_num hf).2.1; simp only [] at this; omega
  have hP := Lib.hid (fun (t : Nat) (w' : World) (hB : w.heap.size ≤ w'.heap.size) (h : Ca w.heap.size w' t ⟨3, most, 0, []⟩) (k : Stay w.heap.size w' ao dt) => (show Calls Try.prog 34 #[.pointer (some ⟨t, 0, none⟩), .agg #[.string ⟨nm.toArray⟩, .int .i64 ty, .int .i64 tl, .slice ao dt.length cap], .int .i64 rk, .int .i64 now] w' (Rets fun r w'' => r = .int .i64 0 ∧ UpdQ w.heap.size w' w'' ∧ Ca w.heap.size w'' t c1) from by have h1 := cput_w t ⟨3, most, 0, []⟩ ⟨nm, ty, tl, dt⟩ ao cap rk now w' (empty_ok 3 most (by decide) (by decide) hm1 hm2) (by decide) hf hB h k; rw [hp.1, hp.2] at h1; exact h1))
  have hG := Lib.hid (fun (t : Nat) (w' : World) (h : Ca w.heap.size w' t c1) => cget_miss t c1 nm ty later w' hok1 hn7 hty h hh)
  clear hp hh hok1 hN1
  clear hS hf
  go_enter Try.func11, Try.ntmps11
  go_upto_region 1 with (first | (with_reducible refine wp_serial (by kernel_rfl) (by kernel_rfl) (by (repeat (first | (with_reducible apply NoBad.then) | (with_reducible apply NoBad.inBlock) | (with_reducible apply NoBad.jump) | (with_reducible exact NoBad.rets))); done) ?_) | fail)
  go_region
  go_wp2_with (first
    | (go_at_call 33; (with_reducible refine (hw.out _ (hSh.out.up (by (repeat (first | (with_reducible exact Upd.refl _ _) | (with_reducible assumption) | (with_reducible apply Upd.drew) | (with_reducible apply Upd.alloc) | (refine Upd0.tr ?_ (by with_reducible assumption)) | (refine Upd.setCell ?_ (fun h => absurd h (by first | exact Nat.lt_irrefl _ | (simp only []; omega))) _))); done))).use ?_); rintro v w1 ⟨rfl, hu1⟩; have U1 : Upd0 w w1 := (by (repeat (first | (with_reducible exact Upd.refl _ _) | (with_reducible assumption) | (with_reducible apply Upd.drew) | (with_reducible apply Upd.alloc) | (refine Upd0.tr ?_ (by with_reducible assumption)) | (refine Upd.setCell ?_ (fun h => absurd h (by first | exact Nat.lt_irrefl _ | (simp only []; omega))) _))); done); have y1 := Lib.hid (hu1.block (fun h => h) (alloc_last _ _ (w.heap.size + 1) (by simp))); have yc := set4 y1.out; obtain ⟨c0, c1, c2, c3⟩ := yc; have z1 := U1.size; have l1 := blk_lt y1.out)
    | (go_at_call 31; (with_reducible refine (cnew_w 3 most (by decide) (by decide) hm1 hm2 _).use ?_); rintro v w2 ⟨t, rfl, hu2, hc2⟩; have U2 : Upd0 w w2 := (by (repeat (first | (with_reducible exact Upd.refl _ _) | (with_reducible assumption) | (with_reducible apply Upd.drew) | (with_reducible apply Upd.alloc) | (refine Upd0.tr ?_ (by with_reducible assumption)) | (refine Upd.setCell ?_ (fun h => absurd h (by first | exact Nat.lt_irrefl _ | (simp only []; omega))) _))); done); have C2 := Lib.hid (hc2.lower U1.size); have y2 := Lib.hid (hu2.block (fun h => h) y1.out); have yd := set4 y2.out; obtain ⟨d0, d1, d2, d3⟩ := yd; have z2 := U2.size; have l2 := blk_lt y2.out; clear hc2)
    | (go_at_call 34; (with_reducible refine (hP.out t _ z2 C2.out (Stay.of hSh.out U2)).use ?_); rintro v w3 ⟨rfl, hq3, hc3⟩; have U3 : Upd0 w w3 := UpdQ.fin U2 hq3; have C3 := Lib.hid hc3; have y3 := Lib.hid (keepS y2.out hq3); have ye := set4 y3.out; obtain ⟨e0, e1, e2, e3⟩ := ye; have z3 := U3.size; have l3 := blk_lt y3.out; clear hc3)
    | (go_at_call 36; (with_reducible refine (hG.out t _ C3.out).use ?_); rintro v w4 ⟨rfl, hu4⟩; have U4 : Upd0 w w4 := U3.tr hu4; have y4 := Lib.hid (hu4.block (fun h => h) y3.out); have yf := set4 y4.out; obtain ⟨f0, f1, f2, f3⟩ := yf; have z4 := U4.size; have l4 := blk_lt y4.out)
    | (go_at_call 32; (with_reducible refine (clive_w _).use ?_); rintro v wl ⟨rfl, hul⟩)
    | (with_reducible refine wp_serial (by kernel_rfl) (by kernel_rfl) (by (repeat (first | (with_reducible apply NoBad.then) | (with_reducible apply NoBad.inBlock) | (with_reducible apply NoBad.jump) | (with_reducible exact NoBad.rets))); done) ?_) | fail)
  all_goals go_returns
  all_goals exact ⟨rfl, show Upd0 w _ from U4.tr (by (repeat (first | (with_reducible exact Upd.refl _ _) | (with_reducible assumption) | (with_reducible apply Upd.drew) | (with_reducible apply Upd.alloc) | (refine Upd0.tr ?_ (by with_reducible assumption)) | (refine Upd.setCell ?_ (fun h => absurd h (by first | exact Nat.lt_irrefl _ | (simp only []; omega))) _))); done)⟩
set_option maxRecDepth 100000 in
set_option maxHeartbeats 4000000 in
theorem puts_9 (nm : Bs) (ty tl : Int) (dt : List Bs) (ao : Option Addr) (cap : Nat) (rk most now later : Int) (w : World) (hS : SR w ao dt) (hf : fewS ⟨nm, ty, tl, dt⟩ = true) (n1 : ¬ now < 0) (n2 : ¬ 1000000 < now) (n3 : ¬ later < 0) (n4 : ¬ 10000000 < later) (hm1 : 1 ≤ most) (hm2 : most ≤ 2147483647) (hty : (Lit.int .i64 ty).wf = true) (c1 : CS) (ht : 0 < tl) (ht2 : tl ≤ 2147483647) (hl : ¬ later < now + min tl most) (hp : putI ⟨3, most, 0, []⟩ ⟨nm, ty, tl, dt⟩ rk now = 0 ∧ putS ⟨3, most, 0, []⟩ ⟨nm, ty, tl, dt⟩ rk now = c1) (hh : hitB c1 nm ty later = none) : Calls Try.prog 11 #[.agg #[.string ⟨nm.toArray⟩, .int .i64 ty, .int .i64 tl, .slice ao dt.length cap, .int .i64 rk, .int .i64 most, .int .i64 now, .int .i64 later]] w (Rets fun r w' => r = .bool true ∧ Upd0 w w') := by
  have hSh := Lib.hid hS
  have hw := Lib.hid (fun (w' : World) (k : SR w' ao dt) => (show Calls Try.prog 33 #[.agg #[.string ⟨nm.toArray⟩, .int .i64 ty, .int .i64 tl, .slice ao dt.length cap]] w' (Rets fun r w'' => r = .bool true ∧ Upd0 w' w'') from by have h1 := cshort_w ⟨nm, ty, tl, dt⟩ ao cap w' k; rw [hf] at h1; exact h1))
  have hok1 : COk c1 := by rw [← hp.2]; exact putS_ok (empty_ok 3 most (by decide) (by decide) hm1 hm2) hf
  have hN1 : c1.N ≤ 1000000 := by rw [← hp.2]; exact Int.le_trans (putS_N _ _ _ _) (by simp only []; omega)
  have hn7 : nm.length ≤ 70000 := by have := (fewS_num hf).2.1; simp only [] at this; omega
  have hP := Lib.hid (fun (t : Nat) (w' : World) (hB : w.heap.size ≤ w'.heap.size) (h : Ca w.heap.size w' t ⟨3, most, 0, []⟩) (k : Stay w.heap.size w' ao dt) => (show Calls Try.prog 34 #[.pointer (some ⟨t, 0, none⟩), .agg #[.string ⟨nm.toArray⟩, .int .i64 ty, .int .i64 tl, .slice ao dt.length cap], .int .i64 rk, .int .i64 now] w' (Rets fun r w'' => r = .int .i64 0 ∧ UpdQ w.heap.size w' w'' ∧ Ca w.heap.size w'' t c1) from by have h1 := cput_w t ⟨3, most, 0, []⟩ ⟨nm, ty, tl, dt⟩ ao cap rk now w' (empty_ok 3 most (by decide) (by decide) hm1 hm2) (by decide) hf hB h k; rw [hp.1, hp.2] at h1; exact h1))
  have hG := Lib.hid (fun (t : Nat) (w' : World) (h : Ca w.heap.size w' t c1) => cget_miss t c1 nm ty later w' hok1 hn7 hty h hh)
  clear hp hh hok1 hN1
  have hwr : wrap64 (now + min tl most) = now + min tl most := by unfold wrap64; omega
  clear hS hf
  go_enter Try.func11, Try.ntmps11
  go_upto_region 1 with (first | (with_reducible refine wp_serial (by kernel_rfl) (by kernel_rfl) (by (repeat (first | (with_reducible apply NoBad.then) | (with_reducible apply NoBad.inBlock) | (with_reducible apply NoBad.jump) | (with_reducible exact NoBad.rets))); done) ?_) | fail)
  go_region
  go_wp2_with (first
    | (go_at_call 33; (with_reducible refine (hw.out _ (hSh.out.up (by (repeat (first | (with_reducible exact Upd.refl _ _) | (with_reducible assumption) | (with_reducible apply Upd.drew) | (with_reducible apply Upd.alloc) | (refine Upd0.tr ?_ (by with_reducible assumption)) | (refine Upd.setCell ?_ (fun h => absurd h (by first | exact Nat.lt_irrefl _ | (simp only []; omega))) _))); done))).use ?_); rintro v w1 ⟨rfl, hu1⟩; have U1 : Upd0 w w1 := (by (repeat (first | (with_reducible exact Upd.refl _ _) | (with_reducible assumption) | (with_reducible apply Upd.drew) | (with_reducible apply Upd.alloc) | (refine Upd0.tr ?_ (by with_reducible assumption)) | (refine Upd.setCell ?_ (fun h => absurd h (by first | exact Nat.lt_irrefl _ | (simp only []; omega))) _))); done); have y1 := Lib.hid (hu1.block (fun h => h) (alloc_last _ _ (w.heap.size + 1) (by simp))); have yc := set4 y1.out; obtain ⟨c0, c1, c2, c3⟩ := yc; have z1 := U1.size; have l1 := blk_lt y1.out)
    | (go_at_call 31; (with_reducible refine (cnew_w 3 most (by decide) (by decide) hm1 hm2 _).use ?_); rintro v w2 ⟨t, rfl, hu2, hc2⟩; have U2 : Upd0 w w2 := (by (repeat (first | (with_reducible exact Upd.refl _ _) | (with_reducible assumption) | (with_reducible apply Upd.drew) | (with_reducible apply Upd.alloc) | (refine Upd0.tr ?_ (by with_reducible assumption)) | (refine Upd.setCell ?_ (fun h => absurd h (by first | exact Nat.lt_irrefl _ | (simp only []; omega))) _))); done); have C2 := Lib.hid (hc2.lower U1.size); have y2 := Lib.hid (hu2.block (fun h => h) y1.out); have yd := set4 y2.out; obtain ⟨d0, d1, d2, d3⟩ := yd; have z2 := U2.size; have l2 := blk_lt y2.out; clear hc2)
    | (go_at_call 34; (with_reducible refine (hP.out t _ z2 C2.out (Stay.of hSh.out U2)).use ?_); rintro v w3 ⟨rfl, hq3, hc3⟩; have U3 : Upd0 w w3 := UpdQ.fin U2 hq3; have C3 := Lib.hid hc3; have y3 := Lib.hid (keepS y2.out hq3); have ye := set4 y3.out; obtain ⟨e0, e1, e2, e3⟩ := ye; have z3 := U3.size; have l3 := blk_lt y3.out; clear hc3)
    | (go_at_call 36; (with_reducible refine (hG.out t _ C3.out).use ?_); rintro v w4 ⟨rfl, hu4⟩; have U4 : Upd0 w w4 := U3.tr hu4; have y4 := Lib.hid (hu4.block (fun h => h) y3.out); have yf := set4 y4.out; obtain ⟨f0, f1, f2, f3⟩ := yf; have z4 := U4.size; have l4 := blk_lt y4.out)
    | (go_at_call 32; (with_reducible refine (clive_w _).use ?_); rintro v wl ⟨rfl, hul⟩)
    | (with_reducible refine wp_serial (by kernel_rfl) (by kernel_rfl) (by (repeat (first | (with_reducible apply NoBad.then) | (with_reducible apply NoBad.inBlock) | (with_reducible apply NoBad.jump) | (with_reducible exact NoBad.rets))); done) ?_) | fail)
  all_goals go_returns
  all_goals exact ⟨rfl, show Upd0 w _ from U4.tr (by (repeat (first | (with_reducible exact Upd.refl _ _) | (with_reducible assumption) | (with_reducible apply Upd.drew) | (with_reducible apply Upd.alloc) | (refine Upd0.tr ?_ (by with_reducible assumption)) | (refine Upd.setCell ?_ (fun h => absurd h (by first | exact Nat.lt_irrefl _ | (simp only []; omega))) _))); done)⟩
set_option maxRecDepth 100000 in
set_option maxHeartbeats 4000000 in
theorem puts_10 (nm : Bs) (ty tl : Int) (dt : List Bs) (ao : Option Addr) (cap : Nat) (rk most now later : Int) (w : World) (hS : SR w ao dt) (hf : fewS ⟨nm, ty, tl, dt⟩ = true) (n1 : ¬ now < 0) (n2 : ¬ 1000000 < now) (n3 : ¬ later < 0) (n4 : ¬ 10000000 < later) (hm1 : 1 ≤ most) (hm2 : most ≤ 2147483647) (hty : (Lit.int .i64 ty).wf = true) (c1 : CS) (ht : 0 < tl) (ht2 : tl ≤ 2147483647) (hl : later < now + min tl most) (hp : putI ⟨3, most, 0, []⟩ ⟨nm, ty, tl, dt⟩ rk now = 0 ∧ putS ⟨3, most, 0, []⟩ ⟨nm, ty, tl, dt⟩ rk now = c1) (hh : hitB c1 nm ty later = some ⟨nm, ty, tl, dt, rk, now + min tl most, 1⟩) : Calls Try.prog 11 #[.agg #[.string ⟨nm.toArray⟩, .int .i64 ty, .int .i64 tl, .slice ao dt.length cap, .int .i64 rk, .int .i64 most, .int .i64 now, .int .i64 later]] w (Rets fun r w' => r = .bool true ∧ Upd0 w w') := by
  have hSh := Lib.hid hS
  have hw := Lib.hid (fun (w' : World) (k : SR w' ao dt) => (show Calls Try.prog 33 #[.agg #[.string ⟨nm.toArray⟩, .int .i64 ty, .int .i64 tl, .slice ao dt.length cap]] w' (Rets fun r w'' => r = .bool true ∧ Upd0 w' w'') from by have h1 := cshort_w ⟨nm, ty, tl, dt⟩ ao cap w' k; rw [hf] at h1; exact h1))
  have hok1 : COk c1 := by rw [← hp.2]; exact putS_ok (empty_ok 3 most (by decide) (by decide) hm1 hm2) hf
  have hN1 : c1.N ≤ 1000000 := by rw [← hp.2]; exact Int.le_trans (putS_N _ _ _ _) (by simp only []; omega)
  have hn7 : nm.length ≤ 70000 := by have := (fewS_num hf).2.1; simp only [] at this; omega
  have hP := Lib.hid (fun (t : Nat) (w' : World) (hB : w.heap.size ≤ w'.heap.size) (h : Ca w.heap.size w' t ⟨3, most, 0, []⟩) (k : Stay w.heap.size w' ao dt) => (show Calls Try.prog 34 #[.pointer (some ⟨t, 0, none⟩), .agg #[.string ⟨nm.toArray⟩, .int .i64 ty, .int .i64 tl, .slice ao dt.length cap], .int .i64 rk, .int .i64 now] w' (Rets fun r w'' => r = .int .i64 0 ∧ UpdQ w.heap.size w' w'' ∧ Ca w.heap.size w'' t c1) from by have h1 := cput_w t ⟨3, most, 0, []⟩ ⟨nm, ty, tl, dt⟩ ao cap rk now w' (empty_ok 3 most (by decide) (by decide) hm1 hm2) (by decide) hf hB h k; rw [hp.1, hp.2] at h1; exact h1))
  have hG := Lib.hid (fun (t : Nat) (w' : World) (hB : w.heap.size ≤ w'.heap.size) (h : Ca w.heap.size w' t c1) => (show Calls Try.prog 36 #[.pointer (some ⟨t, 0, none⟩), .string ⟨nm.toArray⟩, .int .i64 ty, .int .i64 later] w' (Rets fun r w'' => ∃ ao2 cap2, r = .tuple #[.agg #[.string ⟨nm.toArray⟩, .int .i64 ty, .int .i64 (now + min tl most - later), .slice ao2 dt.length cap2], .int .i64 rk, .bool true] ∧ UpdQ w.heap.size w' w'' ∧ DR w'' ao2 dt) from (cget_hit t c1 nm ty later _ w' hok1 hN1 hn7 hty hB h hh).use fun v w'' ⟨ao2, cap2, x1, x2, _, x4⟩ => ⟨ao2, cap2, x1, x2, x4⟩))
  have hl6 : dt.length ≤ 1000000 := by have := (fewS_num hf).1; simp only [] at this; omega
  have htt := Lib.hid (show (dt == dt) = true from beq_self_eq_true dt)
  have hwr2 : wrap64 (now + min tl most - later) = now + min tl most - later := by unfold wrap64; omega
  clear hp hh hok1 hN1
  have hwr : wrap64 (now + min tl most) = now + min tl most := by unfold wrap64; omega
  clear hS hf
  go_enter Try.func11, Try.ntmps11
  go_upto_region 1 with (first | (with_reducible refine wp_serial (by kernel_rfl) (by kernel_rfl) (by (repeat (first | (with_reducible apply NoBad.then) | (with_reducible apply NoBad.inBlock) | (with_reducible apply NoBad.jump) | (with_reducible exact NoBad.rets))); done) ?_) | fail)
  go_region
  go_wp2_with (first
    | (go_at_call 33; (with_reducible refine (hw.out _ (hSh.out.up (by (repeat (first | (with_reducible exact Upd.refl _ _) | (with_reducible assumption) | (with_reducible apply Upd.drew) | (with_reducible apply Upd.alloc) | (refine Upd0.tr ?_ (by with_reducible assumption)) | (refine Upd.setCell ?_ (fun h => absurd h (by first | exact Nat.lt_irrefl _ | (simp only []; omega))) _))); done))).use ?_); rintro v w1 ⟨rfl, hu1⟩; have U1 : Upd0 w w1 := (by (repeat (first | (with_reducible exact Upd.refl _ _) | (with_reducible assumption) | (with_reducible apply Upd.drew) | (with_reducible apply Upd.alloc) | (refine Upd0.tr ?_ (by with_reducible assumption)) | (refine Upd.setCell ?_ (fun h => absurd h (by first | exact Nat.lt_irrefl _ | (simp only []; omega))) _))); done); have y1 := Lib.hid (hu1.block (fun h => h) (alloc_last _ _ (w.heap.size + 1) (by simp))); have yc := set4 y1.out; obtain ⟨c0, c1, c2, c3⟩ := yc; have z1 := U1.size; have l1 := blk_lt y1.out)
    | (go_at_call 31; (with_reducible refine (cnew_w 3 most (by decide) (by decide) hm1 hm2 _).use ?_); rintro v w2 ⟨t, rfl, hu2, hc2⟩; have U2 : Upd0 w w2 := (by (repeat (first | (with_reducible exact Upd.refl _ _) | (with_reducible assumption) | (with_reducible apply Upd.drew) | (with_reducible apply Upd.alloc) | (refine Upd0.tr ?_ (by with_reducible assumption)) | (refine Upd.setCell ?_ (fun h => absurd h (by first | exact Nat.lt_irrefl _ | (simp only []; omega))) _))); done); have C2 := Lib.hid (hc2.lower U1.size); have y2 := Lib.hid (hu2.block (fun h => h) y1.out); have yd := set4 y2.out; obtain ⟨d0, d1, d2, d3⟩ := yd; have z2 := U2.size; have l2 := blk_lt y2.out; clear hc2)
    | (go_at_call 34; (with_reducible refine (hP.out t _ z2 C2.out (Stay.of hSh.out U2)).use ?_); rintro v w3 ⟨rfl, hq3, hc3⟩; have U3 : Upd0 w w3 := UpdQ.fin U2 hq3; have C3 := Lib.hid hc3; have y3 := Lib.hid (keepS y2.out hq3); have ye := set4 y3.out; obtain ⟨e0, e1, e2, e3⟩ := ye; have z3 := U3.size; have l3 := blk_lt y3.out; clear hc3)
    | (go_at_call 36; (with_reducible refine (hG.out t _ z3 C3.out).use ?_); rintro v w4 ⟨ao4, cap4, rfl, hq4, hd4⟩; have U4 : Upd0 w w4 := UpdQ.fin U3 hq4; have y4 := Lib.hid (keepS y3.out hq4); have yf := set4 y4.out; obtain ⟨f0, f1, f2, f3⟩ := yf; have z4 := U4.size; have l4 := blk_lt y4.out; have D4 := Lib.hid hd4; clear hd4)
    | (go_at_call 40; (with_reducible refine Calls.use (rtexts2_w ao4 ao cap4 cap dt dt _ (D4.out.1.up (by (repeat (first | (with_reducible exact Upd.refl _ _) | (with_reducible assumption) | (with_reducible apply Upd.drew) | (with_reducible apply Upd.alloc) | (refine Upd0.tr ?_ (by with_reducible assumption)) | (refine Upd.setCell ?_ (fun h => absurd h (by first | exact Nat.lt_irrefl _ | (simp only []; omega))) _))); done)) ((hSh.out.up U4).up (by (repeat (first | (with_reducible exact Upd.refl _ _) | (with_reducible assumption) | (with_reducible apply Upd.drew) | (with_reducible apply Upd.alloc) | (refine Upd0.tr ?_ (by with_reducible assumption)) | (refine Upd.setCell ?_ (fun h => absurd h (by first | exact Nat.lt_irrefl _ | (simp only []; omega))) _))); done)) hl6 hl6) ?_); rintro v w5 ⟨rfl, hu5⟩; rw [htt.out])
    | (go_at_call 32; (with_reducible refine (clive_w _).use ?_); rintro v wl ⟨rfl, hul⟩)
    | (with_reducible refine wp_serial (by kernel_rfl) (by kernel_rfl) (by (repeat (first | (with_reducible apply NoBad.then) | (with_reducible apply NoBad.inBlock) | (with_reducible apply NoBad.jump) | (with_reducible exact NoBad.rets))); done) ?_) | fail)
  all_goals go_returns
  all_goals exact ⟨rfl, show Upd0 w _ from U4.tr (by (repeat (first | (with_reducible exact Upd.refl _ _) | (with_reducible assumption) | (with_reducible apply Upd.drew) | (with_reducible apply Upd.alloc) | (refine Upd0.tr ?_ (by with_reducible assumption)) | (refine Upd.setCell ?_ (fun h => absurd h (by first | exact Nat.lt_irrefl _ | (simp only []; omega))) _))); done)⟩
theorem hit_empty (most N : Int) (nm : Bs) (ty now : Int) : hitB ⟨3, most, N, []⟩ nm ty now = none := by
  unfold hitB; split <;> rfl
theorem puts_one {nm : Bs} {ty tl : Int} {dt : List Bs} {rk most now : Int} (hb : putB ⟨nm, ty, tl, dt⟩ rk now = true) : putI ⟨3, most, 0, []⟩ ⟨nm, ty, tl, dt⟩ rk now = 0 ∧ putS ⟨3, most, 0, []⟩ ⟨nm, ty, tl, dt⟩ rk now = (if tl = 0 then ⟨3, most, 0, []⟩ else ⟨3, most, 1, [⟨nm, ty, tl, dt, rk, now + min tl most, 1⟩]⟩) := by
  have hd : denyB [] ⟨nm, ty, tl, dt⟩ rk now = false := rfl
  refine ⟨by rw [putI, hb, if_pos rfl, hd, if_neg (by decide)], ?_⟩
  rw [putS, hb, if_pos rfl, hd, if_neg (by decide), putZ]
  split <;> rfl
theorem cachePuts_walk (s : St) (ao : Option Addr) (cap : Nat) (rk most now later : Int) (w : World) (hS : SR w ao s.dt) (hty : (Lit.int .i64 s.ty).wf = true) : Calls Try.prog 11 #[.agg #[.string ⟨s.nm.toArray⟩, .int .i64 s.ty, .int .i64 s.tl, .slice ao s.dt.length cap, .int .i64 rk, .int .i64 most, .int .i64 now, .int .i64 later]] w (Rets fun r w' => r = .bool true ∧ Upd0 w w') := by
  obtain ⟨nm, ty, tl, dt⟩ := s
  simp only [] at hS hty ⊢
  cases hf : fewS ⟨nm, ty, tl, dt⟩ with
  | false => exact puts_1 nm ty tl dt ao cap rk most now later w hS hf
  | true =>
    by_cases n1 : now < 0
    · exact puts_2 nm ty tl dt ao cap rk most now later w hS hf n1
    by_cases n2 : 1000000 < now
    · exact puts_3 nm ty tl dt ao cap rk most now later w hS hf n1 n2
    by_cases n3 : later < 0
    · exact puts_4 nm ty tl dt ao cap rk most now later w hS hf n1 n2 n3
    by_cases n4 : 10000000 < later
    · exact puts_5 nm ty tl dt ao cap rk most now later w hS hf n1 n2 n3 n4
    by_cases hm : 1 ≤ most ∧ most ≤ 2147483647
    case neg => exact puts_6 nm ty tl dt ao cap rk most now later w hS hf n1 n2 n3 n4 (fun h => hm h.2.2)
    obtain ⟨hm1, hm2⟩ := hm
    cases hb : putB ⟨nm, ty, tl, dt⟩ rk now with
    | false => exact puts_7 nm ty tl dt ao cap rk most now later w hS hf n1 n2 n3 n4 hm1 hm2 hty _ ⟨by rw [putI, hb, if_neg (by decide)], by rw [putS, hb, if_neg (by decide)]⟩ (hit_empty _ _ _ _ _)
    | true =>
      have h1 := puts_one (most := most) hb
      have hmn := may_num (putB_num hb).1
      simp only [] at hmn
      by_cases ht : tl = 0
      · rw [if_pos ht] at h1
        exact puts_8 nm ty tl dt ao cap rk most now later w hS hf n1 n2 n3 n4 hm1 hm2 hty _ (by omega) h1 (hit_empty _ _ _ _ _)
      · rw [if_neg ht] at h1
        have hk : isK (fold nm) ty ⟨nm, ty, tl, dt, rk, now + min tl most, 1⟩ = true := isK_iff.2 ⟨hmn.1.symm, rfl⟩
        have hh : hitB ⟨3, most, 1, [⟨nm, ty, tl, dt, rk, now + min tl most, 1⟩]⟩ nm ty later = if later < now + min tl most then some ⟨nm, ty, tl, dt, rk, now + min tl most, 1⟩ else none := by
          rw [hitB, if_pos (by omega)]
          simp only [List.find?_cons_of_pos hk, Option.filter_some, decide_eq_true_eq]
        by_cases hl : later < now + min tl most
        · rw [if_pos hl] at hh
          exact puts_10 nm ty tl dt ao cap rk most now later w hS hf n1 n2 n3 n4 hm1 hm2 hty _ (by omega) (by omega) hl h1 hh
        · rw [if_neg hl] at hh
          exact puts_9 nm ty tl dt ao cap rk most now later w hS hf n1 n2 n3 n4 hm1 hm2 hty _ (by omega) (by omega) hl h1 hh
end Go.Proofs.Ytijmbpokglohbaa
