/-
  The walk of CachePuts, some of its ways.
-/
import Derived.Test.YtijmbpokglohbaaCaPu0
namespace Go.Proofs.Ytijmbpokglohbaa
open Go.RowKit Go.Maps
set_option linter.unusedSimpArgs false
set_option linter.unusedVariables false
set_option maxRecDepth 100000 in
set_option maxHeartbeats 4000000 in
theorem puts_1 (nm : Bs) (ty tl : Int) (dt : List Bs) (ao : Option Addr) (cap : Nat) (rk most now later : Int) (w : World) (hS : SR w ao dt) (hf : fewS ⟨nm, ty, tl, dt⟩ = false) : Calls Try.prog 11 #[.agg #[.string ⟨nm.toArray⟩, .int .i64 ty, .int .i64 tl, .slice ao dt.length cap, .int .i64 rk, .int .i64 most, .int .i64 now, .int .i64 later]] w (Rets fun r w' => r = .bool true ∧ Upd0 w w') := by
  have hSh := Lib.hid hS
  have hw := Lib.hid (fun (w' : World) (k : SR w' ao dt) => (show Calls Try.prog 33 #[.agg #[.string ⟨nm.toArray⟩, .int .i64 ty, .int .i64 tl, .slice ao dt.length cap]] w' (Rets fun r w'' => r = .bool false ∧ Upd0 w' w'') from by have h1 := cshort_w ⟨nm, ty, tl, dt⟩ ao cap w' k; rw [hf] at h1; exact h1))
  clear hS hf
  go_enter Try.func11, Try.ntmps11
  go_upto_region 1 with (first | (with_reducible refine wp_serial (by kernel_rfl) (by kernel_rfl) (by (repeat (first | (with_reducible apply NoBad.then) | (with_reducible apply NoBad.inBlock) | (with_reducible apply NoBad.jump) | (with_reducible exact NoBad.rets))); done) ?_) | fail)
  go_region
  go_wp2_with (first
    | (go_at_call 33; (with_reducible refine (hw.out _ (hSh.out.up (by (repeat (first | (with_reducible exact Upd.refl _ _) | (with_reducible assumption) | (with_reducible apply Upd.drew) | (with_reducible apply Upd.alloc) | (refine Upd0.tr ?_ (by with_reducible assumption)) | (refine Upd.setCell ?_ (fun h => absurd h (by first | exact Nat.lt_irrefl _ | (simp only []; omega))) _))); done))).use ?_); rintro v w1 ⟨rfl, hu1⟩; have U1 : Upd0 w w1 := (by (repeat (first | (with_reducible exact Upd.refl _ _) | (with_reducible assumption) | (with_reducible apply Upd.drew) | (with_reducible apply Upd.alloc) | (refine Upd0.tr ?_ (by with_reducible assumption)) | (refine Upd.setCell ?_ (fun h => absurd h (by first | exact Nat.lt_irrefl _ | (simp only []; omega))) _))); done); have y1 := Lib.hid (hu1.block (fun h => h) (alloc_last _ _ (w.heap.size + 1) (by simp))); have yc := set4 y1.out; obtain ⟨c0, c1, c2, c3⟩ := yc; have z1 := U1.size; have l1 := blk_lt y1.out)
    | (go_at_call 32; (with_reducible refine (clive_w _).use ?_); rintro v wl ⟨rfl, hul⟩)
    | (with_reducible refine wp_serial (by kernel_rfl) (by kernel_rfl) (by (repeat (first | (with_reducible apply NoBad.then) | (with_reducible apply NoBad.inBlock) | (with_reducible apply NoBad.jump) | (with_reducible exact NoBad.rets))); done) ?_) | fail)
  all_goals go_returns
  all_goals exact ⟨rfl, show Upd0 w _ from U1.tr (by (repeat (first | (with_reducible exact Upd.refl _ _) | (with_reducible assumption) | (with_reducible apply Upd.drew) | (with_reducible apply Upd.alloc) | (refine Upd0.tr ?_ (by with_reducible assumption)) | (refine Upd.setCell ?_ (fun h => absurd h (by first | exact Nat.lt_irrefl _ | (simp only []; omega))) _))); done)⟩
set_option maxRecDepth 100000 in
set_option maxHeartbeats 4000000 in
theorem puts_2 (nm : Bs) (ty tl : Int) (dt : List Bs) (ao : Option Addr) (cap : Nat) (rk most now later : Int) (w : World) (hS : SR w ao dt) (hf : fewS ⟨nm, ty, tl, dt⟩ = true) (n1 : now < 0) : Calls Try.prog 11 #[.agg #[.string ⟨nm.toArray⟩, .int .i64 ty, .int .i64 tl, .slice ao dt.length cap, .int .i64 rk, .int .i64 most, .int .i64 now, .int .i64 later]] w (Rets fun r w' => r = .bool true ∧ Upd0 w w') := by
  have hSh := Lib.hid hS
  have hw := Lib.hid (fun (w' : World) (k : SR w' ao dt) => (show Calls Try.prog 33 #[.agg #[.string ⟨nm.toArray⟩, .int .i64 ty, .int .i64 tl, .slice ao dt.length cap]] w' (Rets fun r w'' => r = .bool true ∧ Upd0 w' w'') from by have h1 := cshort_w ⟨nm, ty, tl, dt⟩ ao cap w' k; rw [hf] at h1; exact h1))
  clear hS hf
  go_enter Try.func11, Try.ntmps11
  go_upto_region 1 with (first | (with_reducible refine wp_serial (by kernel_rfl) (by kernel_rfl) (by (repeat (first | (with_reducible apply NoBad.then) | (with_reducible apply NoBad.inBlock) | (with_reducible apply NoBad.jump) | (with_reducible exact NoBad.rets))); done) ?_) | fail)
  go_region
  go_wp2_with (first
    | (go_at_call 33; (with_reducible refine (hw.out _ (hSh.out.up (by (repeat (first | (with_reducible exact Upd.refl _ _) | (with_reducible assumption) | (with_reducible apply Upd.drew) | (with_reducible apply Upd.alloc) | (refine Upd0.tr ?_ (by with_reducible assumption)) | (refine Upd.setCell ?_ (fun h => absurd h (by first | exact Nat.lt_irrefl _ | (simp only []; omega))) _))); done))).use ?_); rintro v w1 ⟨rfl, hu1⟩; have U1 : Upd0 w w1 := (by (repeat (first | (with_reducible exact Upd.refl _ _) | (with_reducible assumption) | (with_reducible apply Upd.drew) | (with_reducible apply Upd.alloc) | (refine Upd0.tr ?_ (by with_reducible assumption)) | (refine Upd.setCell ?_ (fun h => absurd h (by first | exact Nat.lt_irrefl _ | (simp only []; omega))) _))); done); have y1 := Lib.hid (hu1.block (fun h => h) (alloc_last _ _ (w.heap.size + 1) (by simp))); have yc := set4 y1.out; obtain ⟨c0, c1, c2, c3⟩ := yc; have z1 := U1.size; have l1 := blk_lt y1.out)
    | (go_at_call 32; (with_reducible refine (clive_w _).use ?_); rintro v wl ⟨rfl, hul⟩)
    | (with_reducible refine wp_serial (by kernel_rfl) (by kernel_rfl) (by (repeat (first | (with_reducible apply NoBad.then) | (with_reducible apply NoBad.inBlock) | (with_reducible apply NoBad.jump) | (with_reducible exact NoBad.rets))); done) ?_) | fail)
  all_goals go_returns
  all_goals exact ⟨rfl, show Upd0 w _ from U1.tr (by (repeat (first | (with_reducible exact Upd.refl _ _) | (with_reducible assumption) | (with_reducible apply Upd.drew) | (with_reducible apply Upd.alloc) | (refine Upd0.tr ?_ (by with_reducible assumption)) | (refine Upd.setCell ?_ (fun h => absurd h (by first | exact Nat.lt_irrefl _ | (simp only []; omega))) _))); done)⟩
set_option maxRecDepth 100000 in
set_option maxHeartbeats 4000000 in
theorem puts_3 (nm : Bs) (ty tl : Int) (dt : List Bs) (ao : Option Addr) (cap : Nat) (rk most now later : Int) (w : World) (hS : SR w ao dt) (hf : fewS ⟨nm, ty, tl, dt⟩ = true) (n1 : ¬ now < 0) (n2 : 1000000 < now) : Calls Try.prog 11 #[.agg #[.string ⟨nm.toArray⟩, .int .i64 ty, .int .i64 tl, .slice ao dt.length cap, .int .i64 rk, .int .i64 most, .int .i64 now, .int .i64 later]] w (Rets fun r w' => r = .bool true ∧ Upd0 w w') := by
  have hSh := Lib.hid hS
  have hw := Lib.hid (fun (w' : World) (k : SR w' ao dt) => (show Calls Try.prog 33 #[.agg #[.string ⟨nm.toArray⟩, .int .i64 ty, .int .i64 tl, .slice ao dt.length cap]] w' (Rets fun r w'' => r = .bool true ∧ Upd0 w' w'') from by have h1 := cshort_w ⟨nm, ty, tl, dt⟩ ao cap w' k; rw [hf] at h1; exact h1))
  clear hS hf
  go_enter Try.func11, Try.ntmps11
  go_upto_region 1 with (first | (with_reducible refine wp_serial (by kernel_rfl) (by kernel_rfl) (by (repeat (first | (with_reducible apply NoBad.then) | (with_reducible apply NoBad.inBlock) | (with_reducible apply NoBad.jump) | (with_reducible exact NoBad.rets))); done) ?_) | fail)
  go_region
  go_wp2_with (first
    | (go_at_call 33; (with_reducible refine (hw.out _ (hSh.out.up (by (repeat (first | (with_reducible exact Upd.refl _ _) | (with_reducible assumption) | (with_reducible apply Upd.drew) | (with_reducible apply Upd.alloc) | (refine Upd0.tr ?_ (by with_reducible assumption)) | (refine Upd.setCell ?_ (fun h => absurd h (by first | exact Nat.lt_irrefl _ | (simp only []; omega))) _))); done))).use ?_); rintro v w1 ⟨rfl, hu1⟩; have U1 : Upd0 w w1 := (by (repeat (first | (with_reducible exact Upd.refl _ _) | (with_reducible assumption) | (with_reducible apply Upd.drew) | (with_reducible apply Upd.alloc) | (refine Upd0.tr ?_ (by with_reducible assumption)) | (refine Upd.setCell ?_ (fun h => absurd h (by first | exact Nat.lt_irrefl _ | (simp only []; omega))) _))); done); have y1 := Lib.hid (hu1.block (fun h => h) (alloc_last _ _ (w.heap.size + 1) (by simp))); have yc := set4 y1.out; obtain ⟨c0, c1, c2, c3⟩ := yc; have z1 := U1.size; have l1 := blk_lt y1.out)
    | (go_at_call 32; (with_reducible refine (clive_w _).use ?_); rintro v wl ⟨rfl, hul⟩)
    | (with_reducible refine wp_serial (by kernel_rfl) (by kernel_rfl) (by (repeat (first | (with_reducible apply NoBad.then) | (with_reducible apply NoBad.inBlock) | (with_reducible apply NoBad.jump) | (with_reducible exact NoBad.rets))); done) ?_) | fail)
  all_goals go_returns
  all_goals exact ⟨rfl, show Upd0 w _ from U1.tr (by (repeat (first | (with_reducible exact Upd.refl _ _) | (with_reducible assumption) | (with_reducible apply Upd.drew) | (with_reducible apply Upd.alloc) | (refine Upd0.tr ?_ (by with_reducible assumption)) | (refine Upd.setCell ?_ (fun h => absurd h (by first | exact Nat.lt_irrefl _ | (simp only []; omega))) _))); done)⟩
set_option maxRecDepth 100000 in
set_option maxHeartbeats 4000000 in
theorem puts_4 (nm : Bs) (ty tl : Int) (dt : List Bs) (ao : Option Addr) (cap : Nat) (rk most now later : Int) (w : World) (hS : SR w ao dt) (hf : fewS ⟨nm, ty, tl, dt⟩ = true) (n1 : ¬ now < 0) (n2 : ¬ 1000000 < now) (n3 : later < 0) : Calls Try.prog 11 #[.agg #[.string ⟨nm.toArray⟩, .int .i64 ty, .int .i64 tl, .slice ao dt.length cap, .int .i64 rk, .int .i64 most, .int .i64 now, .int .i64 later]] w (Rets fun r w' => r = .bool true ∧ Upd0 w w') := by
  have hSh := Lib.hid hS
  have hw := Lib.hid (fun (w' : World) (k : SR w' ao dt) => (show Calls Try.prog 33 #[.agg #[.string ⟨nm.toArray⟩, .int .i64 ty, .int .i64 tl, .slice ao dt.length cap]] w' (Rets fun r w'' => r = .bool true ∧ Upd0 w' w'') from by have h1 := cshort_w ⟨nm, ty, tl, dt⟩ ao cap w' k; rw [hf] at h1; exact h1))
  clear hS hf
  go_enter Try.func11, Try.ntmps11
  go_upto_region 1 with (first | (with_reducible refine wp_serial (by kernel_rfl) (by kernel_rfl) (by (repeat (first | (with_reducible apply NoBad.then) | (with_reducible apply NoBad.inBlock) | (with_reducible apply NoBad.jump) | (with_reducible exact NoBad.rets))); done) ?_) | fail)
  go_region
  go_wp2_with (first
    | (go_at_call 33; (with_reducible refine (hw.out _ (hSh.out.up (by (repeat (first | (with_reducible exact Upd.refl _ _) | (with_reducible assumption) | (with_reducible apply Upd.drew) | (with_reducible apply Upd.alloc) | (refine Upd0.tr ?_ (by with_reducible assumption)) | (refine Upd.setCell ?_ (fun h => absurd h (by first | exact Nat.lt_irrefl _ | (simp only []; omega))) _))); done))).use ?_); rintro v w1 ⟨rfl, hu1⟩; have U1 : Upd0 w w1 := (by (repeat (first | (with_reducible exact Upd.refl _ _) | (with_reducible assumption) | (with_reducible apply Upd.drew) | (with_reducible apply Upd.alloc) | (refine Upd0.tr ?_ (by with_reducible assumption)) | (refine Upd.setCell ?_ (fun h => absurd h (by first | exact Nat.lt_irrefl _ | (simp only []; omega))) _))); done); have y1 := Lib.hid (hu1.block (fun h => h) (alloc_last _ _ (w.heap.size + 1) (by simp))); have yc := set4 y1.out; obtain ⟨c0, c1, c2, c3⟩ := yc; have z1 := U1.size; have l1 := blk_lt y1.out)
    | (go_at_call 32; (with_reducible refine (clive_w _).use ?_); rintro v wl ⟨rfl, hul⟩)
    | (with_reducible refine wp_serial (by kernel_rfl) (by kernel_rfl) (by (repeat (first | (with_reducible apply NoBad.then) | (with_reducible apply NoBad.inBlock) | (with_reducible apply NoBad.jump) | (with_reducible exact NoBad.rets))); done) ?_) | fail)
  all_goals go_returns
  all_goals exact ⟨rfl, show Upd0 w _ from U1.tr (by (repeat (first | (with_reducible exact Upd.refl _ _) | (with_reducible assumption) | (with_reducible apply Upd.drew) | (with_reducible apply Upd.alloc) | (refine Upd0.tr ?_ (by with_reducible assumption)) | (refine Upd.setCell ?_ (fun h => absurd h (by first | exact Nat.lt_irrefl _ | (simp only []; omega))) _))); done)⟩
set_option maxRecDepth 100000 in
set_option maxHeartbeats 4000000 in
theorem puts_5 (nm : Bs) (ty tl : Int) (dt : List Bs) (ao : Option Addr) (cap : Nat) (rk most now later : Int) (w : World) (hS : SR w ao dt) (hf : fewS ⟨nm, ty, tl, dt⟩ = true) (n1 : ¬ now < 0) (n2 : ¬ 1000000 < now) (n3 : ¬ later < 0) (n4 : 10000000 < later) : Calls Try.prog 11 #[.agg #[.string ⟨nm.toArray⟩, .int .i64 ty, .int .i64 tl, .slice ao dt.length cap, .int .i64 rk, .int .i64 most, .int .i64 now, .int .i64 later]] w (Rets fun r w' => r = .bool true ∧ Upd0 w w') := by
  have hSh := Lib.hid hS
  have hw := Lib.hid (fun (w' : World) (k : SR w' ao dt) => (show Calls Try.prog 33 #[.agg #[.string ⟨nm.toArray⟩, .int .i64 ty, .int .i64 tl, .slice ao dt.length cap]] w' (Rets fun r w'' => r = .bool true ∧ Upd0 w' w'') from by have h1 := cshort_w ⟨nm, ty, tl, dt⟩ ao cap w' k; rw [hf] at h1; exact h1))
  clear hS hf
  go_enter Try.func11, Try.ntmps11
  go_upto_region 1 with (first | (with_reducible refine wp_serial (by kernel_rfl) (by kernel_rfl) (by (repeat (first | (with_reducible apply NoBad.then) | (with_reducible apply NoBad.inBlock) | (with_reducible apply NoBad.jump) | (with_reducible exact NoBad.rets))); done) ?_) | fail)
  go_region
  go_wp2_with (first
    | (go_at_call 33; (with_reducible refine (hw.out _ (hSh.out.up (by (repeat (first | (with_reducible exact Upd.refl _ _) | (with_reducible assumption) | (with_reducible apply Upd.drew) | (with_reducible apply Upd.alloc) | (refine Upd0.tr ?_ (by with_reducible assumption)) | (refine Upd.setCell ?_ (fun h => absurd h (by first | exact Nat.lt_irrefl _ | (simp only []; omega))) _))); done))).use ?_); rintro v w1 ⟨rfl, hu1⟩; have U1 : Upd0 w w1 := (by (repeat (first | (with_reducible exact Upd.refl _ _) | (with_reducible assumption) | (with_reducible apply Upd.drew) | (with_reducible apply Upd.alloc) | (refine Upd0.tr ?_ (by with_reducible assumption)) | (refine Upd.setCell ?_ (fun h => absurd h (by first | exact Nat.lt_irrefl _ | (simp only []; omega))) _))); done); have y1 := Lib.hid (hu1.block (fun h => h) (alloc_last _ _ (w.heap.size + 1) (by simp))); have yc := set4 y1.out; obtain ⟨c0, c1, c2, c3⟩ := yc; have z1 := U1.size; have l1 := blk_lt y1.out)
    | (go_at_call 32; (with_reducible refine (clive_w _).use ?_); rintro v wl ⟨rfl, hul⟩)
    | (with_reducible refine wp_serial (by kernel_rfl) (by kernel_rfl) (by (repeat (first | (with_reducible apply NoBad.then) | (with_reducible apply NoBad.inBlock) | (with_reducible apply NoBad.jump) | (with_reducible exact NoBad.rets))); done) ?_) | fail)
  all_goals go_returns
  all_goals exact ⟨rfl, show Upd0 w _ from U1.tr (by (repeat (first | (with_reducible exact Upd.refl _ _) | (with_reducible assumption) | (with_reducible apply Upd.drew) | (with_reducible apply Upd.alloc) | (refine Upd0.tr ?_ (by with_reducible assumption)) | (refine Upd.setCell ?_ (fun h => absurd h (by first | exact Nat.lt_irrefl _ | (simp only []; omega))) _))); done)⟩
end Go.Proofs.Ytijmbpokglohbaa
