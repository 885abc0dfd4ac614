/-
  Some answers that the document gives.
-/
import Derived.Test.YtebnilkcpklnmaaRdP
namespace Go.Proofs.Ytebnilkcpklnmaa
open Go.RowKit
set_option linter.unusedSimpArgs false
set_option linter.unusedVariables false
theorem le_cast (n : Nat) : decide ((n : Int) ≤ 5000) = decide (n ≤ 5000) := by rw [decide_eq_decide]; omega
theorem short_w (a b : Bs) (w : World) : Calls Try.prog 27 #[.string ⟨a.toArray⟩, .string ⟨b.toArray⟩] w (Rets fun r w' => r = .bool (decide (a.length ≤ 5000) && decide (b.length ≤ 5000)) ∧ Upd0 w w') := by
  rcases Nat.lt_or_ge 5000 a.length with h1 | h1
  · go_enter Try.func27, Try.ntmps27
    go_wp2_with (first | (with_reducible refine wp_serial (by kernel_rfl) (by kernel_rfl) (by (repeat (first | (with_reducible apply NoBad.then) | (with_reducible apply NoBad.inBlock) | (with_reducible exact NoBad.rets))); done) ?_) | fail)
    all_goals go_returns
    all_goals exact ⟨by rw [decide_eq_false (Nat.not_le.2 h1)]; rfl, (by (repeat (first | (with_reducible exact Upd.refl _ _) | (with_reducible assumption) | (with_reducible apply Upd.drew) | (with_reducible apply Upd.alloc) | (refine Upd0.tr ?_ (by with_reducible assumption)) | (refine Upd.setCell ?_ (fun h => absurd h (by first | exact Nat.lt_irrefl _ | (simp only []; omega))) _))); done)⟩
  · go_enter Try.func27, Try.ntmps27
    go_wp2_with (first | (with_reducible refine wp_serial (by kernel_rfl) (by kernel_rfl) (by (repeat (first | (with_reducible apply NoBad.then) | (with_reducible apply NoBad.inBlock) | (with_reducible exact NoBad.rets))); done) ?_) | fail)
    all_goals go_returns
    all_goals exact ⟨by rw [decide_eq_true h1, Bool.true_and, ← le_cast]; rfl, (by (repeat (first | (with_reducible exact Upd.refl _ _) | (with_reducible assumption) | (with_reducible apply Upd.drew) | (with_reducible apply Upd.alloc) | (refine Upd0.tr ?_ (by with_reducible assumption)) | (refine Upd.setCell ?_ (fun h => absurd h (by first | exact Nat.lt_irrefl _ | (simp only []; omega))) _))); done)⟩
theorem lv_host (w : World) : Calls Try.prog 35 #[.string ⟨#[1, 97]⟩] w (Rets fun r w' => r = .tuple #[.string ⟨#[1, 97, 0]⟩, .int .i64 0] ∧ Upd0 w w') :=
  host_w [1, 97] (by decide) w
theorem lv_ph1 (w : World) : Calls Try.prog 37 #[.int .i64 15, .string ⟨#[0, 5, 1, 97, 0]⟩] w (Rets fun r w' => r = .tuple #[.string ⟨#[1, 97]⟩, .int .i64 0] ∧ Upd0 w w') :=
  parseHost_w 15 [0, 5, 1, 97, 0] (by decide) w
theorem lv_ph2 (w : World) : Calls Try.prog 37 #[.int .i64 1, .string ⟨#[]⟩] w (Rets fun r w' => r = .tuple #[.string ⟨#[]⟩, .int .i64 5] ∧ Upd0 w w') :=
  parseHost_w 1 [] (by decide) w
theorem lv_soa (w : World) : Calls Try.prog 31 #[.agg #[.string ⟨#[1, 97]⟩, .string ⟨#[1, 98]⟩, .int .i64 7, .int .i64 1, .int .i64 2, .int .i64 3, .int .i64 4]] w (Rets fun r w' => r = .tuple #[.string ⟨#[1, 97, 0, 1, 98, 0, 0, 0, 0, 7, 0, 0, 0, 1, 0, 0, 0, 2, 0, 0, 0, 3, 0, 0, 0, 4]⟩, .int .i64 0] ∧ Upd0 w w') :=
  soa_w ⟨[1, 97], [1, 98], 7, 1, 2, 3, 4⟩ (by decide) (by decide) w
theorem lv_ps (w : World) : Calls Try.prog 33 #[.string ⟨#[1, 97, 0, 1, 98, 0, 0, 0, 0, 7, 0, 0, 0, 1, 0, 0, 0, 2, 0, 0, 0, 3, 0, 0, 0, 4]⟩] w (Rets fun r w' => r = .tuple #[.agg #[.string ⟨#[1, 97]⟩, .string ⟨#[1, 98]⟩, .int .i64 7, .int .i64 1, .int .i64 2, .int .i64 3, .int .i64 4], .int .i64 0] ∧ Upd0 w w') :=
  parseSoa_w [1, 97, 0, 1, 98, 0, 0, 0, 0, 7, 0, 0, 0, 1, 0, 0, 0, 2, 0, 0, 0, 3, 0, 0, 0, 4] (by decide) w
theorem lv_ck1 (w : World) : Calls Try.prog 29 #[.agg #[.string ⟨#[]⟩, .int .i64 1, .int .i64 0, .string ⟨#[97, 98, 99, 100]⟩]] w (Rets fun r w' => r = .int .i64 0 ∧ Upd0 w w') :=
  recCheck_w [] 1 0 [97, 98, 99, 100] (by decide) (by decide) w
theorem lv_ck2 (w : World) : Calls Try.prog 29 #[.agg #[.string ⟨#[]⟩, .int .i64 1, .int .i64 0, .string ⟨#[97, 98, 99]⟩]] w (Rets fun r w' => r = .int .i64 1 ∧ Upd0 w w') :=
  recCheck_w [] 1 0 [97, 98, 99] (by decide) (by decide) w
set_option maxRecDepth 100000 in
set_option maxHeartbeats 2000000 in
theorem live_w (w : World) : Calls Try.prog 28 #[] w (Rets fun r w' => r = .bool true ∧ Upd0 w w') := by
  have tok1 : True := trivial
  have tok2 : True := trivial
  go_enter Try.func28, Try.ntmps28
  go_wp2_with (first
    | (go_at_call 35; (with_reducible refine (lv_host _).use ?_); rintro v w1 ⟨rfl, hu1⟩)
    | (go_at_call 37; have _t := tok1; (with_reducible refine (lv_ph1 _).use ?_); rintro v w2 ⟨rfl, hu2⟩; clear tok1 _t)
    | (go_at_call 31; (with_reducible refine (lv_soa _).use ?_); rintro v w3 ⟨rfl, hu3⟩; have z3 := Lib.hid (hu3.block (fun h => h) (alloc_last _ _ w2.heap.size rfl)); have y3 := hu3.size)
    | (go_at_call 33; (with_reducible refine (lv_ps _).use ?_); rintro v w4 ⟨rfl, hu4⟩; have z4 := Lib.hid (hu4.block (fun h => h) z3.out); have y4 := hu4.size)
    | (go_at_call 37; (with_reducible refine (lv_ph2 _).use ?_); rintro v w5 ⟨rfl, hu5⟩; obtain ⟨a0, a1, a2, a3, a4, a5, a6, a7⟩ := seven (hu5.block (fun h => h) (alloc_last _ _ w4.heap.size rfl)); obtain ⟨b0, b1, b2, b3, b4, b5, b6, b7⟩ := seven (hu5.block (fun h => h) (blk_alloc z4.out)))
    | (go_at_call 29; have _t := tok2; (with_reducible refine (lv_ck1 _).use ?_); rintro v w6 ⟨rfl, hu6⟩; clear tok2 _t)
    | (go_at_call 29; (with_reducible refine (lv_ck2 _).use ?_); rintro v w7 ⟨rfl, hu7⟩)
    | (with_reducible refine wp_serial (by kernel_rfl) (by kernel_rfl) (by (repeat (first | (with_reducible apply NoBad.then) | (with_reducible apply NoBad.inBlock) | (with_reducible exact NoBad.rets))); done) ?_)
    | fail)
  all_goals go_returns
  all_goals exact ⟨rfl, (by (repeat (first | (with_reducible exact Upd.refl _ _) | (with_reducible assumption) | (with_reducible apply Upd.drew) | (with_reducible apply Upd.alloc) | (refine Upd0.tr ?_ (by with_reducible assumption)) | (refine Upd.setCell ?_ (fun h => absurd h (by first | exact Nat.lt_irrefl _ | (simp only []; omega))) _))); done)⟩
end Go.Proofs.Ytebnilkcpklnmaa
