/-
  Some answers that the document gives of names.
-/
import Derived.Test.YtdjleplefbmjbaaPaB
namespace Go.Proofs.Ytdjleplefbmjbaa
open Go.RowKit
set_option linter.unusedSimpArgs false
set_option linter.unusedVariables false
theorem nshort_w (a : Bs) (w : World) : Calls Try.prog 15 #[.string ⟨a.toArray⟩] w (Rets fun r w' => r = .bool (decide (a.length ≤ 400)) ∧ Upd0 w w') := by
  have e : decide ((a.length : Int) ≤ 400) = decide (a.length ≤ 400) := by rw [decide_eq_decide]; omega
  have eh := Lib.hid e
  clear e
  go_enter Try.func15, Try.ntmps15
  go_wp2_with (first | (with_reducible refine wp_serial (by kernel_rfl) (by kernel_rfl) (by (repeat (first | (with_reducible apply NoBad.then) | (with_reducible apply NoBad.inBlock) | (with_reducible exact NoBad.rets))); done) ?_) | fail)
  all_goals go_returns
  all_goals exact ⟨by rw [← eh.out]; rfl, (by (repeat (first | (with_reducible exact Upd.refl _ _) | (with_reducible assumption) | (with_reducible apply Upd.drew) | (with_reducible apply Upd.alloc) | (refine Upd0.tr ?_ (by with_reducible assumption)) | (refine Upd.setCell ?_ (fun h => absurd h (by first | exact Nat.lt_irrefl _ | (simp only []; omega))) _))); done)⟩
theorem nl_p1 (w : World) : Calls Try.prog 19 #[.string ⟨#[87, 119, 119, 46, 97, 92, 46, 98, 46]⟩] w (Rets fun r w' => r = .tuple #[.string ⟨#[3, 87, 119, 119, 3, 97, 46, 98]⟩, .int .i64 0] ∧ Upd0 w w') :=
  parse_w [87, 119, 119, 46, 97, 92, 46, 98, 46] (by decide) w
theorem nl_p2 (w : World) : Calls Try.prog 19 #[.string ⟨#[97, 46, 46]⟩] w (Rets fun r w' => r = .tuple #[.string ⟨#[]⟩, .int .i64 2] ∧ Upd0 w w') :=
  parse_w [97, 46, 46] (by decide) w
theorem nl_pr (w : World) : Calls Try.prog 17 #[.string ⟨#[3, 97, 46, 98]⟩] w (Rets fun r w' => r = .tuple #[.string ⟨#[97, 92, 46, 98, 46]⟩, .int .i64 0] ∧ Upd0 w w') :=
  print_w [3, 97, 46, 98] (by decide) w
theorem nl_up (w : World) : Calls Try.prog 25 #[.string ⟨#[3, 87, 119, 119, 3, 97, 46, 98]⟩] w (Rets fun r w' => r = .tuple #[.string ⟨#[3, 97, 46, 98]⟩, .int .i64 0] ∧ Upd0 w w') :=
  parent_w [3, 87, 119, 119, 3, 97, 46, 98] (by decide) w
theorem nl_u1 (w : World) : Calls Try.prog 22 #[.string ⟨#[3, 119, 119, 119, 3, 65, 46, 98]⟩, .string ⟨#[3, 97, 46, 98]⟩] w (Rets fun r w' => r = .bool true ∧ Upd0 w w') :=
  under_w [3, 119, 119, 119, 3, 65, 46, 98] [3, 97, 46, 98] (by decide) (by decide) w
theorem nl_u2 (w : World) : Calls Try.prog 22 #[.string ⟨#[3, 97, 46, 98]⟩, .string ⟨#[3, 87, 119, 119, 3, 97, 46, 98]⟩] w (Rets fun r w' => r = .bool false ∧ Upd0 w w') :=
  under_w [3, 97, 46, 98] [3, 87, 119, 119, 3, 97, 46, 98] (by decide) (by decide) w
theorem nl_cm (w : World) : Calls Try.prog 21 #[.string ⟨#[3, 97, 46, 98]⟩, .string ⟨#[3, 87, 119, 119, 3, 97, 46, 98]⟩] w (Rets fun r w' => r = .int .i64 (-1) ∧ Upd0 w w') :=
  compare_w [3, 97, 46, 98] [3, 87, 119, 119, 3, 97, 46, 98] (by decide) (by decide) w
theorem nl_ck (w : World) : Calls Try.prog 23 #[.string ⟨#[0]⟩] w (Rets fun r w' => r = .int .i64 1 ∧ Upd0 w w') :=
  check_any [0] (by decide) w
theorem nl_fo (w : World) : Calls Try.prog 24 #[.string ⟨#[3, 87, 119, 119, 3, 97, 46, 98]⟩] w (Rets fun r w' => r = .string ⟨#[3, 119, 119, 119, 3, 97, 46, 98]⟩ ∧ Upd0 w w') :=
  fold_w [3, 87, 119, 119, 3, 97, 46, 98] (by decide) w
set_option maxRecDepth 100000 in
set_option maxHeartbeats 2000000 in
theorem nlive_w (w : World) : Calls Try.prog 16 #[] w (Rets fun r w' => r = .bool true ∧ Upd0 w w') := by
  have tok1 : True := trivial
  have tok2 : True := trivial
  go_enter Try.func16, Try.ntmps16
  go_wp2_with (first
    | (go_at_call 19; have _t := tok1; (with_reducible refine (nl_p1 _).use ?_); rintro v w1 ⟨rfl, hu1⟩; clear tok1 _t)
    | (go_at_call 17; (with_reducible refine (nl_pr _).use ?_); rintro v w2 ⟨rfl, hu2⟩)
    | (go_at_call 19; (with_reducible refine (nl_p2 _).use ?_); rintro v w3 ⟨rfl, hu3⟩)
    | (go_at_call 25; (with_reducible refine (nl_up _).use ?_); rintro v w4 ⟨rfl, hu4⟩)
    | (go_at_call 22; have _t := tok2; (with_reducible refine (nl_u1 _).use ?_); rintro v w5 ⟨rfl, hu5⟩; clear tok2 _t)
    | (go_at_call 22; (with_reducible refine (nl_u2 _).use ?_); rintro v w6 ⟨rfl, hu6⟩)
    | (go_at_call 21; (with_reducible refine (nl_cm _).use ?_); rintro v w7 ⟨rfl, hu7⟩)
    | (go_at_call 23; (with_reducible refine (nl_ck _).use ?_); rintro v w8 ⟨rfl, hu8⟩)
    | (go_at_call 24; (with_reducible refine (nl_fo _).use ?_); rintro v w9 ⟨rfl, hu9⟩)
    | (with_reducible refine wp_serial (by kernel_rfl) (by kernel_rfl) (by (repeat (first | (with_reducible apply NoBad.then) | (with_reducible apply NoBad.inBlock) | (with_reducible exact NoBad.rets))); done) ?_)
    | fail)
  all_goals go_returns
  all_goals exact ⟨rfl, (by (repeat (first | (with_reducible exact Upd.refl _ _) | (with_reducible assumption) | (with_reducible apply Upd.drew) | (with_reducible apply Upd.alloc) | (refine Upd0.tr ?_ (by with_reducible assumption)) | (refine Upd.setCell ?_ (fun h => absurd h (by first | exact Nat.lt_irrefl _ | (simp only []; omega))) _))); done)⟩
end Go.Proofs.Ytdjleplefbmjbaa
