/-
  The walk of NameTexts: the text of any name, and the name of any text.
-/
import Derived.Test.YtdjleplefbmjbaaNmL
import Derived.Test.YtdjleplefbmjbaaPaC
namespace Go.Proofs.Ytdjleplefbmjbaa
open Go.RowKit
set_option linter.unusedSimpArgs false
set_option linter.unusedVariables false
set_option maxRecDepth 100000 in
set_option maxHeartbeats 1000000 in
theorem nameTexts_walk (n s : Bs) (w : World) : Calls Try.prog 3 #[.string ⟨n.toArray⟩, .string ⟨s.toArray⟩] w (Rets fun r w' => r = .bool true ∧ Upd0 w w') := by
  rcases Nat.lt_or_ge 400 n.length with hlong | hshort
  · have hs := Lib.hid (decide_eq_false (Nat.not_le.2 hlong))
    go_enter Try.func3, Try.ntmps3
    go_wp2_with (first
      | (go_at_call 15; (with_reducible refine (nshort_w n _).use ?_); rintro v w1 ⟨rfl, hu1⟩; rw [hs.out])
      | (go_at_call 16; (with_reducible refine (nlive_w _).use ?_); rintro v w2 ⟨rfl, hu2⟩)
      | (with_reducible refine wp_serial (by kernel_rfl) (by kernel_rfl) (by (repeat (first | (with_reducible apply NoBad.then) | (with_reducible apply NoBad.inBlock) | (with_reducible exact NoBad.rets))); done) ?_) | fail)
    all_goals go_returns
    all_goals exact ⟨rfl, (by (repeat (first | (with_reducible exact Upd.refl _ _) | (with_reducible assumption) | (with_reducible apply Upd.drew) | (with_reducible apply Upd.alloc) | (refine Upd0.tr ?_ (by with_reducible assumption)) | (refine Upd.setCell ?_ (fun h => absurd h (by first | exact Nat.lt_irrefl _ | (simp only []; omega))) _))); done)⟩
  have hs := Lib.hid (decide_eq_true hshort)
  rcases Nat.lt_or_ge 400 s.length with hlong | hshort2
  · have hs2 := Lib.hid (decide_eq_false (Nat.not_le.2 hlong))
    have tk0 : True := trivial
    go_enter Try.func3, Try.ntmps3
    go_wp2_with (first
      | (go_at_call 15; have _t := tk0; (with_reducible refine (nshort_w n _).use ?_); rintro v w1 ⟨rfl, hu1⟩; rw [hs.out]; clear tk0 _t)
      | (go_at_call 15; (with_reducible refine (nshort_w s _).use ?_); rintro v w2 ⟨rfl, hu2⟩; rw [hs2.out])
      | (go_at_call 16; (with_reducible refine (nlive_w _).use ?_); rintro v w3 ⟨rfl, hu3⟩)
      | (with_reducible refine wp_serial (by kernel_rfl) (by kernel_rfl) (by (repeat (first | (with_reducible apply NoBad.then) | (with_reducible apply NoBad.inBlock) | (with_reducible exact NoBad.rets))); done) ?_) | fail)
    all_goals go_returns
    all_goals exact ⟨rfl, (by (repeat (first | (with_reducible exact Upd.refl _ _) | (with_reducible assumption) | (with_reducible apply Upd.drew) | (with_reducible apply Upd.alloc) | (refine Upd0.tr ?_ (by with_reducible assumption)) | (refine Upd.setCell ?_ (fun h => absurd h (by first | exact Nat.lt_irrefl _ | (simp only []; omega))) _))); done)⟩
  have hs2 := Lib.hid (decide_eq_true hshort2)
  have hn70 : n.length ≤ 70000 := by omega
  have hs70 : s.length ≤ 70000 := by omega
  have tk0 : True := trivial
  go_enter Try.func3, Try.ntmps3
  go_wp2_with (first
    | (go_at_call 15; have _t := tk0; (with_reducible refine (nshort_w n _).use ?_); rintro v w1 ⟨rfl, hu1⟩; rw [hs.out]; clear tk0 _t)
    | (go_at_call 15; (with_reducible refine (nshort_w s _).use ?_); rintro v w2 ⟨rfl, hu2⟩; rw [hs2.out])
    | (go_at_call 17; (with_reducible refine (print_w n hn70 _).use ?_); rintro v w3 ⟨rfl, hu3⟩)
    | (go_at_call 18; (with_reducible refine (rprint_w n hn70 _).use ?_); rintro v w4 ⟨rfl, hu4⟩)
    | (go_at_call 19; (with_reducible refine (parse_w s hs70 _).use ?_); rintro v w5 ⟨rfl, hu5⟩)
    | (go_at_call 20; (with_reducible refine (rparse_w s hs70 _).use ?_); rintro v w6 ⟨rfl, hu6⟩)
    | (go_at_call 16; (with_reducible refine (nlive_w _).use ?_); rintro v w7 ⟨rfl, hu7⟩)
    | (with_reducible refine wp_serial (by kernel_rfl) (by kernel_rfl) (by (repeat (first | (with_reducible apply NoBad.then) | (with_reducible apply NoBad.inBlock) | (with_reducible exact NoBad.rets))); done) ?_) | fail)
  all_goals go_returns
  all_goals exact ⟨rfl, (by (repeat (first | (with_reducible exact Upd.refl _ _) | (with_reducible assumption) | (with_reducible apply Upd.drew) | (with_reducible apply Upd.alloc) | (refine Upd0.tr ?_ (by with_reducible assumption)) | (refine Upd.setCell ?_ (fun h => absurd h (by first | exact Nat.lt_irrefl _ | (simp only []; omega))) _))); done)⟩
end Go.Proofs.Ytdjleplefbmjbaa
