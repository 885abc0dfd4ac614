/-
  The walk of NameFolds: large and small letters are held to be the same.
-/
import Derived.Test.YtdjleplefbmjbaaNmL
namespace Go.Proofs.Ytdjleplefbmjbaa
open Go.RowKit
set_option linter.unusedSimpArgs false
set_option linter.unusedVariables false
set_option maxRecDepth 100000 in
set_option maxHeartbeats 1000000 in
theorem nameFolds_walk (n m : Bs) (w : World) : Calls Try.prog 6 #[.string ⟨n.toArray⟩, .string ⟨m.toArray⟩] w (Rets fun r w' => r = .bool true ∧ Upd0 w w') := by
  rcases Nat.lt_or_ge 400 n.length with hlong | hshort
  · have hs := Lib.hid (decide_eq_false (Nat.not_le.2 hlong))
    go_enter Try.func6, Try.ntmps6
    go_wp2_with (first
      | (go_at_call 15; (with_reducible refine (nshort_w n _).use ?_); rintro v w1 ⟨rfl, hu1⟩; rw [hs.out])
      | (go_at_call 16; (with_reducible refine (nlive_w _).use ?_); rintro v w2 ⟨rfl, hu2⟩)
      | (with_reducible refine wp_serial (by kernel_rfl) (by kernel_rfl) (by (repeat (first | (with_reducible apply NoBad.then) | (with_reducible apply NoBad.inBlock) | (with_reducible exact NoBad.rets))); done) ?_) | fail)
    all_goals go_returns
    all_goals exact ⟨rfl, (by (repeat (first | (with_reducible exact Upd.refl _ _) | (with_reducible assumption) | (with_reducible apply Upd.drew) | (with_reducible apply Upd.alloc) | (refine Upd0.tr ?_ (by with_reducible assumption)) | (refine Upd.setCell ?_ (fun h => absurd h (by first | exact Nat.lt_irrefl _ | (simp only []; omega))) _))); done)⟩
  have hs := Lib.hid (decide_eq_true hshort)
  rcases Nat.lt_or_ge 400 m.length with hlong | hshort2
  · have hs2 := Lib.hid (decide_eq_false (Nat.not_le.2 hlong))
    have tk0 : True := trivial
    go_enter Try.func6, Try.ntmps6
    go_wp2_with (first
      | (go_at_call 15; have _t := tk0; (with_reducible refine (nshort_w n _).use ?_); rintro v w1 ⟨rfl, hu1⟩; rw [hs.out]; clear tk0 _t)
      | (go_at_call 15; (with_reducible refine (nshort_w m _).use ?_); rintro v w2 ⟨rfl, hu2⟩; rw [hs2.out])
      | (go_at_call 16; (with_reducible refine (nlive_w _).use ?_); rintro v w3 ⟨rfl, hu3⟩)
      | (with_reducible refine wp_serial (by kernel_rfl) (by kernel_rfl) (by (repeat (first | (with_reducible apply NoBad.then) | (with_reducible apply NoBad.inBlock) | (with_reducible exact NoBad.rets))); done) ?_) | fail)
    all_goals go_returns
    all_goals exact ⟨rfl, (by (repeat (first | (with_reducible exact Upd.refl _ _) | (with_reducible assumption) | (with_reducible apply Upd.drew) | (with_reducible apply Upd.alloc) | (refine Upd0.tr ?_ (by with_reducible assumption)) | (refine Upd.setCell ?_ (fun h => absurd h (by first | exact Nat.lt_irrefl _ | (simp only []; omega))) _))); done)⟩
  have hs2 := Lib.hid (decide_eq_true hshort2)
  have hn70 : n.length ≤ 70000 := by omega
  have hm70 : m.length ≤ 70000 := by omega
  have hnm : n.length ≤ maxLen := by unfold maxLen; omega
  cases hb : cutB n with
  | false =>
    have hc := Lib.hid (show checkC n = 1 by rw [checkC, hb]; rfl)
    clear hb
    have tk0 : True := trivial
    go_enter Try.func6, Try.ntmps6
    go_wp2_with (first
      | (go_at_call 15; have _t := tk0; (with_reducible refine (nshort_w n _).use ?_); rintro v w1 ⟨rfl, hu1⟩; rw [hs.out]; clear tk0 _t)
      | (go_at_call 15; (with_reducible refine (nshort_w m _).use ?_); rintro v w2 ⟨rfl, hu2⟩; rw [hs2.out])
      | (go_at_call 23; (with_reducible refine (check_any n hnm _).use ?_); rintro v w3 ⟨rfl, hu3⟩; rw [hc.out])
      | (go_at_call 16; (with_reducible refine (nlive_w _).use ?_); rintro v w4 ⟨rfl, hu4⟩)
      | (with_reducible refine wp_serial (by kernel_rfl) (by kernel_rfl) (by (repeat (first | (with_reducible apply NoBad.then) | (with_reducible apply NoBad.inBlock) | (with_reducible exact NoBad.rets))); done) ?_) | fail)
    all_goals go_returns
    all_goals exact ⟨rfl, (by (repeat (first | (with_reducible exact Upd.refl _ _) | (with_reducible assumption) | (with_reducible apply Upd.drew) | (with_reducible apply Upd.alloc) | (refine Upd0.tr ?_ (by with_reducible assumption)) | (refine Upd.setCell ?_ (fun h => absurd h (by first | exact Nat.lt_irrefl _ | (simp only []; omega))) _))); done)⟩
  | true =>
    have hc := Lib.hid (show checkC n = 0 by rw [checkC, hb]; rfl)
    obtain ⟨F, hF⟩ : ∃ F, fold n = F := ⟨_, rfl⟩
    have f1 := Lib.hid (show fold n = F from hF)
    have f2 := Lib.hid (show fold F = F by rw [← hF]; exact fold_fold n)
    have f3 : F.length = n.length := by rw [← hF]; exact fold_len n
    have f4 := Lib.hid (show cmpN F m = cmpN n m by rw [← hF]; exact cmpN_fold m hb)
    have f5 := Lib.hid (show cmpN F n = 0 by rw [← hF]; exact cmpN_fold0 hb)
    have f6 := Lib.hid (show undB F m = undB n m by rw [← hF]; exact undB_fold1 n m)
    have f7 := Lib.hid (show undB m F = undB m n by rw [← hF]; exact undB_fold2 n m)
    have hF70 : F.length ≤ 70000 := by omega
    have hl1 : ((F.length : Int) == (n.length : Int)) = true := by rw [beq_iff_eq]; omega
    clear hF hb f3
    have tk0 : True := trivial
    have tk3 : True := trivial
    have tk5 : True := trivial
    have tk6 : True := trivial
    have tk8 : True := trivial
    have tk9 : True := trivial
    have tk10 : True := trivial
    go_enter Try.func6, Try.ntmps6
    go_wp2_with (first
      | (go_at_call 15; have _t := tk0; (with_reducible refine (nshort_w n _).use ?_); rintro v w1 ⟨rfl, hu1⟩; rw [hs.out]; clear tk0 _t)
      | (go_at_call 15; (with_reducible refine (nshort_w m _).use ?_); rintro v w2 ⟨rfl, hu2⟩; rw [hs2.out])
      | (go_at_call 23; (with_reducible refine (check_any n hnm _).use ?_); rintro v w3 ⟨rfl, hu3⟩; rw [hc.out])
      | (go_at_call 24; have _t := tk3; (with_reducible refine (fold_w n hn70 _).use ?_); rintro v w4 ⟨rfl, hu4⟩; rw [f1.out]; clear tk3 _t)
      | (go_at_call 24; (with_reducible refine (fold_w F hF70 _).use ?_); rintro v w5 ⟨rfl, hu5⟩; rw [f2.out])
      | (go_at_call 21; have _t := tk5; (with_reducible refine (compare_w F m hF70 hm70 _).use ?_); rintro v w6 ⟨rfl, hu6⟩; rw [f4.out]; clear tk5 _t)
      | (go_at_call 21; have _t := tk6; (with_reducible refine (compare_w n m hn70 hm70 _).use ?_); rintro v w7 ⟨rfl, hu7⟩; clear tk6 _t)
      | (go_at_call 21; (with_reducible refine (compare_w F n hF70 hn70 _).use ?_); rintro v w8 ⟨rfl, hu8⟩; rw [f5.out])
      | (go_at_call 22; have _t := tk8; (with_reducible refine (under_w F m hF70 hm70 _).use ?_); rintro v w9 ⟨rfl, hu9⟩; rw [f6.out]; clear tk8 _t)
      | (go_at_call 22; have _t := tk9; (with_reducible refine (under_w n m hn70 hm70 _).use ?_); rintro v w10 ⟨rfl, hu10⟩; clear tk9 _t)
      | (go_at_call 22; have _t := tk10; (with_reducible refine (under_w m F hm70 hF70 _).use ?_); rintro v w11 ⟨rfl, hu11⟩; rw [f7.out]; clear tk10 _t)
      | (go_at_call 22; (with_reducible refine (under_w m n hm70 hn70 _).use ?_); rintro v w12 ⟨rfl, hu12⟩)
      | (go_at_call 16; (with_reducible refine (nlive_w _).use ?_); rintro v w13 ⟨rfl, hu13⟩)
      | (with_reducible refine wp_serial (by kernel_rfl) (by kernel_rfl) (by (repeat (first | (with_reducible apply NoBad.then) | (with_reducible apply NoBad.inBlock) | (with_reducible exact NoBad.rets))); done) ?_) | fail)
    all_goals go_returns
    all_goals exact ⟨rfl, (by (repeat (first | (with_reducible exact Upd.refl _ _) | (with_reducible assumption) | (with_reducible apply Upd.drew) | (with_reducible apply Upd.alloc) | (refine Upd0.tr ?_ (by with_reducible assumption)) | (refine Upd.setCell ?_ (fun h => absurd h (by first | exact Nat.lt_irrefl _ | (simp only []; omega))) _))); done)⟩
end Go.Proofs.Ytdjleplefbmjbaa
