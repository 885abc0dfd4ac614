/-
  The walk of NameTogether: names under a name stand together in the order.
-/
import Derived.Test.YtdjleplefbmjbaaNmL
namespace Go.Proofs.Ytdjleplefbmjbaa
open Go.RowKit
set_option linter.unusedSimpArgs false
set_option linter.unusedVariables false
theorem cmpN_rng (a b : Bs) : -1 ≤ cmpN a b ∧ cmpN a b ≤ 1 := by
  unfold cmpN
  split
  · split
    · rcases cmpS_ok.lex.one (trn a) (trn b) with h | h | h <;> rw [h] <;> decide
    · decide
  · split
    · decide
    · rcases cmpS_ok.one a b with h | h | h <;> rw [h] <;> decide
set_option maxRecDepth 100000 in
set_option maxHeartbeats 1000000 in
theorem nameTogether_walk (t a b c : Bs) (w : World) : Calls Try.prog 5 #[.agg #[.string ⟨t.toArray⟩, .string ⟨a.toArray⟩, .string ⟨b.toArray⟩, .string ⟨c.toArray⟩]] w (Rets fun r w' => r = .bool true ∧ Upd0 w w') := by
  rcases Nat.lt_or_ge 400 t.length with hlong | hst
  · have ht := Lib.hid (decide_eq_false (Nat.not_le.2 hlong))
    go_enter Try.func5, Try.ntmps5
    go_wp2_with (first
      | (go_at_call 15; (with_reducible refine (nshort_w t _).use ?_); rintro v w1 ⟨rfl, hu1⟩; rw [ht.out])
      | (go_at_call 16; (with_reducible refine (nlive_w _).use ?_); rintro v w2 ⟨rfl, hu2⟩)
      | (with_reducible refine wp_serial (by kernel_rfl) (by kernel_rfl) (by (repeat (first | (with_reducible apply NoBad.then) | (with_reducible apply NoBad.inBlock) | (with_reducible exact NoBad.rets))); done) ?_) | fail)
    all_goals go_returns
    all_goals exact ⟨rfl, (by (repeat (first | (with_reducible exact Upd.refl _ _) | (with_reducible assumption) | (with_reducible apply Upd.drew) | (with_reducible apply Upd.alloc) | (refine Upd0.tr ?_ (by with_reducible assumption)) | (refine Upd.setCell ?_ (fun h => absurd h (by first | exact Nat.lt_irrefl _ | (simp only []; omega))) _))); done)⟩
  have ht := Lib.hid (decide_eq_true hst)
  have lt : t.length ≤ 70000 := by omega
  rcases Nat.lt_or_ge 400 a.length with hlong | hsa
  · have ha := Lib.hid (decide_eq_false (Nat.not_le.2 hlong))
    have tk0 : True := trivial
    go_enter Try.func5, Try.ntmps5
    go_wp2_with (first
      | (go_at_call 15; have _t := tk0; (with_reducible refine (nshort_w t _).use ?_); rintro v w1 ⟨rfl, hu1⟩; rw [ht.out]; clear tk0 _t)
      | (go_at_call 15; (with_reducible refine (nshort_w a _).use ?_); rintro v w2 ⟨rfl, hu2⟩; rw [ha.out])
      | (go_at_call 16; (with_reducible refine (nlive_w _).use ?_); rintro v w3 ⟨rfl, hu3⟩)
      | (with_reducible refine wp_serial (by kernel_rfl) (by kernel_rfl) (by (repeat (first | (with_reducible apply NoBad.then) | (with_reducible apply NoBad.inBlock) | (with_reducible exact NoBad.rets))); done) ?_) | fail)
    all_goals go_returns
    all_goals exact ⟨rfl, (by (repeat (first | (with_reducible exact Upd.refl _ _) | (with_reducible assumption) | (with_reducible apply Upd.drew) | (with_reducible apply Upd.alloc) | (refine Upd0.tr ?_ (by with_reducible assumption)) | (refine Upd.setCell ?_ (fun h => absurd h (by first | exact Nat.lt_irrefl _ | (simp only []; omega))) _))); done)⟩
  have ha := Lib.hid (decide_eq_true hsa)
  have la : a.length ≤ 70000 := by omega
  rcases Nat.lt_or_ge 400 b.length with hlong | hsb
  · have hb := Lib.hid (decide_eq_false (Nat.not_le.2 hlong))
    have tk0 : True := trivial
    have tk1 : True := trivial
    go_enter Try.func5, Try.ntmps5
    go_wp2_with (first
      | (go_at_call 15; have _t := tk0; (with_reducible refine (nshort_w t _).use ?_); rintro v w1 ⟨rfl, hu1⟩; rw [ht.out]; clear tk0 _t)
      | (go_at_call 15; have _t := tk1; (with_reducible refine (nshort_w a _).use ?_); rintro v w2 ⟨rfl, hu2⟩; rw [ha.out]; clear tk1 _t)
      | (go_at_call 15; (with_reducible refine (nshort_w b _).use ?_); rintro v w3 ⟨rfl, hu3⟩; rw [hb.out])
      | (go_at_call 16; (with_reducible refine (nlive_w _).use ?_); rintro v w4 ⟨rfl, hu4⟩)
      | (with_reducible refine wp_serial (by kernel_rfl) (by kernel_rfl) (by (repeat (first | (with_reducible apply NoBad.then) | (with_reducible apply NoBad.inBlock) | (with_reducible exact NoBad.rets))); done) ?_) | fail)
    all_goals go_returns
    all_goals exact ⟨rfl, (by (repeat (first | (with_reducible exact Upd.refl _ _) | (with_reducible assumption) | (with_reducible apply Upd.drew) | (with_reducible apply Upd.alloc) | (refine Upd0.tr ?_ (by with_reducible assumption)) | (refine Upd.setCell ?_ (fun h => absurd h (by first | exact Nat.lt_irrefl _ | (simp only []; omega))) _))); done)⟩
  have hb := Lib.hid (decide_eq_true hsb)
  have lb : b.length ≤ 70000 := by omega
  rcases Nat.lt_or_ge 400 c.length with hlong | hsc
  · have hc := Lib.hid (decide_eq_false (Nat.not_le.2 hlong))
    have tk0 : True := trivial
    have tk1 : True := trivial
    have tk2 : True := trivial
    go_enter Try.func5, Try.ntmps5
    go_wp2_with (first
      | (go_at_call 15; have _t := tk0; (with_reducible refine (nshort_w t _).use ?_); rintro v w1 ⟨rfl, hu1⟩; rw [ht.out]; clear tk0 _t)
      | (go_at_call 15; have _t := tk1; (with_reducible refine (nshort_w a _).use ?_); rintro v w2 ⟨rfl, hu2⟩; rw [ha.out]; clear tk1 _t)
      | (go_at_call 15; have _t := tk2; (with_reducible refine (nshort_w b _).use ?_); rintro v w3 ⟨rfl, hu3⟩; rw [hb.out]; clear tk2 _t)
      | (go_at_call 15; (with_reducible refine (nshort_w c _).use ?_); rintro v w4 ⟨rfl, hu4⟩; rw [hc.out])
      | (go_at_call 16; (with_reducible refine (nlive_w _).use ?_); rintro v w5 ⟨rfl, hu5⟩)
      | (with_reducible refine wp_serial (by kernel_rfl) (by kernel_rfl) (by (repeat (first | (with_reducible apply NoBad.then) | (with_reducible apply NoBad.inBlock) | (with_reducible exact NoBad.rets))); done) ?_) | fail)
    all_goals go_returns
    all_goals exact ⟨rfl, (by (repeat (first | (with_reducible exact Upd.refl _ _) | (with_reducible assumption) | (with_reducible apply Upd.drew) | (with_reducible apply Upd.alloc) | (refine Upd0.tr ?_ (by with_reducible assumption)) | (refine Upd.setCell ?_ (fun h => absurd h (by first | exact Nat.lt_irrefl _ | (simp only []; omega))) _))); done)⟩
  have hc := Lib.hid (decide_eq_true hsc)
  have lc : c.length ≤ 70000 := by omega
  obtain ⟨X, hX⟩ : ∃ X, cmpN a b = X := ⟨_, rfl⟩
  obtain ⟨Y, hY⟩ : ∃ Y, cmpN b c = Y := ⟨_, rfl⟩
  have hXh := Lib.hid hX
  have hYh := Lib.hid hY
  have rX : -1 ≤ X ∧ X ≤ 1 := by rw [← hX]; exact cmpN_rng a b
  have rY : -1 ≤ Y ∧ Y ≤ 1 := by rw [← hY]; exact cmpN_rng b c
  obtain ⟨rX1, rX2⟩ := rX
  obtain ⟨rY1, rY2⟩ := rY
  have hN := Lib.hid (show cmpN b a = -X by rw [cmpN_neg a b, hX])
  by_cases hXp : 0 < X
  · clear hX hY
    have tk0 : True := trivial
    have tk1 : True := trivial
    have tk2 : True := trivial
    have tk4 : True := trivial
    have tk5 : True := trivial
    go_enter Try.func5, Try.ntmps5
    go_wp2_with (first
      | (go_at_call 15; have _t := tk0; (with_reducible refine (nshort_w t _).use ?_); rintro v w1 ⟨rfl, hu1⟩; rw [ht.out]; clear tk0 _t)
      | (go_at_call 15; have _t := tk1; (with_reducible refine (nshort_w a _).use ?_); rintro v w2 ⟨rfl, hu2⟩; rw [ha.out]; clear tk1 _t)
      | (go_at_call 15; have _t := tk2; (with_reducible refine (nshort_w b _).use ?_); rintro v w3 ⟨rfl, hu3⟩; rw [hb.out]; clear tk2 _t)
      | (go_at_call 15; (with_reducible refine (nshort_w c _).use ?_); rintro v w4 ⟨rfl, hu4⟩; rw [hc.out])
      | (go_at_call 21; have _t := tk4; (with_reducible refine (compare_w a b la lb _).use ?_); rintro v w5 ⟨rfl, hu5⟩; rw [hXh.out]; clear tk4 _t)
      | (go_at_call 21; have _t := tk5; (with_reducible refine (compare_w b c lb lc _).use ?_); rintro v w6 ⟨rfl, hu6⟩; rw [hYh.out]; clear tk5 _t)
      | (go_at_call 21; (with_reducible refine (compare_w b a lb la _).use ?_); rintro v w7 ⟨rfl, hu7⟩; rw [hN.out])
      | (go_at_call 16; (with_reducible refine (nlive_w _).use ?_); rintro v w8 ⟨rfl, hu8⟩)
      | (with_reducible refine wp_serial (by kernel_rfl) (by kernel_rfl) (by (repeat (first | (with_reducible apply NoBad.then) | (with_reducible apply NoBad.inBlock) | (with_reducible exact NoBad.rets))); done) ?_) | fail)
    all_goals go_returns
    all_goals exact ⟨rfl, (by (repeat (first | (with_reducible exact Upd.refl _ _) | (with_reducible assumption) | (with_reducible apply Upd.drew) | (with_reducible apply Upd.alloc) | (refine Upd0.tr ?_ (by with_reducible assumption)) | (refine Upd.setCell ?_ (fun h => absurd h (by first | exact Nat.lt_irrefl _ | (simp only []; omega))) _))); done)⟩
  by_cases hYp : 0 < Y
  · clear hX hY
    have tk0 : True := trivial
    have tk1 : True := trivial
    have tk2 : True := trivial
    have tk4 : True := trivial
    go_enter Try.func5, Try.ntmps5
    go_wp2_with (first
      | (go_at_call 15; have _t := tk0; (with_reducible refine (nshort_w t _).use ?_); rintro v w1 ⟨rfl, hu1⟩; rw [ht.out]; clear tk0 _t)
      | (go_at_call 15; have _t := tk1; (with_reducible refine (nshort_w a _).use ?_); rintro v w2 ⟨rfl, hu2⟩; rw [ha.out]; clear tk1 _t)
      | (go_at_call 15; have _t := tk2; (with_reducible refine (nshort_w b _).use ?_); rintro v w3 ⟨rfl, hu3⟩; rw [hb.out]; clear tk2 _t)
      | (go_at_call 15; (with_reducible refine (nshort_w c _).use ?_); rintro v w4 ⟨rfl, hu4⟩; rw [hc.out])
      | (go_at_call 21; have _t := tk4; (with_reducible refine (compare_w a b la lb _).use ?_); rintro v w5 ⟨rfl, hu5⟩; rw [hXh.out]; clear tk4 _t)
      | (go_at_call 21; (with_reducible refine (compare_w b c lb lc _).use ?_); rintro v w6 ⟨rfl, hu6⟩; rw [hYh.out])
      | (go_at_call 16; (with_reducible refine (nlive_w _).use ?_); rintro v w7 ⟨rfl, hu7⟩)
      | (with_reducible refine wp_serial (by kernel_rfl) (by kernel_rfl) (by (repeat (first | (with_reducible apply NoBad.then) | (with_reducible apply NoBad.inBlock) | (with_reducible exact NoBad.rets))); done) ?_) | fail)
    all_goals go_returns
    all_goals exact ⟨rfl, (by (repeat (first | (with_reducible exact Upd.refl _ _) | (with_reducible assumption) | (with_reducible apply Upd.drew) | (with_reducible apply Upd.alloc) | (refine Upd0.tr ?_ (by with_reducible assumption)) | (refine Upd.setCell ?_ (fun h => absurd h (by first | exact Nat.lt_irrefl _ | (simp only []; omega))) _))); done)⟩
  obtain ⟨Zc, hZ⟩ : ∃ Z, cmpN a c = Z := ⟨_, rfl⟩
  have hZh := Lib.hid hZ
  have hZ0 : Zc ≤ 0 := by rw [← hZ]; exact cmpN_trans (by rw [hX]; omega) (by rw [hY]; omega)
  cases u1 : undB a t with
  | false =>
    have k1 := Lib.hid u1
    clear hX hY hZ u1
    have tk0 : True := trivial
    have tk1 : True := trivial
    have tk2 : True := trivial
    have tk4 : True := trivial
    have tk5 : True := trivial
    go_enter Try.func5, Try.ntmps5
    go_wp2_with (first
      | (go_at_call 15; have _t := tk0; (with_reducible refine (nshort_w t _).use ?_); rintro v w1 ⟨rfl, hu1⟩; rw [ht.out]; clear tk0 _t)
      | (go_at_call 15; have _t := tk1; (with_reducible refine (nshort_w a _).use ?_); rintro v w2 ⟨rfl, hu2⟩; rw [ha.out]; clear tk1 _t)
      | (go_at_call 15; have _t := tk2; (with_reducible refine (nshort_w b _).use ?_); rintro v w3 ⟨rfl, hu3⟩; rw [hb.out]; clear tk2 _t)
      | (go_at_call 15; (with_reducible refine (nshort_w c _).use ?_); rintro v w4 ⟨rfl, hu4⟩; rw [hc.out])
      | (go_at_call 21; have _t := tk4; (with_reducible refine (compare_w a b la lb _).use ?_); rintro v w5 ⟨rfl, hu5⟩; rw [hXh.out]; clear tk4 _t)
      | (go_at_call 21; have _t := tk5; (with_reducible refine (compare_w b c lb lc _).use ?_); rintro v w6 ⟨rfl, hu6⟩; rw [hYh.out]; clear tk5 _t)
      | (go_at_call 21; (with_reducible refine (compare_w a c la lc _).use ?_); rintro v w7 ⟨rfl, hu7⟩; rw [hZh.out])
      | (go_at_call 22; (with_reducible refine (under_w a t la lt _).use ?_); rintro v w8 ⟨rfl, hu8⟩; rw [k1.out])
      | (go_at_call 16; (with_reducible refine (nlive_w _).use ?_); rintro v w9 ⟨rfl, hu9⟩)
      | (with_reducible refine wp_serial (by kernel_rfl) (by kernel_rfl) (by (repeat (first | (with_reducible apply NoBad.then) | (with_reducible apply NoBad.inBlock) | (with_reducible exact NoBad.rets))); done) ?_) | fail)
    all_goals go_returns
    all_goals exact ⟨rfl, (by (repeat (first | (with_reducible exact Upd.refl _ _) | (with_reducible assumption) | (with_reducible apply Upd.drew) | (with_reducible apply Upd.alloc) | (refine Upd0.tr ?_ (by with_reducible assumption)) | (refine Upd.setCell ?_ (fun h => absurd h (by first | exact Nat.lt_irrefl _ | (simp only []; omega))) _))); done)⟩
  | true =>
    cases u2 : undB c t with
    | false =>
      have k1 := Lib.hid u1
      have k2 := Lib.hid u2
      clear hX hY hZ u1 u2
      have tk0 : True := trivial
      have tk1 : True := trivial
      have tk2 : True := trivial
      have tk4 : True := trivial
      have tk5 : True := trivial
      have tk7 : True := trivial
      go_enter Try.func5, Try.ntmps5
      go_wp2_with (first
        | (go_at_call 15; have _t := tk0; (with_reducible refine (nshort_w t _).use ?_); rintro v w1 ⟨rfl, hu1⟩; rw [ht.out]; clear tk0 _t)
        | (go_at_call 15; have _t := tk1; (with_reducible refine (nshort_w a _).use ?_); rintro v w2 ⟨rfl, hu2⟩; rw [ha.out]; clear tk1 _t)
        | (go_at_call 15; have _t := tk2; (with_reducible refine (nshort_w b _).use ?_); rintro v w3 ⟨rfl, hu3⟩; rw [hb.out]; clear tk2 _t)
        | (go_at_call 15; (with_reducible refine (nshort_w c _).use ?_); rintro v w4 ⟨rfl, hu4⟩; rw [hc.out])
        | (go_at_call 21; have _t := tk4; (with_reducible refine (compare_w a b la lb _).use ?_); rintro v w5 ⟨rfl, hu5⟩; rw [hXh.out]; clear tk4 _t)
        | (go_at_call 21; have _t := tk5; (with_reducible refine (compare_w b c lb lc _).use ?_); rintro v w6 ⟨rfl, hu6⟩; rw [hYh.out]; clear tk5 _t)
        | (go_at_call 21; (with_reducible refine (compare_w a c la lc _).use ?_); rintro v w7 ⟨rfl, hu7⟩; rw [hZh.out])
        | (go_at_call 22; have _t := tk7; (with_reducible refine (under_w a t la lt _).use ?_); rintro v w8 ⟨rfl, hu8⟩; rw [k1.out]; clear tk7 _t)
        | (go_at_call 22; (with_reducible refine (under_w c t lc lt _).use ?_); rintro v w9 ⟨rfl, hu9⟩; rw [k2.out])
        | (go_at_call 16; (with_reducible refine (nlive_w _).use ?_); rintro v w10 ⟨rfl, hu10⟩)
        | (with_reducible refine wp_serial (by kernel_rfl) (by kernel_rfl) (by (repeat (first | (with_reducible apply NoBad.then) | (with_reducible apply NoBad.inBlock) | (with_reducible exact NoBad.rets))); done) ?_) | fail)
      all_goals go_returns
      all_goals exact ⟨rfl, (by (repeat (first | (with_reducible exact Upd.refl _ _) | (with_reducible assumption) | (with_reducible apply Upd.drew) | (with_reducible apply Upd.alloc) | (refine Upd0.tr ?_ (by with_reducible assumption)) | (refine Upd.setCell ?_ (fun h => absurd h (by first | exact Nat.lt_irrefl _ | (simp only []; omega))) _))); done)⟩
    | true =>
      have k1 := Lib.hid u1
      have k2 := Lib.hid u2
      have k3 := Lib.hid (und_between (by rw [hX]; omega) (by rw [hY]; omega) u1 u2)
      clear hX hY hZ u1 u2
      have tk0 : True := trivial
      have tk1 : True := trivial
      have tk2 : True := trivial
      have tk4 : True := trivial
      have tk5 : True := trivial
      have tk7 : True := trivial
      have tk8 : True := trivial
      go_enter Try.func5, Try.ntmps5
      go_wp2_with (first
        | (go_at_call 15; have _t := tk0; (with_reducible refine (nshort_w t _).use ?_); rintro v w1 ⟨rfl, hu1⟩; rw [ht.out]; clear tk0 _t)
        | (go_at_call 15; have _t := tk1; (with_reducible refine (nshort_w a _).use ?_); rintro v w2 ⟨rfl, hu2⟩; rw [ha.out]; clear tk1 _t)
        | (go_at_call 15; have _t := tk2; (with_reducible refine (nshort_w b _).use ?_); rintro v w3 ⟨rfl, hu3⟩; rw [hb.out]; clear tk2 _t)
        | (go_at_call 15; (with_reducible refine (nshort_w c _).use ?_); rintro v w4 ⟨rfl, hu4⟩; rw [hc.out])
        | (go_at_call 21; have _t := tk4; (with_reducible refine (compare_w a b la lb _).use ?_); rintro v w5 ⟨rfl, hu5⟩; rw [hXh.out]; clear tk4 _t)
        | (go_at_call 21; have _t := tk5; (with_reducible refine (compare_w b c lb lc _).use ?_); rintro v w6 ⟨rfl, hu6⟩; rw [hYh.out]; clear tk5 _t)
        | (go_at_call 21; (with_reducible refine (compare_w a c la lc _).use ?_); rintro v w7 ⟨rfl, hu7⟩; rw [hZh.out])
        | (go_at_call 22; have _t := tk7; (with_reducible refine (under_w a t la lt _).use ?_); rintro v w8 ⟨rfl, hu8⟩; rw [k1.out]; clear tk7 _t)
        | (go_at_call 22; have _t := tk8; (with_reducible refine (under_w c t lc lt _).use ?_); rintro v w9 ⟨rfl, hu9⟩; rw [k2.out]; clear tk8 _t)
        | (go_at_call 22; (with_reducible refine (under_w b t lb lt _).use ?_); rintro v w10 ⟨rfl, hu10⟩; rw [k3.out])
        | (go_at_call 16; (with_reducible refine (nlive_w _).use ?_); rintro v w11 ⟨rfl, hu11⟩)
        | (with_reducible refine wp_serial (by kernel_rfl) (by kernel_rfl) (by (repeat (first | (with_reducible apply NoBad.then) | (with_reducible apply NoBad.inBlock) | (with_reducible exact NoBad.rets))); done) ?_) | fail)
      all_goals go_returns
      all_goals exact ⟨rfl, (by (repeat (first | (with_reducible exact Upd.refl _ _) | (with_reducible assumption) | (with_reducible apply Upd.drew) | (with_reducible apply Upd.alloc) | (refine Upd0.tr ?_ (by with_reducible assumption)) | (refine Upd.setCell ?_ (fun h => absurd h (by first | exact Nat.lt_irrefl _ | (simp only []; omega))) _))); done)⟩
end Go.Proofs.Ytdjleplefbmjbaa
