/-
  The walk of NameBack: what is printed is parsed; what is parsed is printed to the same text.
-/
import Derived.Test.YtdjleplefbmjbaaNmL
namespace Go.Proofs.Ytdjleplefbmjbaa
open Go.RowKit
set_option linter.unusedSimpArgs false
set_option linter.unusedVariables false
theorem prnS_len (s : Bs) : (prnS s).length ≤ 2000 := by
  unfold prnS
  cases hb : cutB s with
  | false => simp
  | true =>
    obtain ⟨h1, h2⟩ := cut_lab hb
    have := lbls_len2 (cutL s)
    rw [(lab_jn s _ h2).1] at this
    show (prnL (cutL s)).length ≤ 2000
    unfold prnL
    split
    · simp
    · omega
theorem parO_len {s n : Bs} (h : parO s = some n) : n.length ≤ 254 := by
  unfold parO at h
  by_cases hs : s = [46]
  · rw [if_pos hs] at h; cases h; simp
  rw [if_neg hs] at h
  cases hP : parP s [] with
  | none => rw [hP] at h; cases h
  | some L =>
    rw [hP] at h
    simp only at h
    cases hL : isTxt L s with
    | false => rw [hL] at h; cases h
    | true =>
      rw [hL, if_pos rfl] at h; cases h
      simp only [isTxt, jnB, Bool.and_eq_true, decide_eq_true_eq] at hL
      exact hL.1.2
set_option maxRecDepth 100000 in
set_option maxHeartbeats 1000000 in
theorem nameBack_walk (n s : Bs) (w : World) : Calls Try.prog 4 #[.string ⟨n.toArray⟩, .string ⟨s.toArray⟩] w (Rets fun r w' => r = .bool true ∧ Upd0 w w') := by
  rcases Nat.lt_or_ge 400 n.length with hlong | hshort
  · have hs := Lib.hid (decide_eq_false (Nat.not_le.2 hlong))
    go_enter Try.func4, Try.ntmps4
    go_wp2_with (first
      | (go_at_call 15; (with_reducible refine (nshort_w n _).use ?_); rintro v w1 ⟨rfl, hu1⟩; rw [hs.out])
      | (go_at_call 16; (with_reducible refine (nlive_w _).use ?_); rintro v w2 ⟨rfl, hu2⟩)
      | (with_reducible refine wp_serial (by kernel_rfl) (by kernel_rfl) (by (repeat (first | (with_reducible apply NoBad.then) | (with_reducible apply NoBad.inBlock) | (with_reducible exact NoBad.rets))); done) ?_) | fail)
    all_goals go_returns
    all_goals exact ⟨rfl, (by (repeat (first | (with_reducible exact Upd.refl _ _) | (with_reducible assumption) | (with_reducible apply Upd.drew) | (with_reducible apply Upd.alloc) | (refine Upd0.tr ?_ (by with_reducible assumption)) | (refine Upd.setCell ?_ (fun h => absurd h (by first | exact Nat.lt_irrefl _ | (simp only []; omega))) _))); done)⟩
  have hs := Lib.hid (decide_eq_true hshort)
  rcases Nat.lt_or_ge 400 s.length with hlong | hshort2
  · have hs2 := Lib.hid (decide_eq_false (Nat.not_le.2 hlong))
    have tk0 : True := trivial
    go_enter Try.func4, Try.ntmps4
    go_wp2_with (first
      | (go_at_call 15; have _t := tk0; (with_reducible refine (nshort_w n _).use ?_); rintro v w1 ⟨rfl, hu1⟩; rw [hs.out]; clear tk0 _t)
      | (go_at_call 15; (with_reducible refine (nshort_w s _).use ?_); rintro v w2 ⟨rfl, hu2⟩; rw [hs2.out])
      | (go_at_call 16; (with_reducible refine (nlive_w _).use ?_); rintro v w3 ⟨rfl, hu3⟩)
      | (with_reducible refine wp_serial (by kernel_rfl) (by kernel_rfl) (by (repeat (first | (with_reducible apply NoBad.then) | (with_reducible apply NoBad.inBlock) | (with_reducible exact NoBad.rets))); done) ?_) | fail)
    all_goals go_returns
    all_goals exact ⟨rfl, (by (repeat (first | (with_reducible exact Upd.refl _ _) | (with_reducible assumption) | (with_reducible apply Upd.drew) | (with_reducible apply Upd.alloc) | (refine Upd0.tr ?_ (by with_reducible assumption)) | (refine Upd.setCell ?_ (fun h => absurd h (by first | exact Nat.lt_irrefl _ | (simp only []; omega))) _))); done)⟩
  have hs2 := Lib.hid (decide_eq_true hshort2)
  have hn70 : n.length ≤ 70000 := by omega
  have hs70 : s.length ≤ 70000 := by omega
  have hP : (prnS n).length ≤ 70000 := by have := prnS_len n; omega
  cases hb : cutB n with
  | false =>
    have c1 := Lib.hid (show prnC n = 1 by rw [prnC, hb]; rfl)
    cases hO : parO s with
    | none =>
      have q1 := Lib.hid (parS_none hO)
      clear hb hO
      have tk0 : True := trivial
      go_enter Try.func4, Try.ntmps4
      go_wp2_with (first
        | (go_at_call 15; have _t := tk0; (with_reducible refine (nshort_w n _).use ?_); rintro v w1 ⟨rfl, hu1⟩; rw [hs.out]; clear tk0 _t)
        | (go_at_call 15; (with_reducible refine (nshort_w s _).use ?_); rintro v w2 ⟨rfl, hu2⟩; rw [hs2.out])
        | (go_at_call 17; (with_reducible refine (print_w n hn70 _).use ?_); rintro v w3 ⟨rfl, hu3⟩; rw [c1.out])
        | (go_at_call 19; (with_reducible refine (parse_w s hs70 _).use ?_); rintro v w4 ⟨rfl, hu4⟩; rw [q1.out.1, q1.out.2])
        | (go_at_call 16; (with_reducible refine (nlive_w _).use ?_); rintro v w5 ⟨rfl, hu5⟩)
        | (with_reducible refine wp_serial (by kernel_rfl) (by kernel_rfl) (by (repeat (first | (with_reducible apply NoBad.then) | (with_reducible apply NoBad.inBlock) | (with_reducible exact NoBad.rets))); done) ?_) | fail)
      all_goals go_returns
      all_goals exact ⟨rfl, (by (repeat (first | (with_reducible exact Upd.refl _ _) | (with_reducible assumption) | (with_reducible apply Upd.drew) | (with_reducible apply Upd.alloc) | (refine Upd0.tr ?_ (by with_reducible assumption)) | (refine Upd.setCell ?_ (fun h => absurd h (by first | exact Nat.lt_irrefl _ | (simp only []; omega))) _))); done)⟩
    | some k =>
      have q1 := Lib.hid (parS_some hO)
      have q2 := Lib.hid (prn_par hO)
      have hk70 : k.length ≤ 70000 := by have := parO_len hO; omega
      clear hb hO
      have tk0 : True := trivial
      have tk2 : True := trivial
      go_enter Try.func4, Try.ntmps4
      go_wp2_with (first
        | (go_at_call 15; have _t := tk0; (with_reducible refine (nshort_w n _).use ?_); rintro v w1 ⟨rfl, hu1⟩; rw [hs.out]; clear tk0 _t)
        | (go_at_call 15; (with_reducible refine (nshort_w s _).use ?_); rintro v w2 ⟨rfl, hu2⟩; rw [hs2.out])
        | (go_at_call 17; have _t := tk2; (with_reducible refine (print_w n hn70 _).use ?_); rintro v w3 ⟨rfl, hu3⟩; rw [c1.out]; clear tk2 _t)
        | (go_at_call 19; (with_reducible refine (parse_w s hs70 _).use ?_); rintro v w4 ⟨rfl, hu4⟩; rw [q1.out.1, q1.out.2])
        | (go_at_call 17; (with_reducible refine (print_w k hk70 _).use ?_); rintro v w5 ⟨rfl, hu5⟩; rw [q2.out.1, q2.out.2])
        | (go_at_call 16; (with_reducible refine (nlive_w _).use ?_); rintro v w6 ⟨rfl, hu6⟩)
        | (with_reducible refine wp_serial (by kernel_rfl) (by kernel_rfl) (by (repeat (first | (with_reducible apply NoBad.then) | (with_reducible apply NoBad.inBlock) | (with_reducible exact NoBad.rets))); done) ?_) | fail)
      all_goals go_returns
      all_goals exact ⟨rfl, (by (repeat (first | (with_reducible exact Upd.refl _ _) | (with_reducible assumption) | (with_reducible apply Upd.drew) | (with_reducible apply Upd.alloc) | (refine Upd0.tr ?_ (by with_reducible assumption)) | (refine Upd.setCell ?_ (fun h => absurd h (by first | exact Nat.lt_irrefl _ | (simp only []; omega))) _))); done)⟩
  | true =>
    have c1 := Lib.hid (show prnC n = 0 by rw [prnC, hb]; rfl)
    have b1 := Lib.hid (par_prn hb)
    cases hO : parO s with
    | none =>
      have q1 := Lib.hid (parS_none hO)
      clear hb hO
      have tk0 : True := trivial
      have tk3 : True := trivial
      go_enter Try.func4, Try.ntmps4
      go_wp2_with (first
        | (go_at_call 15; have _t := tk0; (with_reducible refine (nshort_w n _).use ?_); rintro v w1 ⟨rfl, hu1⟩; rw [hs.out]; clear tk0 _t)
        | (go_at_call 15; (with_reducible refine (nshort_w s _).use ?_); rintro v w2 ⟨rfl, hu2⟩; rw [hs2.out])
        | (go_at_call 17; (with_reducible refine (print_w n hn70 _).use ?_); rintro v w3 ⟨rfl, hu3⟩; rw [c1.out])
        | (go_at_call 19; have _t := tk3; (with_reducible refine (parse_w (prnS n) hP _).use ?_); rintro v w4 ⟨rfl, hu4⟩; rw [b1.out.1, b1.out.2]; clear tk3 _t)
        | (go_at_call 19; (with_reducible refine (parse_w s hs70 _).use ?_); rintro v w5 ⟨rfl, hu5⟩; rw [q1.out.1, q1.out.2])
        | (go_at_call 16; (with_reducible refine (nlive_w _).use ?_); rintro v w6 ⟨rfl, hu6⟩)
        | (with_reducible refine wp_serial (by kernel_rfl) (by kernel_rfl) (by (repeat (first | (with_reducible apply NoBad.then) | (with_reducible apply NoBad.inBlock) | (with_reducible exact NoBad.rets))); done) ?_) | fail)
      all_goals go_returns
      all_goals exact ⟨rfl, (by (repeat (first | (with_reducible exact Upd.refl _ _) | (with_reducible assumption) | (with_reducible apply Upd.drew) | (with_reducible apply Upd.alloc) | (refine Upd0.tr ?_ (by with_reducible assumption)) | (refine Upd.setCell ?_ (fun h => absurd h (by first | exact Nat.lt_irrefl _ | (simp only []; omega))) _))); done)⟩
    | some k =>
      have q1 := Lib.hid (parS_some hO)
      have q2 := Lib.hid (prn_par hO)
      have hk70 : k.length ≤ 70000 := by have := parO_len hO; omega
      clear hb hO
      have tk0 : True := trivial
      have tk2 : True := trivial
      have tk3 : True := trivial
      go_enter Try.func4, Try.ntmps4
      go_wp2_with (first
        | (go_at_call 15; have _t := tk0; (with_reducible refine (nshort_w n _).use ?_); rintro v w1 ⟨rfl, hu1⟩; rw [hs.out]; clear tk0 _t)
        | (go_at_call 15; (with_reducible refine (nshort_w s _).use ?_); rintro v w2 ⟨rfl, hu2⟩; rw [hs2.out])
        | (go_at_call 17; have _t := tk2; (with_reducible refine (print_w n hn70 _).use ?_); rintro v w3 ⟨rfl, hu3⟩; rw [c1.out]; clear tk2 _t)
        | (go_at_call 19; have _t := tk3; (with_reducible refine (parse_w (prnS n) hP _).use ?_); rintro v w4 ⟨rfl, hu4⟩; rw [b1.out.1, b1.out.2]; clear tk3 _t)
        | (go_at_call 19; (with_reducible refine (parse_w s hs70 _).use ?_); rintro v w5 ⟨rfl, hu5⟩; rw [q1.out.1, q1.out.2])
        | (go_at_call 17; (with_reducible refine (print_w k hk70 _).use ?_); rintro v w6 ⟨rfl, hu6⟩; rw [q2.out.1, q2.out.2])
        | (go_at_call 16; (with_reducible refine (nlive_w _).use ?_); rintro v w7 ⟨rfl, hu7⟩)
        | (with_reducible refine wp_serial (by kernel_rfl) (by kernel_rfl) (by (repeat (first | (with_reducible apply NoBad.then) | (with_reducible apply NoBad.inBlock) | (with_reducible exact NoBad.rets))); done) ?_) | fail)
      all_goals go_returns
      all_goals exact ⟨rfl, (by (repeat (first | (with_reducible exact Upd.refl _ _) | (with_reducible assumption) | (with_reducible apply Upd.drew) | (with_reducible apply Upd.alloc) | (refine Upd0.tr ?_ (by with_reducible assumption)) | (refine Upd.setCell ?_ (fun h => absurd h (by first | exact Nat.lt_irrefl _ | (simp only []; omega))) _))); done)⟩
end Go.Proofs.Ytdjleplefbmjbaa
