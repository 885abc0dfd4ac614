/-
  The walk of NameParents: a name is under its parent, and behind it in the order.
-/
import Derived.Test.YtdjleplefbmjbaaNmL
namespace Go.Proofs.Ytdjleplefbmjbaa
open Go.RowKit
set_option linter.unusedSimpArgs false
set_option linter.unusedVariables false
set_option maxRecDepth 100000 in
set_option maxHeartbeats 1000000 in
theorem nameParents_walk (n : Bs) (w : World) : Calls Try.prog 9 #[.string ⟨n.toArray⟩] w (Rets fun r w' => r = .bool true ∧ Upd0 w w') := by
  rcases Nat.lt_or_ge 400 n.length with hlong | hshort
  · have hs := Lib.hid (decide_eq_false (Nat.not_le.2 hlong))
    go_enter Try.func9, Try.ntmps9
    go_wp2_with (first
      | (go_at_call 15; (with_reducible refine (nshort_w n _).use ?_); rintro v w1 ⟨rfl, hu1⟩; rw [hs.out])
      | (go_at_call 16; (with_reducible refine (nlive_w _).use ?_); rintro v w2 ⟨rfl, hu2⟩)
      | (with_reducible refine wp_serial (by kernel_rfl) (by kernel_rfl) (by (repeat (first | (with_reducible apply NoBad.then) | (with_reducible apply NoBad.inBlock) | (with_reducible exact NoBad.rets))); done) ?_) | fail)
    all_goals go_returns
    all_goals exact ⟨rfl, (by (repeat (first | (with_reducible exact Upd.refl _ _) | (with_reducible assumption) | (with_reducible apply Upd.drew) | (with_reducible apply Upd.alloc) | (refine Upd0.tr ?_ (by with_reducible assumption)) | (refine Upd.setCell ?_ (fun h => absurd h (by first | exact Nat.lt_irrefl _ | (simp only []; omega))) _))); done)⟩
  have hs := Lib.hid (decide_eq_true hshort)
  have hn70 : n.length ≤ 70000 := by omega
  cases hb : cutB n with
  | false =>
    have hf := Lib.hid (show upS n = [] ∧ upC n = 1 by rw [upS, upC, hb]; exact ⟨rfl, rfl⟩)
    have hne : (n == []) = false := by rw [beq_eq_false_iff_ne]; rintro rfl; cases hb
    clear hb
    go_enter Try.func9, Try.ntmps9
    go_wp2_with (first
      | (go_at_call 15; (with_reducible refine (nshort_w n _).use ?_); rintro v w1 ⟨rfl, hu1⟩; rw [hs.out])
      | (go_at_call 25; (with_reducible refine (parent_w n hn70 _).use ?_); rintro v w2 ⟨rfl, hu2⟩; rw [hf.out.1, hf.out.2])
      | (go_at_call 16; (with_reducible refine (nlive_w _).use ?_); rintro v w3 ⟨rfl, hu3⟩)
      | (with_reducible refine wp_serial (by kernel_rfl) (by kernel_rfl) (by (repeat (first | (with_reducible apply NoBad.then) | (with_reducible apply NoBad.inBlock) | (with_reducible exact NoBad.rets))); done) ?_) | fail)
    all_goals go_returns
    all_goals exact ⟨rfl, (by (repeat (first | (with_reducible exact Upd.refl _ _) | (with_reducible assumption) | (with_reducible apply Upd.drew) | (with_reducible apply Upd.alloc) | (refine Upd0.tr ?_ (by with_reducible assumption)) | (refine Upd.setCell ?_ (fun h => absurd h (by first | exact Nat.lt_irrefl _ | (simp only []; omega))) _))); done)⟩
  | true =>
    by_cases h0 : n = []
    · subst h0
      have hf := Lib.hid (show upS [] = [] ∧ upC [] = 5 from ⟨rfl, rfl⟩)
      clear hb
      go_enter Try.func9, Try.ntmps9
      go_wp2_with (first
        | (go_at_call 15; (with_reducible refine (nshort_w [] _).use ?_); rintro v w1 ⟨rfl, hu1⟩; rw [hs.out])
        | (go_at_call 25; (with_reducible refine (parent_w [] hn70 _).use ?_); rintro v w2 ⟨rfl, hu2⟩; rw [hf.out.1, hf.out.2])
        | (go_at_call 16; (with_reducible refine (nlive_w _).use ?_); rintro v w3 ⟨rfl, hu3⟩)
        | (with_reducible refine wp_serial (by kernel_rfl) (by kernel_rfl) (by (repeat (first | (with_reducible apply NoBad.then) | (with_reducible apply NoBad.inBlock) | (with_reducible exact NoBad.rets))); done) ?_) | fail)
      all_goals go_returns
      all_goals exact ⟨rfl, (by (repeat (first | (with_reducible exact Upd.refl _ _) | (with_reducible assumption) | (with_reducible apply Upd.drew) | (with_reducible apply Upd.alloc) | (refine Upd0.tr ?_ (by with_reducible assumption)) | (refine Upd.setCell ?_ (fun h => absurd h (by first | exact Nat.lt_irrefl _ | (simp only []; omega))) _))); done)⟩
    · obtain ⟨p, hp⟩ : ∃ p, upS n = p := ⟨_, rfl⟩
      have hpp : cutB n = true ∧ upC n = 0 ∧ undB n p = true ∧ undB p n = false ∧ cmpN p n = -1 ∧ (cutL n).length = (cutL p).length + 1 ∧ p.length ≤ n.length := by
        cases n with
        | nil => exact absurd rfl h0
        | cons k t =>
          have e : p = t.drop k.toNat := by rw [← hp, upS, hb]; rfl
          subst e
          obtain ⟨a1, a2, a3⟩ := par_und hb
          obtain ⟨b1, b2, b3⟩ := par_facts hb
          exact ⟨hb, by rw [upC, hb]; rfl, a1, a2, a3, by rw [b3]; rfl, by simp; omega⟩
      obtain ⟨_, p1, p2, p3, p4, p5, p6⟩ := hpp
      have hp70 : p.length ≤ 70000 := by omega
      have hf := Lib.hid (And.intro hp p1)
      have g2 := Lib.hid p2
      have g3 := Lib.hid p3
      have g4 := Lib.hid p4
      have g5 := Lib.hid p5
      have hcl := (lab_join (cut_lab hb).2)
      rw [p5] at hcl
      clear hp p1 p2 p3 p4 p5 hb h0
      have tk2 : True := trivial
      have tk5 : True := trivial
      go_enter Try.func9, Try.ntmps9
      go_wp2_with (first
        | (go_at_call 15; (with_reducible refine (nshort_w n _).use ?_); rintro v w1 ⟨rfl, hu1⟩; rw [hs.out])
        | (go_at_call 25; (with_reducible refine (parent_w n hn70 _).use ?_); rintro v w2 ⟨rfl, hu2⟩; rw [hf.out.1, hf.out.2])
        | (go_at_call 22; have _t := tk2; (with_reducible refine (under_w n p hn70 hp70 _).use ?_); rintro v w3 ⟨rfl, hu3⟩; rw [g2.out]; clear tk2 _t)
        | (go_at_call 22; (with_reducible refine (under_w p n hp70 hn70 _).use ?_); rintro v w4 ⟨rfl, hu4⟩; rw [g3.out])
        | (go_at_call 21; (with_reducible refine (compare_w p n hp70 hn70 _).use ?_); rintro v w5 ⟨rfl, hu5⟩; rw [g4.out])
        | (go_at_call 30; have _t := tk5; (with_reducible refine (labels_w p hp70 _).use ?_); rintro v w6 ⟨ao, ca, rfl, hr1, hu6⟩; clear hr1; clear tk5 _t)
        | (go_at_call 30; (with_reducible refine (labels_w n hn70 _).use ?_); rintro v w7 ⟨bo, cb, rfl, hr2, hu7⟩; clear hr2; rw [g5.out])
        | (go_at_call 16; (with_reducible refine (nlive_w _).use ?_); rintro v w8 ⟨rfl, hu8⟩)
        | (with_reducible refine wp_serial (by kernel_rfl) (by kernel_rfl) (by (repeat (first | (with_reducible apply NoBad.then) | (with_reducible apply NoBad.inBlock) | (with_reducible exact NoBad.rets))); done) ?_) | fail)
      all_goals go_returns
      all_goals exact ⟨rfl, (by (repeat (first | (with_reducible exact Upd.refl _ _) | (with_reducible assumption) | (with_reducible apply Upd.drew) | (with_reducible apply Upd.alloc) | (refine Upd0.tr ?_ (by with_reducible assumption)) | (refine Upd.setCell ?_ (fun h => absurd h (by first | exact Nat.lt_irrefl _ | (simp only []; omega))) _))); done)⟩
end Go.Proofs.Ytdjleplefbmjbaa
