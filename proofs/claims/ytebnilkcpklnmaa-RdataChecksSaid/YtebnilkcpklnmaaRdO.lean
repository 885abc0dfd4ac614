/-
  Is it what a type asks for: the document's.
-/
import Derived.Test.YtebnilkcpklnmaaRdL
import Derived.Test.YtebnilkcpklnmaaRdP
namespace Go.Proofs.Ytebnilkcpklnmaa
open Go.RowKit
set_option linter.unusedSimpArgs false
set_option linter.unusedVariables false
set_option maxRecDepth 100000 in
theorem data_w (k : Int) (d : Bs) (hm : d.length ≤ 70000) (w : World) : Calls Try.prog 47 #[.int .i64 k, .string ⟨d.toArray⟩] w (Rets fun r w' => r = .bool (dataB k d) ∧ Upd0 w w') := by
  rcases Nat.lt_or_ge 4000 d.length with hbig | hsm
  · have hf := Lib.hid (dataB_big (k := k) hbig)
    go_enter Try.func47, Try.ntmps47
    go_wp2_with (first | (with_reducible refine wp_serial (by kernel_rfl) (by kernel_rfl) (by (repeat (first | (with_reducible apply NoBad.then) | (with_reducible apply NoBad.inBlock) | (with_reducible exact NoBad.rets))); done) ?_) | fail)
    all_goals go_returns
    all_goals exact ⟨by rw [hf.out]; rfl, (by (repeat (first | (with_reducible exact Upd.refl _ _) | (with_reducible assumption) | (with_reducible apply Upd.drew) | (with_reducible apply Upd.alloc) | (refine Upd0.tr ?_ (by with_reducible assumption)) | (refine Upd.setCell ?_ (fun h => absurd h (by first | exact Nat.lt_irrefl _ | (simp only []; omega))) _))); done)⟩
  rw [dataB_small hsm]
  by_cases h1 : k = 1
  · subst h1
    go_enter Try.func47, Try.ntmps47
    go_wp2_with (first | (with_reducible refine wp_serial (by kernel_rfl) (by kernel_rfl) (by (repeat (first | (with_reducible apply NoBad.then) | (with_reducible apply NoBad.inBlock) | (with_reducible exact NoBad.rets))); done) ?_) | fail)
    all_goals go_returns
    all_goals exact ⟨by first | rfl | simp [fitB], (by (repeat (first | (with_reducible exact Upd.refl _ _) | (with_reducible assumption) | (with_reducible apply Upd.drew) | (with_reducible apply Upd.alloc) | (refine Upd0.tr ?_ (by with_reducible assumption)) | (refine Upd.setCell ?_ (fun h => absurd h (by first | exact Nat.lt_irrefl _ | (simp only []; omega))) _))); done)⟩
  by_cases h2 : k = 28
  · subst h2
    go_enter Try.func47, Try.ntmps47
    go_wp2_with (first | (with_reducible refine wp_serial (by kernel_rfl) (by kernel_rfl) (by (repeat (first | (with_reducible apply NoBad.then) | (with_reducible apply NoBad.inBlock) | (with_reducible exact NoBad.rets))); done) ?_) | fail)
    all_goals go_returns
    all_goals exact ⟨by first | rfl | simp [fitB], (by (repeat (first | (with_reducible exact Upd.refl _ _) | (with_reducible assumption) | (with_reducible apply Upd.drew) | (with_reducible apply Upd.alloc) | (refine Upd0.tr ?_ (by with_reducible assumption)) | (refine Upd.setCell ?_ (fun h => absurd h (by first | exact Nat.lt_irrefl _ | (simp only []; omega))) _))); done)⟩
  by_cases h3 : k = 16
  · subst h3
    go_enter Try.func47, Try.ntmps47
    go_wp2_with (first
      | (go_at_call 62; (with_reducible refine (rtexts_w d hm _).use ?_); rintro v w1 ⟨rfl, hu1⟩)
      | (with_reducible refine wp_serial (by kernel_rfl) (by kernel_rfl) (by (repeat (first | (with_reducible apply NoBad.then) | (with_reducible apply NoBad.inBlock) | (with_reducible exact NoBad.rets))); done) ?_)
      | fail)
    all_goals go_returns
    all_goals exact ⟨by first | rfl | simp [fitB], (by (repeat (first | (with_reducible exact Upd.refl _ _) | (with_reducible assumption) | (with_reducible apply Upd.drew) | (with_reducible apply Upd.alloc) | (refine Upd0.tr ?_ (by with_reducible assumption)) | (refine Upd.setCell ?_ (fun h => absurd h (by first | exact Nat.lt_irrefl _ | (simp only []; omega))) _))); done)⟩
  by_cases h4 : k = 6
  · subst h4
    have hf : fitB 6 d = psB d := rfl
    cases hb : psB d
    all_goals
      have hc := Lib.hid (show psC d = _ by rw [psC, hb])
      rw [hb] at hf
      have hfh := Lib.hid hf
      clear hf hb
      go_enter Try.func47, Try.ntmps47
      go_wp2_with (first
        | (go_at_call 34; (with_reducible refine (rparseSoa_w d hm _).use ?_); rintro v w1 ⟨rfl, hu1⟩; rw [hc.out]; generalize psV d = pv; obtain ⟨m1, m2, n1, n2, n3, n4, n5⟩ := pv; simp only [So.val])
        | (with_reducible refine wp_serial (by kernel_rfl) (by kernel_rfl) (by (repeat (first | (with_reducible apply NoBad.then) | (with_reducible apply NoBad.inBlock) | (with_reducible exact NoBad.rets))); done) ?_)
        | fail)
      all_goals go_returns
      all_goals exact ⟨by rw [hfh.out]; rfl, (by (repeat (first | (with_reducible exact Upd.refl _ _) | (with_reducible assumption) | (with_reducible apply Upd.drew) | (with_reducible apply Upd.alloc) | (refine Upd0.tr ?_ (by with_reducible assumption)) | (refine Upd.setCell ?_ (fun h => absurd h (by first | exact Nat.lt_irrefl _ | (simp only []; omega))) _))); done)⟩
  have hf := Lib.hid (show fitB k d = (decide (aheadZ k < 0) || (decide (aheadZ k ≤ (d.length : Int)) && hostOk (d.drop (aheadZ k).toNat))) by rw [fitB, if_neg h1, if_neg h2, if_neg h3, if_neg h4, phC_val])
  have hz := aheadZ_or k
  rcases hz with hz | hz
  · have hh := Lib.hid hz
    clear hz
    go_enter Try.func47, Try.ntmps47
    go_wp2_with (first
      | (go_at_call 56; (with_reducible refine (rahead_w k _).use ?_); rintro v w1 ⟨rfl, hu1⟩; rw [hh.out])
      | (with_reducible refine wp_serial (by kernel_rfl) (by kernel_rfl) (by (repeat (first | (with_reducible apply NoBad.then) | (with_reducible apply NoBad.inBlock) | (with_reducible exact NoBad.rets))); done) ?_)
      | fail)
    all_goals go_returns
    all_goals exact ⟨by rw [hf.out, hh.out]; rfl, (by (repeat (first | (with_reducible exact Upd.refl _ _) | (with_reducible assumption) | (with_reducible apply Upd.drew) | (with_reducible apply Upd.alloc) | (refine Upd0.tr ?_ (by with_reducible assumption)) | (refine Upd.setCell ?_ (fun h => absurd h (by first | exact Nat.lt_irrefl _ | (simp only []; omega))) _))); done)⟩
  obtain ⟨n, hn, hn6⟩ : ∃ n : Nat, aheadZ k = n ∧ n ≤ 6 := by
    rcases hz with h | h | h
    · exact ⟨0, h, by omega⟩
    · exact ⟨2, h, by omega⟩
    · exact ⟨6, h, by omega⟩
  clear hz
  have hh := Lib.hid hn
  have hf2 := Lib.hid (show fitB k d = (decide (n ≤ d.length) && hostOk (d.drop n)) by
    rw [hf.out, hn, decide_eq_false (by omega), Bool.false_or]; congr 1; simp)
  clear hn
  go_enter Try.func47, Try.ntmps47
  go_wp2_with (first
    | (go_at_call 56; (with_reducible refine (rahead_w k _).use ?_); rintro v w1 ⟨rfl, hu1⟩; rw [hh.out])
    | (go_at_call 57; (with_reducible refine (isHost_w (d.drop n) (by simp; omega) _).use ?_); rintro v w2 ⟨rfl, hu2⟩)
    | (with_reducible refine wp_serial (by kernel_rfl) (by kernel_rfl) (by (repeat (first | (with_reducible apply NoBad.then) | (with_reducible apply NoBad.inBlock) | (with_reducible exact NoBad.rets))); done) ?_)
    | fail)
  all_goals go_returns
  all_goals exact ⟨by
    have q1 : ¬ ((n : Int) < 0) := by omega
    rw [hf2.out]
    rcases Nat.lt_or_ge d.length n with q | q
    · first | (exfalso; omega) | (have q2 := Nat.not_le.2 q; simp [q1, q2])
    · first | (exfalso; omega) | (simp [q1, q]), (by (repeat (first | (with_reducible exact Upd.refl _ _) | (with_reducible assumption) | (with_reducible apply Upd.drew) | (with_reducible apply Upd.alloc) | (refine Upd0.tr ?_ (by with_reducible assumption)) | (refine Upd.setCell ?_ (fun h => absurd h (by first | exact Nat.lt_irrefl _ | (simp only []; omega))) _))); done)⟩
end Go.Proofs.Ytebnilkcpklnmaa
