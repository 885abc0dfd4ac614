/-
  Is it what a type asks for?
-/
import Derived.Test.YtdjleplefbmjbaaRdH
namespace Go.Proofs.Ytdjleplefbmjbaa
open Go.RowKit
set_option linter.unusedSimpArgs false
set_option linter.unusedVariables false
def fitB (k : Int) (d : Bs) : Bool := if k = 1 then (d.length : Int) == 4 else if k = 28 then (d.length : Int) == 16 else if k = 16 then texts d else if k = 6 then psB d else !(phC k d == 2)
set_option maxRecDepth 100000 in
theorem fits_w (k : Int) (d : Bs) (hm : d.length ≤ 70000) (w : World) : Calls Try.prog 75 #[.int .i64 k, .string ⟨d.toArray⟩] w (Rets fun r w' => r = .bool (fitB k d) ∧ Upd0 w w') := by
  by_cases h1 : k = 1
  · subst h1
    go_enter Try.func75, Try.ntmps75
    go_wp2_with (first | (with_reducible refine wp_serial (by kernel_rfl) (by kernel_rfl) (by (repeat (first | (with_reducible apply NoBad.then) | (with_reducible apply NoBad.inBlock) | (with_reducible exact NoBad.rets))); done) ?_) | fail)
    all_goals go_returns
    all_goals exact ⟨by first | rfl | simp [fitB], (by (repeat (first | (with_reducible exact Upd.refl _ _) | (with_reducible assumption) | (with_reducible apply Upd.drew) | (with_reducible apply Upd.alloc) | (refine Upd0.tr ?_ (by with_reducible assumption)) | (refine Upd.setCell ?_ (fun h => absurd h (by first | exact Nat.lt_irrefl _ | (simp only []; omega))) _))); done)⟩
  by_cases h2 : k = 28
  · subst h2
    go_enter Try.func75, Try.ntmps75
    go_wp2_with (first | (with_reducible refine wp_serial (by kernel_rfl) (by kernel_rfl) (by (repeat (first | (with_reducible apply NoBad.then) | (with_reducible apply NoBad.inBlock) | (with_reducible exact NoBad.rets))); done) ?_) | fail)
    all_goals go_returns
    all_goals exact ⟨by first | rfl | simp [fitB], (by (repeat (first | (with_reducible exact Upd.refl _ _) | (with_reducible assumption) | (with_reducible apply Upd.drew) | (with_reducible apply Upd.alloc) | (refine Upd0.tr ?_ (by with_reducible assumption)) | (refine Upd.setCell ?_ (fun h => absurd h (by first | exact Nat.lt_irrefl _ | (simp only []; omega))) _))); done)⟩
  by_cases h3 : k = 16
  · subst h3
    go_enter Try.func75, Try.ntmps75
    go_wp2_with (first
      | (go_at_call 81; (with_reducible refine (texts_w d hm _).use ?_); rintro v w1 ⟨rfl, hu1⟩)
      | (with_reducible refine wp_serial (by kernel_rfl) (by kernel_rfl) (by (repeat (first | (with_reducible apply NoBad.then) | (with_reducible apply NoBad.inBlock) | (with_reducible exact NoBad.rets))); done) ?_)
      | fail)
    all_goals go_returns
    all_goals exact ⟨by first | rfl | simp [fitB], (by (repeat (first | (with_reducible exact Upd.refl _ _) | (with_reducible assumption) | (with_reducible apply Upd.drew) | (with_reducible apply Upd.alloc) | (refine Upd0.tr ?_ (by with_reducible assumption)) | (refine Upd.setCell ?_ (fun h => absurd h (by first | exact Nat.lt_irrefl _ | (simp only []; omega))) _))); done)⟩
  by_cases h4 : k = 6
  · subst h4
    have hf : fitB 6 d = psB d := rfl
    cases hb : psB d
    all_goals
      have hc := Lib.hid (show psC d = _ by rw [psC, hb])
      rw [hb] at hf
      have hfh := Lib.hid hf
      clear hf hb
      go_enter Try.func75, Try.ntmps75
      go_wp2_with (first
        | (go_at_call 65; (with_reducible refine (parseSoa_w d hm _).use ?_); rintro v w1 ⟨rfl, hu1⟩; rw [hc.out]; generalize psV d = pv; obtain ⟨m1, m2, n1, n2, n3, n4, n5⟩ := pv; simp only [So.val])
        | (with_reducible refine wp_serial (by kernel_rfl) (by kernel_rfl) (by (repeat (first | (with_reducible apply NoBad.then) | (with_reducible apply NoBad.inBlock) | (with_reducible exact NoBad.rets))); done) ?_)
        | fail)
      all_goals go_returns
      all_goals exact ⟨by rw [hfh.out]; rfl, (by (repeat (first | (with_reducible exact Upd.refl _ _) | (with_reducible assumption) | (with_reducible apply Upd.drew) | (with_reducible apply Upd.alloc) | (refine Upd0.tr ?_ (by with_reducible assumption)) | (refine Upd.setCell ?_ (fun h => absurd h (by first | exact Nat.lt_irrefl _ | (simp only []; omega))) _))); done)⟩
  have hf := Lib.hid (show fitB k d = !(phC k d == 2) by rw [fitB, if_neg h1, if_neg h2, if_neg h3, if_neg h4])
  go_enter Try.func75, Try.ntmps75
  go_wp2_with (first
    | (go_at_call 82; (with_reducible refine (parseHost_w k d hm _).use ?_); rintro v w1 ⟨rfl, hu1⟩)
    | (with_reducible refine wp_serial (by kernel_rfl) (by kernel_rfl) (by (repeat (first | (with_reducible apply NoBad.then) | (with_reducible apply NoBad.inBlock) | (with_reducible exact NoBad.rets))); done) ?_)
    | fail)
  all_goals go_returns
  all_goals exact ⟨by rw [hf.out]; rfl, (by (repeat (first | (with_reducible exact Upd.refl _ _) | (with_reducible assumption) | (with_reducible apply Upd.drew) | (with_reducible apply Upd.alloc) | (refine Upd0.tr ?_ (by with_reducible assumption)) | (refine Upd.setCell ?_ (fun h => absurd h (by first | exact Nat.lt_irrefl _ | (simp only []; omega))) _))); done)⟩
theorem phC_val (k : Int) (d : Bs) : (!(phC k d == 2)) = (decide (aheadZ k < 0) || (decide (aheadZ k ≤ (d.length : Int)) && hostOk (d.drop (aheadZ k).toNat))) := by
  unfold phC
  by_cases h1 : aheadZ k < 0
  · simp [h1]
  · rw [if_neg h1, decide_eq_false h1, Bool.false_or]
    by_cases h2 : (d.length : Int) < aheadZ k
    · rw [if_pos h2, decide_eq_false (by omega)]; rfl
    · rw [if_neg h2, decide_eq_true (by omega)]
      cases hostOk (d.drop (aheadZ k).toNat) <;> rfl
end Go.Proofs.Ytdjleplefbmjbaa
