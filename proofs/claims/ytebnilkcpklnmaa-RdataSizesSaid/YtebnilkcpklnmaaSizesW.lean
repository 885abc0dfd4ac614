/-
  The walk of RdataSizes: addresses have 4 and 16 bytes, and no others may be; no condition.
-/
import Derived.Test.YtebnilkcpklnmaaRdQ
namespace Go.Proofs.Ytebnilkcpklnmaa
open Go.RowKit
set_option linter.unusedSimpArgs false
set_option linter.unusedVariables false
theorem rec_99 {d : Bs} (h : d.length ≤ 4000) : recC [] 99 0 d = 0 := by
  rw [recC_yes (by decide) (by decide) (by rw [dataB_small h]; rfl)]; rfl
theorem rec_1 {d : Bs} (h : d.length ≤ 4000) : recC [] 1 0 d = if (d.length : Int) == 4 then 0 else 1 := by
  cases hb : (d.length : Int) == 4
  · rw [recC_no3 (by rw [dataB_small h]; exact hb)]; rfl
  · rw [recC_yes (by decide) (by decide) (by rw [dataB_small h]; exact hb)]; rfl
theorem rec_28 {d : Bs} (h : d.length ≤ 4000) : recC [] 28 0 d = if (d.length : Int) == 16 then 0 else 1 := by
  cases hb : (d.length : Int) == 16
  · rw [recC_no3 (by rw [dataB_small h]; exact hb)]; rfl
  · rw [recC_yes (by decide) (by decide) (by rw [dataB_small h]; exact hb)]; rfl
theorem rdataSizes_walk (d : Bs) (w : World) : Calls Try.prog 12 #[.string ⟨d.toArray⟩] w (Rets fun r w' => r = .bool true ∧ Upd0 w w') := by
  rcases Nat.lt_or_ge 4000 d.length with hbig | hsm
  · go_enter Try.func12, Try.ntmps12
    go_wp2_with (first
      | (go_at_call 28; (with_reducible refine (live_w _).use ?_); rintro v w1 ⟨rfl, hu1⟩)
      | (with_reducible refine wp_serial (by kernel_rfl) (by kernel_rfl) (by (repeat (first | (with_reducible apply NoBad.then) | (with_reducible apply NoBad.inBlock) | (with_reducible exact NoBad.rets))); done) ?_)
      | fail)
    all_goals go_returns
    all_goals exact ⟨rfl, (by (repeat (first | (with_reducible exact Upd.refl _ _) | (with_reducible assumption) | (with_reducible apply Upd.drew) | (with_reducible apply Upd.alloc) | (refine Upd0.tr ?_ (by with_reducible assumption)) | (refine Upd.setCell ?_ (fun h => absurd h (by first | exact Nat.lt_irrefl _ | (simp only []; omega))) _))); done)⟩
  have h99 := Lib.hid (rec_99 hsm)
  have h70 : d.length ≤ 70000 := by omega
  have e1 := rec_1 hsm
  have e28 := rec_28 hsm
  cases h4 : (d.length : Int) == 4 <;> cases h16 : (d.length : Int) == 16
  all_goals
    rw [h4] at e1
    rw [h16] at e28
    have h1 := Lib.hid e1
    have h28 := Lib.hid e28
    clear e1 e28
    have tok1 : True := trivial
    have tok2 : True := trivial
    go_enter Try.func12, Try.ntmps12
    go_wp2_with (first
      | (go_at_call 29; have _t := tok1; (with_reducible refine (recCheck_w [] 1 0 d (by decide) h70 _).use ?_); rintro v w1 ⟨rfl, hu1⟩; rw [h1.out]; clear tok1 _t)
      | (go_at_call 29; have _t := tok2; (with_reducible refine (recCheck_w [] 28 0 d (by decide) h70 _).use ?_); rintro v w2 ⟨rfl, hu2⟩; rw [h28.out]; clear tok2 _t)
      | (go_at_call 29; (with_reducible refine (recCheck_w [] 99 0 d (by decide) h70 _).use ?_); rintro v w3 ⟨rfl, hu3⟩; rw [h99.out])
      | (go_at_call 28; (with_reducible refine (live_w _).use ?_); rintro v w4 ⟨rfl, hu4⟩)
      | (with_reducible refine wp_serial (by kernel_rfl) (by kernel_rfl) (by (repeat (first | (with_reducible apply NoBad.then) | (with_reducible apply NoBad.inBlock) | (with_reducible exact NoBad.rets))); done) ?_)
      | fail)
    all_goals go_returns
    all_goals exact ⟨rfl, (by (repeat (first | (with_reducible exact Upd.refl _ _) | (with_reducible assumption) | (with_reducible apply Upd.drew) | (with_reducible apply Upd.alloc) | (refine Upd0.tr ?_ (by with_reducible assumption)) | (refine Upd.setCell ?_ (fun h => absurd h (by first | exact Nat.lt_irrefl _ | (simp only []; omega))) _))); done)⟩
end Go.Proofs.Ytebnilkcpklnmaa
