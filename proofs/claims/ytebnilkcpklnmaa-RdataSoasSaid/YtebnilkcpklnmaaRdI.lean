/-
  The document's ParseHost and ParseSoa.
-/
import Derived.Test.YtebnilkcpklnmaaRdH
import Derived.Test.YtebnilkcpklnmaaSer3
namespace Go.Proofs.Ytebnilkcpklnmaa
open Go.RowKit
set_option linter.unusedSimpArgs false
set_option linter.unusedVariables false
theorem hostN_of {e : Bs} (h : hostOk e = true) : hostN e = e.take (e.length - 1) := by rw [hostN, if_pos h, List.dropLast_eq_take]
theorem hostOk_pos {e : Bs} (h : hostOk e = true) : 1 ≤ e.length := by
  cases e with
  | nil => cases h
  | cons x t => simp
theorem rparseHost_w (k : Int) (d : Bs) (hm : d.length ≤ 70000) (w : World) : Calls Try.prog 38 #[.int .i64 k, .string ⟨d.toArray⟩] w (Rets fun r w' => r = .tuple #[.string ⟨(phN k d).toArray⟩, .int .i64 (phC k d)] ∧ Upd0 w w') := by
  have h4 := aheadZ_or k
  rcases h4 with h | h
  · have hh := Lib.hid h
    clear h
    go_enter Try.func38, Try.ntmps38
    go_wp2_with (first
      | (with_reducible refine wp_serial (by kernel_rfl) (by kernel_rfl) (by (repeat (first | (with_reducible apply NoBad.then) | (with_reducible apply NoBad.inBlock) | (with_reducible exact NoBad.rets))); done) ?_)
      | (go_at_call 56; refine (rahead_w k _).use ?_; rintro v w1 ⟨rfl, hu1⟩; rw [hh.out])
      | fail)
    all_goals go_returns
    exact ⟨by simp [phN, phC, hh.out], (by (repeat (first | (with_reducible exact Upd.refl _ _) | (with_reducible assumption) | (with_reducible apply Upd.drew) | (with_reducible apply Upd.alloc) | (refine Upd0.tr ?_ (by with_reducible assumption)) | (refine Upd.setCell ?_ (fun h => absurd h (by first | exact Nat.lt_irrefl _ | (simp only []; omega))) _))); done)⟩
  obtain ⟨n, hn, hn6⟩ : ∃ n : Nat, aheadZ k = n ∧ n ≤ 6 := by
    rcases h with h | h | h
    · exact ⟨0, h, by omega⟩
    · exact ⟨2, h, by omega⟩
    · exact ⟨6, h, by omega⟩
  clear h
  have hh := Lib.hid hn
  clear hn
  rcases Nat.lt_or_ge d.length n with hlt | hlt
  · have hC := Lib.hid (show phC k d = 2 by rw [phC, hh.out, if_neg (by omega), if_pos (by omega)])
    go_enter Try.func38, Try.ntmps38
    go_wp2_with (first
      | (with_reducible refine wp_serial (by kernel_rfl) (by kernel_rfl) (by (repeat (first | (with_reducible apply NoBad.then) | (with_reducible apply NoBad.inBlock) | (with_reducible exact NoBad.rets))); done) ?_)
      | (go_at_call 56; refine (rahead_w k _).use ?_; rintro v w1 ⟨rfl, hu1⟩; rw [hh.out])
      | fail)
    all_goals go_returns
    all_goals exact ⟨by rw [phN, hC.out]; rfl, (by (repeat (first | (with_reducible exact Upd.refl _ _) | (with_reducible assumption) | (with_reducible apply Upd.drew) | (with_reducible apply Upd.alloc) | (refine Upd0.tr ?_ (by with_reducible assumption)) | (refine Upd.setCell ?_ (fun h => absurd h (by first | exact Nat.lt_irrefl _ | (simp only []; omega))) _))); done)⟩
  · have hC := Lib.hid (show phC k d = if hostOk (d.drop n) then 0 else 2 by rw [phC, hh.out, if_neg (by omega), if_neg (by omega)]; rfl)
    have hN := Lib.hid (show phN k d = if hostOk (d.drop n) then (d.drop n).dropLast else [] by rw [phN, hC.out, hh.out]; cases hostOk (d.drop n) <;> rfl)
    cases hok : hostOk (d.drop n)
    · have hokh := Lib.hid hok
      clear hok
      go_enter Try.func38, Try.ntmps38
      go_wp2_with (first
        | (with_reducible refine wp_serial (by kernel_rfl) (by kernel_rfl) (by (repeat (first | (with_reducible apply NoBad.then) | (with_reducible apply NoBad.inBlock) | (with_reducible exact NoBad.rets))); done) ?_)
        | (go_at_call 56; refine (rahead_w k _).use ?_; rintro v w1 ⟨rfl, hu1⟩; rw [hh.out])
        | (go_at_call 57; refine (isHost_w (d.drop n) (by simp; omega) _).use ?_; rintro v w2 ⟨rfl, hu2⟩; rw [hokh.out])
        | fail)
      all_goals go_returns
      all_goals exact ⟨by rw [hC.out, hN.out, hokh.out]; rfl, (by (repeat (first | (with_reducible exact Upd.refl _ _) | (with_reducible assumption) | (with_reducible apply Upd.drew) | (with_reducible apply Upd.alloc) | (refine Upd0.tr ?_ (by with_reducible assumption)) | (refine Upd.setCell ?_ (fun h => absurd h (by first | exact Nat.lt_irrefl _ | (simp only []; omega))) _))); done)⟩
    · have hp := hostOk_pos hok
      simp only [List.length_drop] at hp
      have hokh := Lib.hid hok
      have hcut := Lib.hid (show (d.drop n).dropLast = (d.take (d.length - 1)).drop n by
        rw [List.dropLast_eq_take, List.drop_take, List.length_drop]; congr 1; omega)
      clear hok
      go_enter Try.func38, Try.ntmps38
      go_wp2_with (first
        | (with_reducible refine wp_serial (by kernel_rfl) (by kernel_rfl) (by (repeat (first | (with_reducible apply NoBad.then) | (with_reducible apply NoBad.inBlock) | (with_reducible exact NoBad.rets))); done) ?_)
        | (go_at_call 56; refine (rahead_w k _).use ?_; rintro v w1 ⟨rfl, hu1⟩; rw [hh.out])
        | (go_at_call 57; refine (isHost_w (d.drop n) (by simp; omega) _).use ?_; rintro v w2 ⟨rfl, hu2⟩; rw [hokh.out])
        | fail)
      all_goals go_returns
      all_goals exact ⟨by rw [hC.out, hN.out, hokh.out]; simp [hcut.out], (by (repeat (first | (with_reducible exact Upd.refl _ _) | (with_reducible assumption) | (with_reducible apply Upd.drew) | (with_reducible apply Upd.alloc) | (refine Upd0.tr ?_ (by with_reducible assumption)) | (refine Upd.setCell ?_ (fun h => absurd h (by first | exact Nat.lt_irrefl _ | (simp only []; omega))) _))); done)⟩
end Go.Proofs.Ytebnilkcpklnmaa
