/-
  The walk of RdataChecks: whether any record may be.
-/
import Derived.Test.YtebnilkcpklnmaaRdQ
import Derived.Test.YtebnilkcpklnmaaRdT
namespace Go.Proofs.Ytebnilkcpklnmaa
open Go.RowKit
set_option linter.unusedSimpArgs false
set_option linter.unusedVariables false
set_option maxRecDepth 100000 in
theorem rdataChecks_walk (s : Bs) (k t : Int) (d : Bs) (w : World) : Calls Try.prog 8 #[.agg #[.string ⟨s.toArray⟩, .int .i64 k, .int .i64 t, .string ⟨d.toArray⟩]] w (Rets fun r w' => r = .bool true ∧ Upd0 w w') := by
  cases hs : (decide (d.length ≤ 5000) && decide (s.length ≤ 5000)) with
  | false =>
    have hsh := Lib.hid hs
    clear hs
    go_enter Try.func8, Try.ntmps8
    go_wp2_with (first
      | (go_at_call 27; (with_reducible refine (short_w d s _).use ?_); rintro v w1 ⟨rfl, hu1⟩; rw [hsh.out])
      | (go_at_call 28; (with_reducible refine (live_w _).use ?_); rintro v w2 ⟨rfl, hu2⟩)
      | (with_reducible refine wp_serial (by kernel_rfl) (by kernel_rfl) (by (repeat (first | (with_reducible apply NoBad.then) | (with_reducible apply NoBad.inBlock) | (with_reducible exact NoBad.rets))); done) ?_)
      | fail)
    all_goals go_returns
    all_goals exact ⟨rfl, (by (repeat (first | (with_reducible exact Upd.refl _ _) | (with_reducible assumption) | (with_reducible apply Upd.drew) | (with_reducible apply Upd.alloc) | (refine Upd0.tr ?_ (by with_reducible assumption)) | (refine Upd.setCell ?_ (fun h => absurd h (by first | exact Nat.lt_irrefl _ | (simp only []; omega))) _))); done)⟩
  | true =>
    have hsh := Lib.hid hs
    simp only [Bool.and_eq_true, decide_eq_true_eq] at hs
    obtain ⟨hn, hd⟩ := hs
    have hn' : s.length ≤ 70000 := by omega
    have hd' : d.length ≤ 70000 := by omega
    go_enter Try.func8, Try.ntmps8
    go_upto_region 3 with (first
      | (go_at_call 27; (with_reducible refine (short_w d s _).use ?_); rintro v w1 ⟨rfl, hu1⟩; rw [hsh.out]; have z1 := Lib.hid (hu1.block (fun h => h) (alloc_last _ _ w.heap.size rfl)); obtain ⟨a0, a1, a2, a3, a4⟩ := four z1.out)
      | fail)
    go_wp2_with (first
      | (go_at_call 29; (with_reducible refine (recCheck_w s k t d hn' hd' _).use ?_); rintro v w2 ⟨rfl, hu2⟩)
      | (refine And.intro hu2.ext ?_)
      | (go_at_call 30; (with_reducible refine (rrecCheck_w s k t d hn' hd' _).use ?_); rintro v w3 ⟨rfl, hu3⟩)
      | (go_at_call 28; (with_reducible refine (live_w _).use ?_); rintro v w4 ⟨rfl, hu4⟩)
      | (with_reducible refine wp_serial3_1 0 [] [0, 2] 1 [3, 4, 5, 6, 7, 8] [_, _] _ [_, _, _, _, _, _] (by kernel_rfl) (by decide +kernel) rfl rfl rfl ⟨Nat.zero_le _, fun s hs => absurd hs List.not_mem_nil⟩ (by (repeat (first | (with_reducible apply NoBad.then) | (with_reducible apply NoBad.inBlock) | (with_reducible exact NoBad.rets))); done) ?_)
      | fail)
    all_goals go_returns
    all_goals exact ⟨rfl, (by (repeat (first | (with_reducible exact Upd.refl _ _) | (with_reducible assumption) | (with_reducible apply Upd.drew) | (with_reducible apply Upd.alloc) | (refine Upd0.tr ?_ (by with_reducible assumption)) | (refine Upd.setCell ?_ (fun h => absurd h (by first | exact Nat.lt_irrefl _ | (simp only []; omega))) _))); done)⟩
end Go.Proofs.Ytebnilkcpklnmaa
