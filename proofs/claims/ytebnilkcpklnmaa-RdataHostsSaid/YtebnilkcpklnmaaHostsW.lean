/-
  The walk of RdataHosts: any name's bytes, and the name of any type's data.
-/
import Derived.Test.YtebnilkcpklnmaaRdQ
import Derived.Test.YtebnilkcpklnmaaRdI
namespace Go.Proofs.Ytebnilkcpklnmaa
open Go.RowKit
set_option linter.unusedSimpArgs false
set_option linter.unusedVariables false
set_option maxRecDepth 100000 in
theorem rdataHosts_walk (n : Bs) (k : Int) (d : Bs) (w : World) : Calls Try.prog 10 #[.string ⟨n.toArray⟩, .int .i64 k, .string ⟨d.toArray⟩] w (Rets fun r w' => r = .bool true ∧ Upd0 w w') := by
  cases hs : (decide (n.length ≤ 5000) && decide (d.length ≤ 5000)) with
  | false =>
    have hsh := Lib.hid hs
    clear hs
    go_enter Try.func10, Try.ntmps10
    go_wp2_with (first
      | (go_at_call 27; (with_reducible refine (short_w n d _).use ?_); rintro v w1 ⟨rfl, hu1⟩; rw [hsh.out])
      | (go_at_call 28; (with_reducible refine (live_w _).use ?_); rintro v w2 ⟨rfl, hu2⟩)
      | (with_reducible refine wp_serial (by kernel_rfl) (by kernel_rfl) (by (repeat (first | (with_reducible apply NoBad.then) | (with_reducible apply NoBad.inBlock) | (with_reducible exact NoBad.rets))); done) ?_)
      | fail)
    all_goals go_returns
    all_goals exact ⟨rfl, (by (repeat (first | (with_reducible exact Upd.refl _ _) | (with_reducible assumption) | (with_reducible apply Upd.drew) | (with_reducible apply Upd.alloc) | (refine Upd0.tr ?_ (by with_reducible assumption)) | (refine Upd.setCell ?_ (fun h => absurd h (by first | exact Nat.lt_irrefl _ | (simp only []; omega))) _))); done)⟩
  | true =>
    have hsh := Lib.hid hs
    simp only [Bool.and_eq_true, decide_eq_true_eq] at hs
    obtain ⟨hn, hd⟩ := hs
    have hn' : n.length ≤ 70000 := by omega
    have hd' : d.length ≤ 70000 := by omega
    go_enter Try.func10, Try.ntmps10
    go_wp2_with (first
      | (go_at_call 27; (with_reducible refine (short_w n d _).use ?_); rintro v w1 ⟨rfl, hu1⟩; rw [hsh.out])
      | (go_at_call 35; (with_reducible refine (host_w n hn' _).use ?_); rintro v w2 ⟨rfl, hu2⟩)
      | (go_at_call 36; (with_reducible refine (rhost_w n hn' _).use ?_); rintro v w3 ⟨rfl, hu3⟩)
      | (go_at_call 37; (with_reducible refine (parseHost_w k d hd' _).use ?_); rintro v w4 ⟨rfl, hu4⟩)
      | (go_at_call 38; (with_reducible refine (rparseHost_w k d hd' _).use ?_); rintro v w5 ⟨rfl, hu5⟩)
      | (go_at_call 28; (with_reducible refine (live_w _).use ?_); rintro v w6 ⟨rfl, hu6⟩)
      | (with_reducible refine wp_serial (by kernel_rfl) (by kernel_rfl) (by (repeat (first | (with_reducible apply NoBad.then) | (with_reducible apply NoBad.inBlock) | (with_reducible exact NoBad.rets))); done) ?_)
      | fail)
    all_goals go_returns
    all_goals exact ⟨rfl, (by (repeat (first | (with_reducible exact Upd.refl _ _) | (with_reducible assumption) | (with_reducible apply Upd.drew) | (with_reducible apply Upd.alloc) | (refine Upd0.tr ?_ (by with_reducible assumption)) | (refine Upd.setCell ?_ (fun h => absurd h (by first | exact Nat.lt_irrefl _ | (simp only []; omega))) _))); done)⟩
end Go.Proofs.Ytebnilkcpklnmaa
