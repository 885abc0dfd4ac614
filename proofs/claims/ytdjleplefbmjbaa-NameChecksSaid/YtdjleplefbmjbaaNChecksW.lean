/-
  The walk of NameChecks: whether any name may be, what it is folded, its labels, its parent.
-/
import Derived.Test.YtdjleplefbmjbaaNmL
namespace Go.Proofs.Ytdjleplefbmjbaa
open Go.RowKit
set_option linter.unusedSimpArgs false
set_option linter.unusedVariables false
set_option maxRecDepth 100000 in
set_option maxHeartbeats 1000000 in
theorem nameChecks_walk (n : Bs) (w : World) : Calls Try.prog 7 #[.string ⟨n.toArray⟩] w (Rets fun r w' => r = .bool true ∧ Upd0 w w') := by
  rcases Nat.lt_or_ge 400 n.length with hlong | hshort
  · have hs := Lib.hid (decide_eq_false (Nat.not_le.2 hlong))
    go_enter Try.func7, Try.ntmps7
    go_wp2_with (first
      | (go_at_call 15; (with_reducible refine (nshort_w n _).use ?_); rintro v w1 ⟨rfl, hu1⟩; rw [hs.out])
      | (go_at_call 16; (with_reducible refine (nlive_w _).use ?_); rintro v w2 ⟨rfl, hu2⟩)
      | (with_reducible refine wp_serial (by kernel_rfl) (by kernel_rfl) (by (repeat (first | (with_reducible apply NoBad.then) | (with_reducible apply NoBad.inBlock) | (with_reducible exact NoBad.rets))); done) ?_) | fail)
    all_goals go_returns
    all_goals exact ⟨rfl, (by (repeat (first | (with_reducible exact Upd.refl _ _) | (with_reducible assumption) | (with_reducible apply Upd.drew) | (with_reducible apply Upd.alloc) | (refine Upd0.tr ?_ (by with_reducible assumption)) | (refine Upd.setCell ?_ (fun h => absurd h (by first | exact Nat.lt_irrefl _ | (simp only []; omega))) _))); done)⟩
  have hs := Lib.hid (decide_eq_true hshort)
  have hn70 : n.length ≤ 70000 := by omega
  have hnm : n.length ≤ maxLen := by unfold maxLen; omega
  have hcl : (cutL n).length ≤ 1000000 := by have := trn_len n; unfold trn at this; simp at this; omega
  have hbb : (cutL n == cutL n) = true := beq_self_eq_true _
  have hbh := Lib.hid hbb
  clear hbb
  go_enter Try.func7, Try.ntmps7
  go_wp2_with (first
    | (go_at_call 15; (with_reducible refine (nshort_w n _).use ?_); rintro v w1 ⟨rfl, hu1⟩; rw [hs.out])
    | (go_at_call 25; (with_reducible refine (parent_w n hn70 _).use ?_); rintro v w2 ⟨rfl, hu2⟩)
    | (go_at_call 26; (with_reducible refine (rparent_w n hn70 _).use ?_); rintro v w3 ⟨rfl, hu3⟩)
    | (go_at_call 23; (with_reducible refine (check_any n hnm _).use ?_); rintro v w4 ⟨rfl, hu4⟩)
    | (go_at_call 27; (with_reducible refine (rcheck_any n hnm _).use ?_); rintro v w5 ⟨rfl, hu5⟩)
    | (go_at_call 24; (with_reducible refine (fold_w n hn70 _).use ?_); rintro v w6 ⟨rfl, hu6⟩)
    | (go_at_call 28; (with_reducible refine (rfold_w n hn70 _).use ?_); rintro v w7 ⟨rfl, hu7⟩)
    | (go_at_call 30; (with_reducible refine (labels_w n hn70 _).use ?_); rintro v w8 ⟨ao, ca, rfl, hr1, hu8⟩; have hr1h := Lib.hid hr1; clear hr1)
    | (go_at_call 31; (with_reducible refine (rlabels_w n hn70 _).use ?_); rintro v w9 ⟨bo, cb, rfl, hr2, hu9⟩; have sr1 : SR _ ao (cutL n) := (own_sr hr1h.out rfl).up hu9; have sr2 : SR _ bo (cutL n) := own_sr hr2 rfl; have sr1h := Lib.hid sr1; have sr2h := Lib.hid sr2; clear hr2 sr1 sr2)
    | (go_at_call 29; (with_reducible refine (rtexts2_w ao bo ca cb (cutL n) (cutL n) _ sr1h.out sr2h.out hcl hcl).use ?_); rintro v w10 ⟨rfl, hu10⟩; rw [hbh.out])
    | (go_at_call 16; (with_reducible refine (nlive_w _).use ?_); rintro v w11 ⟨rfl, hu11⟩)
    | (with_reducible refine wp_serial (by kernel_rfl) (by kernel_rfl) (by (repeat (first | (with_reducible apply NoBad.then) | (with_reducible apply NoBad.inBlock) | (with_reducible exact NoBad.rets))); done) ?_) | fail)
  all_goals go_returns
  all_goals exact ⟨rfl, (by (repeat (first | (with_reducible exact Upd.refl _ _) | (with_reducible assumption) | (with_reducible apply Upd.drew) | (with_reducible apply Upd.alloc) | (refine Upd0.tr ?_ (by with_reducible assumption)) | (refine Upd.setCell ?_ (fun h => absurd h (by first | exact Nat.lt_irrefl _ | (simp only []; omega))) _))); done)⟩
end Go.Proofs.Ytdjleplefbmjbaa
