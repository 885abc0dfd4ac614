/-
  The walk of NameJoins: the name of any labels, or that there is none.
-/
import Derived.Test.YtdjleplefbmjbaaNmL
namespace Go.Proofs.Ytdjleplefbmjbaa
open Go.RowKit
set_option linter.unusedSimpArgs false
set_option linter.unusedVariables false
set_option maxRecDepth 100000 in
set_option maxHeartbeats 1000000 in
theorem nameJoins_walk (ao : Option Addr) (cap : Nat) (L : List Bs) (w : World) (hS : SR w ao L) (hm : L.length ≤ maxLen) : Calls Try.prog 8 #[.slice ao L.length cap] w (Rets fun r w' => r = .bool true ∧ Upd0 w w') := by
  unfold maxLen at hm
  rcases Nat.lt_or_ge 130 L.length with hmany | hfew
  · go_enter Try.func8, Try.ntmps8
    go_wp2_with (first
      | (go_at_call 16; (with_reducible refine (nlive_w _).use ?_); rintro v w1 ⟨rfl, hu1⟩)
      | (with_reducible refine wp_serial (by kernel_rfl) (by kernel_rfl) (by (repeat (first | (with_reducible apply NoBad.then) | (with_reducible apply NoBad.inBlock) | (with_reducible exact NoBad.rets))); done) ?_) | fail)
    all_goals go_returns
    all_goals exact ⟨rfl, (by (repeat (first | (with_reducible exact Upd.refl _ _) | (with_reducible assumption) | (with_reducible apply Upd.drew) | (with_reducible apply Upd.alloc) | (refine Upd0.tr ?_ (by with_reducible assumption)) | (refine Upd.setCell ?_ (fun h => absurd h (by first | exact Nat.lt_irrefl _ | (simp only []; omega))) _))); done)⟩
  have hSh := Lib.hid hS
  clear hS
  go_enter Try.func8, Try.ntmps8
  go_wp2_with (first | (with_reducible refine wp_serial (by kernel_rfl) (by kernel_rfl) (by (repeat (first | (with_reducible apply NoBad.then) | (with_reducible apply NoBad.inBlock) | (with_reducible exact NoBad.rets))); done) ?_) | fail)
  go_loopw [3] (fun i wr => ∃ k : Nat, k ≤ L.length ∧ i = .int .i64 k ∧ Upd0 w wr) (fun i _ => L.length - (intOf i).toNat)
  case atStart => exact ⟨0, Nat.zero_le _, rfl, Upd.refl _ _⟩
  case round =>
    obtain ⟨k, hk, rfl, hu⟩ := hrel
    have hsr := Lib.hid (hSh.out.up hu)
    by_cases hlt : k < L.length
    · obtain ⟨g, o, rfl, hg, hcs⟩ := hsr.out.some hlt
      obtain ⟨x, hx⟩ : ∃ x, L[k]? = some x := ⟨L[k], List.getElem?_eq_getElem hlt⟩
      have hc := hcs k x hx
      clear hcs hx
      rcases Nat.lt_or_ge 100 x.length with hx1 | hx1
      · go_wp2_with (first
          | (go_at_call 16; (with_reducible refine (nlive_w _).use ?_); rintro v w1 ⟨rfl, hu1⟩)
          | (with_reducible refine wp_serial (by kernel_rfl) (by kernel_rfl) (by (repeat (first | (with_reducible apply NoBad.then) | (with_reducible apply NoBad.inBlock) | (with_reducible exact NoBad.rets))); done) ?_) | fail)
        all_goals go_returns
        all_goals exact ⟨rfl, (by (repeat (first | (with_reducible exact Upd.refl _ _) | (with_reducible assumption) | (with_reducible apply Upd.drew) | (with_reducible apply Upd.alloc) | (refine Upd0.tr ?_ (by with_reducible assumption)) | (refine Upd.setCell ?_ (fun h => absurd h (by first | exact Nat.lt_irrefl _ | (simp only []; omega))) _))); done)⟩
      · go_wp2_with (first | (with_reducible refine wp_serial (by kernel_rfl) (by kernel_rfl) (by (repeat (first | (with_reducible apply NoBad.then) | (with_reducible apply NoBad.inBlock) | (with_reducible exact NoBad.rets))); done) ?_) | fail)
        go_roundw
        case rel => exact ⟨k + 1, by omega, by go_num, (by (repeat (first | (with_reducible exact Upd.refl _ _) | (with_reducible assumption) | (with_reducible apply Upd.drew) | (with_reducible apply Upd.alloc) | (refine Upd0.tr ?_ (by with_reducible assumption)) | (refine Upd.setCell ?_ (fun h => absurd h (by first | exact Nat.lt_irrefl _ | (simp only []; omega))) _))); done)⟩
        case measure => simp [intOf]; omega
    · cases hJ : jnB L with
      | false =>
        have hj := Lib.hid (show jnC L = 1 by rw [jnC, hJ]; rfl)
        clear hJ
        go_wp2_with (first
          | (go_at_call 32; (with_reducible refine (join_w ao cap L wr hsr.out (by omega)).use ?_); rintro v w2 ⟨rfl, hu2⟩; rw [hj.out])
          | (go_at_call 33; (with_reducible refine (rjoin_w ao cap L w2 (hsr.out.up hu2) (by omega)).use ?_); rintro v w3 ⟨rfl, hu3⟩; rw [hj.out])
          | (go_at_call 16; (with_reducible refine (nlive_w _).use ?_); rintro v w4 ⟨rfl, hu4⟩)
          | (with_reducible refine wp_serial (by kernel_rfl) (by kernel_rfl) (by (repeat (first | (with_reducible apply NoBad.then) | (with_reducible apply NoBad.inBlock) | (with_reducible exact NoBad.rets))); done) ?_) | fail)
        all_goals go_returns
        all_goals exact ⟨rfl, (by (repeat (first | (with_reducible exact Upd.refl _ _) | (with_reducible assumption) | (with_reducible apply Upd.drew) | (with_reducible apply Upd.alloc) | (refine Upd0.tr ?_ (by with_reducible assumption)) | (refine Upd.setCell ?_ (fun h => absurd h (by first | exact Nat.lt_irrefl _ | (simp only []; omega))) _))); done)⟩
      | true =>
        have hj := Lib.hid (show jnC L = 0 by rw [jnC, hJ]; rfl)
        have hs := Lib.hid (show cutL (jnS L) = L by rw [jnS, hJ]; exact (jnB_cut hJ).2)
        have hjl := jnS_len L
        have hbb : (L == L) = true := beq_self_eq_true _
        have hbh := Lib.hid hbb
        clear hbb hJ
        go_wp2_with (first
          | (go_at_call 32; (with_reducible refine (join_w ao cap L wr hsr.out (by omega)).use ?_); rintro v w2 ⟨rfl, hu2⟩; rw [hj.out])
          | (go_at_call 33; (with_reducible refine (rjoin_w ao cap L w2 (hsr.out.up hu2) (by omega)).use ?_); rintro v w3 ⟨rfl, hu3⟩; rw [hj.out])
          | (go_at_call 30; (with_reducible refine (labels_w (jnS L) (by omega) _).use ?_); rintro v w4 ⟨bo, cb, rfl, hr, hu4⟩; rw [hs.out] at hr ⊢; have sr1 : SR w4 bo L := own_sr hr rfl; have sr1h := Lib.hid sr1; clear hr sr1)
          | (go_at_call 29; (with_reducible refine (rtexts2_w bo ao cb cap L L w4 sr1h.out (((hsr.out.up hu2).up hu3).up hu4) (by omega) (by omega)).use ?_); rintro v w5 ⟨rfl, hu5⟩; rw [hbh.out])
          | (go_at_call 16; (with_reducible refine (nlive_w _).use ?_); rintro v w6 ⟨rfl, hu6⟩)
          | (with_reducible refine wp_serial (by kernel_rfl) (by kernel_rfl) (by (repeat (first | (with_reducible apply NoBad.then) | (with_reducible apply NoBad.inBlock) | (with_reducible exact NoBad.rets))); done) ?_) | fail)
        all_goals go_returns
        all_goals exact ⟨rfl, (by (repeat (first | (with_reducible exact Upd.refl _ _) | (with_reducible assumption) | (with_reducible apply Upd.drew) | (with_reducible apply Upd.alloc) | (refine Upd0.tr ?_ (by with_reducible assumption)) | (refine Upd.setCell ?_ (fun h => absurd h (by first | exact Nat.lt_irrefl _ | (simp only []; omega))) _))); done)⟩
end Go.Proofs.Ytdjleplefbmjbaa
