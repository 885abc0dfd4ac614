/-
  Whether a record may be: the document's.
-/
import Derived.Test.YtebnilkcpklnmaaRdO
namespace Go.Proofs.Ytebnilkcpklnmaa
open Go.RowKit
set_option linter.unusedSimpArgs false
set_option linter.unusedVariables false
theorem recC_no0 {s : Bs} {k t : Int} {d : Bs} (h : checkC s = 1) : recC s k t d = 1 := by rw [recC, h]; simp
set_option maxRecDepth 100000 in
set_option maxHeartbeats 2000000 in
theorem rrecCheck_w (s : Bs) (k t : Int) (d : Bs) (hs : s.length ≤ 70000) (hm : d.length ≤ 70000) (w : World) : Calls Try.prog 30 #[.agg #[.string ⟨s.toArray⟩, .int .i64 k, .int .i64 t, .string ⟨d.toArray⟩]] w (Rets fun r w' => r = .int .i64 (recC s k t d) ∧ Upd0 w w') := by
  rcases checkC_or s with hC | hC
  rotate_left
  · have hf := Lib.hid (recC_no0 (k := k) (t := t) (d := d) hC)
    have hc := Lib.hid hC
    clear hC
    go_enter Try.func30, Try.ntmps30
    go_wp2_with (first
      | (go_at_call 42; (with_reducible refine (rcheck_any s (by unfold maxLen; omega) _).use ?_); rintro v w1 ⟨rfl, hu1⟩; rw [hc.out]; obtain ⟨a0, a1, a2, a3, a4⟩ := four (hu1.block (fun h => h) (alloc_last _ _ w.heap.size rfl)))
      | (with_reducible refine wp_serial (by kernel_rfl) (by kernel_rfl) (by (repeat (first | (with_reducible apply NoBad.then) | (with_reducible apply NoBad.inBlock) | (with_reducible exact NoBad.rets))); done) ?_)
      | fail)
    all_goals go_returns
    all_goals first
      | exact ⟨by rw [hf.out]; rfl, (by (repeat (first | (with_reducible exact Upd.refl _ _) | (with_reducible assumption) | (with_reducible apply Upd.drew) | (with_reducible apply Upd.alloc) | (refine Upd0.tr ?_ (by with_reducible assumption)) | (refine Upd.setCell ?_ (fun h => absurd h (by first | exact Nat.lt_irrefl _ | (simp only []; omega))) _))); done)⟩
      | (exfalso; rename_i hx; simp only [beq_iff_eq] at hx; omega)
  have hc := Lib.hid hC
  clear hC
  cases hk : kindB k with
  | false =>
    have hf := Lib.hid (recC_no1 (s := s) (t := t) (d := d) hk)
    rcases kind_no hk with rfl | rfl | rfl | rfl | ⟨k1, k2, k3, k4, k5⟩ | ⟨k1, k6, k2, k3, k4, k5⟩
    all_goals
      clear hk
      go_enter Try.func30, Try.ntmps30
      go_wp2_with (first
        | (go_at_call 42; (with_reducible refine (rcheck_any s (by unfold maxLen; omega) _).use ?_); rintro v w1 ⟨rfl, hu1⟩; rw [hc.out]; obtain ⟨a0, a1, a2, a3, a4⟩ := four (hu1.block (fun h => h) (alloc_last _ _ w.heap.size rfl)))
        | (with_reducible refine wp_serial (by kernel_rfl) (by kernel_rfl) (by (repeat (first | (with_reducible apply NoBad.then) | (with_reducible apply NoBad.inBlock) | (with_reducible exact NoBad.rets))); done) ?_)
        | fail)
      all_goals go_returns
      all_goals first
        | exact ⟨by rw [hf.out]; rfl, (by (repeat (first | (with_reducible exact Upd.refl _ _) | (with_reducible assumption) | (with_reducible apply Upd.drew) | (with_reducible apply Upd.alloc) | (refine Upd0.tr ?_ (by with_reducible assumption)) | (refine Upd.setCell ?_ (fun h => absurd h (by first | exact Nat.lt_irrefl _ | (simp only []; omega))) _))); done)⟩
        | (exfalso; rename_i hx; simp only [beq_iff_eq] at hx; omega)
  | true =>
    cases ht : ttlB t with
    | false =>
      have hf := Lib.hid (recC_no2 (s := s) (k := k) (d := d) ht)
      obtain ⟨k1, k2, k3, k4, k5, k6⟩ := kind_yes hk
      rcases ttl_no ht with t1 | ⟨t1, t2⟩
      all_goals
        clear hk ht
        go_enter Try.func30, Try.ntmps30
        go_wp2_with (first
          | (go_at_call 42; (with_reducible refine (rcheck_any s (by unfold maxLen; omega) _).use ?_); rintro v w1 ⟨rfl, hu1⟩; rw [hc.out]; obtain ⟨a0, a1, a2, a3, a4⟩ := four (hu1.block (fun h => h) (alloc_last _ _ w.heap.size rfl)))
          | (with_reducible refine wp_serial (by kernel_rfl) (by kernel_rfl) (by (repeat (first | (with_reducible apply NoBad.then) | (with_reducible apply NoBad.inBlock) | (with_reducible exact NoBad.rets))); done) ?_)
          | fail)
        all_goals go_returns
        all_goals first
          | exact ⟨by rw [hf.out]; rfl, (by (repeat (first | (with_reducible exact Upd.refl _ _) | (with_reducible assumption) | (with_reducible apply Upd.drew) | (with_reducible apply Upd.alloc) | (refine Upd0.tr ?_ (by with_reducible assumption)) | (refine Upd.setCell ?_ (fun h => absurd h (by first | exact Nat.lt_irrefl _ | (simp only []; omega))) _))); done)⟩
          | (exfalso; rename_i hx; simp only [beq_iff_eq] at hx; omega)
    | true =>
      obtain ⟨k1, k2, k3, k4, k5, k6⟩ := kind_yes hk
      obtain ⟨t1, t2⟩ := ttl_yes ht
      cases hd : dataB k d with
      | false =>
        have hf := Lib.hid (recC_no3 (s := s) (k := k) (t := t) hd)
        have hb := Lib.hid hd
        clear hk ht hd
        go_enter Try.func30, Try.ntmps30
        go_wp2_with (first
          | (go_at_call 42; (with_reducible refine (rcheck_any s (by unfold maxLen; omega) _).use ?_); rintro v w1 ⟨rfl, hu1⟩; rw [hc.out]; obtain ⟨a0, a1, a2, a3, a4⟩ := four (hu1.block (fun h => h) (alloc_last _ _ w.heap.size rfl)))
          | (go_at_call 47; (with_reducible refine (data_w k d hm _).use ?_); rintro v w2 ⟨rfl, hu2⟩; rw [hb.out])
          | (with_reducible refine wp_serial (by kernel_rfl) (by kernel_rfl) (by (repeat (first | (with_reducible apply NoBad.then) | (with_reducible apply NoBad.inBlock) | (with_reducible exact NoBad.rets))); done) ?_)
          | fail)
        all_goals go_returns
        all_goals first
          | exact ⟨by rw [hf.out]; rfl, (by (repeat (first | (with_reducible exact Upd.refl _ _) | (with_reducible assumption) | (with_reducible apply Upd.drew) | (with_reducible apply Upd.alloc) | (refine Upd0.tr ?_ (by with_reducible assumption)) | (refine Upd.setCell ?_ (fun h => absurd h (by first | exact Nat.lt_irrefl _ | (simp only []; omega))) _))); done)⟩
          | (exfalso; rename_i hx; simp only [beq_iff_eq] at hx; omega)
      | true =>
        have hf := Lib.hid ((recC_yes (s := s) hk ht hd).trans hc.out)
        have hb := Lib.hid hd
        clear hk ht hd
        go_enter Try.func30, Try.ntmps30
        go_wp2_with (first
          | (go_at_call 42; (with_reducible refine (rcheck_any s (by unfold maxLen; omega) _).use ?_); rintro v w1 ⟨rfl, hu1⟩; rw [hc.out]; obtain ⟨a0, a1, a2, a3, a4⟩ := four (hu1.block (fun h => h) (alloc_last _ _ w.heap.size rfl)))
          | (go_at_call 47; (with_reducible refine (data_w k d hm _).use ?_); rintro v w2 ⟨rfl, hu2⟩; rw [hb.out])
          | (with_reducible refine wp_serial (by kernel_rfl) (by kernel_rfl) (by (repeat (first | (with_reducible apply NoBad.then) | (with_reducible apply NoBad.inBlock) | (with_reducible exact NoBad.rets))); done) ?_)
          | fail)
        all_goals go_returns
        all_goals first
          | exact ⟨by rw [hf.out]; rfl, (by (repeat (first | (with_reducible exact Upd.refl _ _) | (with_reducible assumption) | (with_reducible apply Upd.drew) | (with_reducible apply Upd.alloc) | (refine Upd0.tr ?_ (by with_reducible assumption)) | (refine Upd.setCell ?_ (fun h => absurd h (by first | exact Nat.lt_irrefl _ | (simp only []; omega))) _))); done)⟩
          | (exfalso; rename_i hx; simp only [beq_iff_eq] at hx; omega)
end Go.Proofs.Ytebnilkcpklnmaa
