/-
  Whether a record may be.
-/
import Derived.Test.YtdjleplefbmjbaaRdN
namespace Go.Proofs.Ytdjleplefbmjbaa
open Go.RowKit
set_option linter.unusedSimpArgs false
set_option linter.unusedVariables false
/-- may a type be? -/
def kindB (k : Int) : Bool := decide (1 ≤ k ∧ k ≤ 65535 ∧ k ≠ 41 ∧ k ≠ 251 ∧ k ≠ 252 ∧ k ≠ 255)
def ttlB (t : Int) : Bool := decide (0 ≤ t ∧ t ≤ 2147483647)
def dataB (k : Int) (d : Bs) : Bool := decide (d.length ≤ 4000) && fitB k d
def recC (s : Bs) (k t : Int) (d : Bs) : Int := if kindB k = true ∧ ttlB t = true ∧ dataB k d = true then checkC s else 1
theorem dataB_big {k : Int} {d : Bs} (h : 4000 < d.length) : dataB k d = false := by rw [dataB, decide_eq_false (by omega)]; rfl
theorem dataB_small {k : Int} {d : Bs} (h : d.length ≤ 4000) : dataB k d = fitB k d := by rw [dataB, decide_eq_true h]; rfl
theorem recC_no1 {s : Bs} {k t : Int} {d : Bs} (h : kindB k = false) : recC s k t d = 1 := by rw [recC, if_neg (by rw [h]; simp)]
theorem recC_no2 {s : Bs} {k t : Int} {d : Bs} (h : ttlB t = false) : recC s k t d = 1 := by rw [recC, if_neg (by rw [h]; simp)]
theorem recC_no3 {s : Bs} {k t : Int} {d : Bs} (h : dataB k d = false) : recC s k t d = 1 := by rw [recC, if_neg (by rw [h]; simp)]
theorem recC_yes {s : Bs} {k t : Int} {d : Bs} (h1 : kindB k = true) (h2 : ttlB t = true) (h3 : dataB k d = true) : recC s k t d = checkC s := by rw [recC, if_pos ⟨h1, h2, h3⟩]
theorem four {w : World} {b : Nat} {a0 a1 a2 a3 : Value} {t : TypeId} (h : w.heap[b]? = some (.cells #[a0, a1, a2, a3] t (0, 0))) : w.cell? ⟨b, 0, none⟩ = some a0 ∧ w.cell? ⟨b, 1, none⟩ = some a1 ∧ w.cell? ⟨b, 2, none⟩ = some a2 ∧ w.cell? ⟨b, 3, none⟩ = some a3 ∧ ∀ i, w.frozen? ⟨b, i, none⟩ = false :=
  ⟨by rw [blk_cell h]; rfl, by rw [blk_cell h]; rfl, by rw [blk_cell h]; rfl, by rw [blk_cell h]; rfl, fun i => blk_frz h i⟩
theorem checkC_or (s : Bs) : checkC s = 0 ∨ checkC s = 1 := by unfold checkC; cases cutB s <;> simp
theorem kind_no {k : Int} (h : kindB k = false) : k = 41 ∨ k = 251 ∨ k = 252 ∨ k = 255 ∨ (k < 1 ∧ ¬ k = 41 ∧ ¬ k = 251 ∧ ¬ k = 252 ∧ ¬ k = 255) ∨ (65535 < k ∧ ¬ k < 1 ∧ ¬ k = 41 ∧ ¬ k = 251 ∧ ¬ k = 252 ∧ ¬ k = 255) := by
  have := of_decide_eq_false h; omega
theorem kind_yes {k : Int} (h : kindB k = true) : 1 ≤ k ∧ k ≤ 65535 ∧ ¬ k = 41 ∧ ¬ k = 251 ∧ ¬ k = 252 ∧ ¬ k = 255 := of_decide_eq_true h
theorem ttl_no {t : Int} (h : ttlB t = false) : t < 0 ∨ (0 ≤ t ∧ 2147483647 < t) := by have := of_decide_eq_false h; omega
theorem ttl_yes {t : Int} (h : ttlB t = true) : 0 ≤ t ∧ t ≤ 2147483647 := of_decide_eq_true h
set_option maxRecDepth 100000 in
set_option maxHeartbeats 2000000 in
theorem recCheck_w (s : Bs) (k t : Int) (d : Bs) (hs : s.length ≤ 70000) (hm : d.length ≤ 70000) (w : World) : Calls Try.prog 64 #[.agg #[.string ⟨s.toArray⟩, .int .i64 k, .int .i64 t, .string ⟨d.toArray⟩]] w (Rets fun r w' => r = .int .i64 (recC s k t d) ∧ Upd0 w w') := by
  cases hk : kindB k with
  | false =>
    have hf := Lib.hid (recC_no1 (s := s) (t := t) (d := d) hk)
    rcases kind_no hk with rfl | rfl | rfl | rfl | ⟨k1, k2, k3, k4, k5⟩ | ⟨k1, k6, k2, k3, k4, k5⟩
    all_goals
      clear hk
      go_enter Try.func64, Try.ntmps64
      go_wp2_with (first
        | (with_reducible refine wp_serial (by kernel_rfl) (by kernel_rfl) (by (repeat (first | (with_reducible apply NoBad.then) | (with_reducible apply NoBad.inBlock) | (with_reducible exact NoBad.rets))); done) ?_)
        | fail)
      all_goals go_returns
      all_goals exact ⟨by rw [hf.out]; rfl, (by (repeat (first | (with_reducible exact Upd.refl _ _) | (with_reducible assumption) | (with_reducible apply Upd.drew) | (with_reducible apply Upd.alloc) | (refine Upd0.tr ?_ (by with_reducible assumption)) | (refine Upd.setCell ?_ (fun h => absurd h (by first | exact Nat.lt_irrefl _ | (simp only []; omega))) _))); done)⟩
  | true =>
    cases ht : ttlB t with
    | false =>
      have hf := Lib.hid (recC_no2 (s := s) (k := k) (d := d) ht)
      obtain ⟨k1, k2, k3, k4, k5, k6⟩ := kind_yes hk
      rcases ttl_no ht with t1 | ⟨t1, t2⟩
      all_goals
        clear hk ht
        go_enter Try.func64, Try.ntmps64
        go_wp2_with (first
          | (with_reducible refine wp_serial (by kernel_rfl) (by kernel_rfl) (by (repeat (first | (with_reducible apply NoBad.then) | (with_reducible apply NoBad.inBlock) | (with_reducible exact NoBad.rets))); done) ?_)
          | fail)
        all_goals go_returns
        all_goals exact ⟨by rw [hf.out]; rfl, (by (repeat (first | (with_reducible exact Upd.refl _ _) | (with_reducible assumption) | (with_reducible apply Upd.drew) | (with_reducible apply Upd.alloc) | (refine Upd0.tr ?_ (by with_reducible assumption)) | (refine Upd.setCell ?_ (fun h => absurd h (by first | exact Nat.lt_irrefl _ | (simp only []; omega))) _))); done)⟩
    | true =>
      by_cases hl : 4000 < d.length
      · have hf := Lib.hid (recC_no3 (s := s) (k := k) (t := t) (dataB_big (k := k) hl))
        obtain ⟨k1, k2, k3, k4, k5, k6⟩ := kind_yes hk
        obtain ⟨t1, t2⟩ := ttl_yes ht
        clear hk ht
        go_enter Try.func64, Try.ntmps64
        go_wp2_with (first
          | (with_reducible refine wp_serial (by kernel_rfl) (by kernel_rfl) (by (repeat (first | (with_reducible apply NoBad.then) | (with_reducible apply NoBad.inBlock) | (with_reducible exact NoBad.rets))); done) ?_)
          | fail)
        all_goals go_returns
        all_goals exact ⟨by rw [hf.out]; rfl, (by (repeat (first | (with_reducible exact Upd.refl _ _) | (with_reducible assumption) | (with_reducible apply Upd.drew) | (with_reducible apply Upd.alloc) | (refine Upd0.tr ?_ (by with_reducible assumption)) | (refine Upd.setCell ?_ (fun h => absurd h (by first | exact Nat.lt_irrefl _ | (simp only []; omega))) _))); done)⟩
      · have hd : dataB k d = fitB k d := dataB_small (by omega)
        obtain ⟨k1, k2, k3, k4, k5, k6⟩ := kind_yes hk
        obtain ⟨t1, t2⟩ := ttl_yes ht
        cases hfit : fitB k d with
        | false =>
          have hf := Lib.hid (recC_no3 (s := s) (k := k) (t := t) (hd.trans hfit))
          have hb := Lib.hid hfit
          clear hk ht hd hfit
          go_enter Try.func64, Try.ntmps64
          go_wp2_with (first
            | (go_at_call 75; (with_reducible refine (fits_w k d hm _).use ?_); rintro v w1 ⟨rfl, hu1⟩; rw [hb.out])
            | (with_reducible refine wp_serial (by kernel_rfl) (by kernel_rfl) (by (repeat (first | (with_reducible apply NoBad.then) | (with_reducible apply NoBad.inBlock) | (with_reducible exact NoBad.rets))); done) ?_)
            | fail)
          all_goals go_returns
          all_goals exact ⟨by rw [hf.out]; rfl, (by (repeat (first | (with_reducible exact Upd.refl _ _) | (with_reducible assumption) | (with_reducible apply Upd.drew) | (with_reducible apply Upd.alloc) | (refine Upd0.tr ?_ (by with_reducible assumption)) | (refine Upd.setCell ?_ (fun h => absurd h (by first | exact Nat.lt_irrefl _ | (simp only []; omega))) _))); done)⟩
        | true =>
          have hf := Lib.hid (recC_yes (s := s) hk ht (hd.trans hfit))
          have hb := Lib.hid hfit
          clear hk ht hd hfit
          go_enter Try.func64, Try.ntmps64
          go_wp2_with (first
            | (go_at_call 75; (with_reducible refine (fits_w k d hm _).use ?_); rintro v w1 ⟨rfl, hu1⟩; rw [hb.out]; obtain ⟨a0, a1, a2, a3, a4⟩ := four (hu1.block (fun h => h) (alloc_last _ _ w.heap.size rfl)))
            | (go_at_call 23; (with_reducible refine (check_any s (by unfold maxLen; omega) _).use ?_); rintro v w2 ⟨rfl, hu2⟩)
            | (with_reducible refine wp_serial (by kernel_rfl) (by kernel_rfl) (by (repeat (first | (with_reducible apply NoBad.then) | (with_reducible apply NoBad.inBlock) | (with_reducible exact NoBad.rets))); done) ?_)
            | fail)
          all_goals go_returns
          all_goals exact ⟨by rw [hf.out]; rfl, (by (repeat (first | (with_reducible exact Upd.refl _ _) | (with_reducible assumption) | (with_reducible apply Upd.drew) | (with_reducible apply Upd.alloc) | (refine Upd0.tr ?_ (by with_reducible assumption)) | (refine Upd.setCell ?_ (fun h => absurd h (by first | exact Nat.lt_irrefl _ | (simp only []; omega))) _))); done)⟩
end Go.Proofs.Ytdjleplefbmjbaa
