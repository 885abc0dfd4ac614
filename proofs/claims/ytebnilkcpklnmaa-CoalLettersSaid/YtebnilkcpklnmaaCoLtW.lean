/-
  The walk of CoalLetters: questions that differ in letters alone wait for one task.
-/
import Derived.Test.YtebnilkcpklnmaaCoL
import Derived.Test.YtebnilkcpklnmaaOrd
namespace Go.Proofs.Ytebnilkcpklnmaa
open Go.RowKit Go.Maps
set_option linter.unusedSimpArgs false
set_option linter.unusedVariables false
def l0 : Tb := ⟨5, 5, 0, []⟩
def lc : Cl := ⟨0, 0, []⟩
theorem lask_bad (n : Bs) (ty : Int) (h : cutB n = false) : ask l0 n ty lc = ((0, false, 1), l0) := by
  rw [ask, show okQ n lc = false by rw [okQ, h]; rfl]; rfl
theorem lask_ok (n : Bs) (ty : Int) (h : cutB n = true) : ask l0 n ty lc = ((1, true, 0), ⟨5, 5, 1, [⟨1, fold n, ty, [lc]⟩]⟩) := by
  rw [ask, show okQ n lc = true by rw [okQ, h]; rfl]; rfl
theorem lask_same (n : Bs) (one : Int) (h : cutB n = true) : ask ⟨5, 5, 1, [⟨1, fold n, one, [lc]⟩]⟩ (fold n) one lc = ((1, false, 0), ⟨5, 5, 1, [⟨1, fold n, one, [lc, lc]⟩]⟩) := by
  rw [ask, show okQ (fold n) lc = true by rw [okQ, (cut_fold n).1, h]; rfl]
  have : lookK (fold (fold n)) one [⟨1, fold n, one, [lc]⟩] = some (0, ⟨1, fold n, one, [lc]⟩) := by
    rw [fold_fold]; simp [lookK, hitK]
  simp only [if_true, this]
  rfl
theorem lask_diff (n : Bs) (one two : Int) (h : cutB n = true) (hd : ¬ one = two) : ask ⟨5, 5, 1, [⟨1, fold n, one, [lc]⟩]⟩ (fold n) two lc = ((2, true, 0), ⟨5, 5, 2, [⟨1, fold n, one, [lc]⟩, ⟨2, fold n, two, [lc]⟩]⟩) := by
  rw [ask, show okQ (fold n) lc = true by rw [okQ, (cut_fold n).1, h]; rfl]
  have : lookK (fold n) two [⟨1, fold n, one, [lc]⟩] = none := by
    simp [lookK, hitK, hd]
  rw [fold_fold]
  simp only [if_true, this]
  rfl
set_option maxRecDepth 100000 in
set_option maxHeartbeats 2000000 in
theorem coalLetters_walk (n : Bs) (one two : Int) (w : World) : Calls Try.prog 6 #[.string ⟨n.toArray⟩, .int .i64 one, .int .i64 two] w (Rets fun r w' => r = .bool true ∧ Upd0 w w') := by
  rcases Nat.lt_or_ge 300 n.length with hl | hl
  · go_enter Try.func6, Try.ntmps6
    go_wp2_with (first
      | (go_at_call 15; (with_reducible refine (colive_w _).use ?_); rintro v w2 ⟨rfl, hu2⟩)
      | (with_reducible refine wp_serial (by kernel_rfl) (by kernel_rfl) (by (repeat (first | (with_reducible apply NoBad.then) | (with_reducible apply NoBad.inBlock) | (with_reducible exact NoBad.rets))); done) ?_) | fail)
    all_goals go_returns
    all_goals exact ⟨rfl, (by (repeat (first | (with_reducible exact Upd.refl _ _) | (with_reducible assumption) | (with_reducible apply Upd.drew) | (with_reducible apply Upd.alloc) | (refine Upd0.tr ?_ (by with_reducible assumption)) | (refine Upd.setCell ?_ (fun h => absurd h (by first | exact Nat.lt_irrefl _ | (simp only []; omega))) _))); done)⟩
  have hn7 : n.length ≤ 70000 := by omega
  have tk1 : True := trivial
  cases hb : cutB n with
  | false =>
    have hF := Lib.hid (fold_no hb)
    have A1 : ∀ (t : Nat) (w1 : World), Co w.heap.size w1 t l0 → ∀ ty : Int, Calls Try.prog 17 #[.pointer (some ⟨t, 0, none⟩), .agg #[.string ⟨n.toArray⟩, .int .i64 ty], .agg #[.int .i64 0, .int .i64 0, .string ⟨#[]⟩]] w1 (Rets fun r w' => r = .tuple #[.int .i64 0, .bool false, .int .i64 1] ∧ UpdP w.heap.size w1 w' ∧ Co w.heap.size w' t l0) := fun t w1 h ty => by
      have := ask_w t l0 n ty lc hn7 (by decide) w1 h (by decide)
      rw [lask_bad n ty hb] at this
      exact this
    have A1h := Lib.hid A1
    clear A1 hb
    go_enter Try.func6, Try.ntmps6
    go_wp2_with (first
      | (go_at_call 14; (with_reducible refine (new_w (B := w.heap.size) 5 5 rfl rfl _ (Nat.le_refl _)).use ?_); rintro v w1 ⟨t, rfl, htl, hu1, hc1⟩; have k1 := Lib.hid hc1; clear hc1)
      | (go_at_call 17; have _t := tk1; (with_reducible refine (A1h.out t _ k1.out one).use ?_); rintro v w2 ⟨rfl, hu2, hc2⟩; have k2 := Lib.hid hc2; clear hc2 tk1 _t)
      | (go_at_call 26; (with_reducible refine (rfold_w n hn7 _).use ?_); rintro v w3 ⟨rfl, hu3⟩; rw [hF.out]; have k3 := Lib.hid (k2.out.to0 hu3))
      | (go_at_call 17; (with_reducible refine (A1h.out t _ k3.out two).use ?_); rintro v w4 ⟨rfl, hu4, hc4⟩; have k4 := Lib.hid hc4; clear hc4)
      | (go_at_call 23; (with_reducible refine (len_w t l0 _ k4.out).use ?_); rintro v w5 ⟨rfl, hu5⟩)
      | (go_at_call 15; (with_reducible refine (colive_w _).use ?_); rintro v w6 ⟨rfl, hu6⟩)
      | (with_reducible refine wp_serial (by kernel_rfl) (by kernel_rfl) (by (repeat (first | (with_reducible apply NoBad.then) | (with_reducible apply NoBad.inBlock) | (with_reducible exact NoBad.rets))); done) ?_) | fail)
    all_goals go_returns
    all_goals exact ⟨rfl, (by (repeat (first | (with_reducible exact Upd.refl _ _) | (with_reducible assumption) | (with_reducible apply Upd.drew) | (with_reducible apply Upd.alloc) | (refine Upd0.tr ?_ (by with_reducible assumption)) | (refine UpdP.fin ?_ (by with_reducible assumption)) | (refine UpdR.fin ?_ (by with_reducible assumption)) | (refine Upd.setCell ?_ (fun h => absurd h (by first | exact Nat.lt_irrefl _ | (simp only []; omega))) _))); done)⟩
  | true =>
    obtain ⟨F, hF⟩ : ∃ F, fold n = F := ⟨_, rfl⟩
    have hF7 : F.length ≤ 70000 := by rw [← hF, fold_len]; omega
    have hFh := Lib.hid hF
    have A1 : ∀ (t : Nat) (w1 : World), Co w.heap.size w1 t l0 → Calls Try.prog 17 #[.pointer (some ⟨t, 0, none⟩), .agg #[.string ⟨n.toArray⟩, .int .i64 one], .agg #[.int .i64 0, .int .i64 0, .string ⟨#[]⟩]] w1 (Rets fun r w' => r = .tuple #[.int .i64 1, .bool true, .int .i64 0] ∧ UpdP w.heap.size w1 w' ∧ Co w.heap.size w' t ⟨5, 5, 1, [⟨1, F, one, [lc]⟩]⟩) := fun t w1 h => by
      have := ask_w t l0 n one lc hn7 (by decide) w1 h (by decide)
      rw [lask_ok n one hb, hF] at this
      exact this
    have A1h := Lib.hid A1
    by_cases hd : one = two
    · subst hd
      have A2 : ∀ (t : Nat) (w1 : World), Co w.heap.size w1 t ⟨5, 5, 1, [⟨1, F, one, [lc]⟩]⟩ → Calls Try.prog 17 #[.pointer (some ⟨t, 0, none⟩), .agg #[.string ⟨F.toArray⟩, .int .i64 one], .agg #[.int .i64 0, .int .i64 0, .string ⟨#[]⟩]] w1 (Rets fun r w' => r = .tuple #[.int .i64 1, .bool false, .int .i64 0] ∧ UpdP w.heap.size w1 w' ∧ Co w.heap.size w' t ⟨5, 5, 1, [⟨1, F, one, [lc, lc]⟩]⟩) := fun t w1 h => by
        have := ask_w t ⟨5, 5, 1, [⟨1, F, one, [lc]⟩]⟩ F one lc hF7 (by decide) w1 h (by simp)
        rw [← hF, lask_same n one hb] at this
        rw [← hF]
        exact this
      have A2h := Lib.hid A2
      clear A1 A2 hb hF
      go_enter Try.func6, Try.ntmps6
      go_wp2_with (first
        | (go_at_call 14; (with_reducible refine (new_w (B := w.heap.size) 5 5 rfl rfl _ (Nat.le_refl _)).use ?_); rintro v w1 ⟨t, rfl, htl, hu1, hc1⟩; have k1 := Lib.hid hc1; clear hc1)
        | (go_at_call 17; have _t := tk1; (with_reducible refine (A1h.out t _ k1.out).use ?_); rintro v w2 ⟨rfl, hu2, hc2⟩; have k2 := Lib.hid hc2; clear hc2 tk1 _t)
        | (go_at_call 26; (with_reducible refine (rfold_w n hn7 _).use ?_); rintro v w3 ⟨rfl, hu3⟩; rw [hFh.out]; have k3 := Lib.hid (k2.out.to0 hu3))
        | (go_at_call 17; (with_reducible refine (A2h.out t _ k3.out).use ?_); rintro v w4 ⟨rfl, hu4, hc4⟩; clear hc4)
        | (go_at_call 15; (with_reducible refine (colive_w _).use ?_); rintro v w6 ⟨rfl, hu6⟩)
        | (with_reducible refine wp_serial (by kernel_rfl) (by kernel_rfl) (by (repeat (first | (with_reducible apply NoBad.then) | (with_reducible apply NoBad.inBlock) | (with_reducible exact NoBad.rets))); done) ?_) | fail)
      all_goals go_returns
      all_goals exact ⟨rfl, (by (repeat (first | (with_reducible exact Upd.refl _ _) | (with_reducible assumption) | (with_reducible apply Upd.drew) | (with_reducible apply Upd.alloc) | (refine Upd0.tr ?_ (by with_reducible assumption)) | (refine UpdP.fin ?_ (by with_reducible assumption)) | (refine UpdR.fin ?_ (by with_reducible assumption)) | (refine Upd.setCell ?_ (fun h => absurd h (by first | exact Nat.lt_irrefl _ | (simp only []; omega))) _))); done)⟩
    · have A2 : ∀ (t : Nat) (w1 : World), Co w.heap.size w1 t ⟨5, 5, 1, [⟨1, F, one, [lc]⟩]⟩ → Calls Try.prog 17 #[.pointer (some ⟨t, 0, none⟩), .agg #[.string ⟨F.toArray⟩, .int .i64 two], .agg #[.int .i64 0, .int .i64 0, .string ⟨#[]⟩]] w1 (Rets fun r w' => r = .tuple #[.int .i64 2, .bool true, .int .i64 0] ∧ UpdP w.heap.size w1 w' ∧ Co w.heap.size w' t ⟨5, 5, 2, [⟨1, F, one, [lc]⟩, ⟨2, F, two, [lc]⟩]⟩) := fun t w1 h => by
        have := ask_w t ⟨5, 5, 1, [⟨1, F, one, [lc]⟩]⟩ F two lc hF7 (by decide) w1 h (by simp)
        rw [← hF, lask_diff n one two hb hd] at this
        rw [← hF]
        exact this
      have A2h := Lib.hid A2
      have hdb : (one == two) = false := beq_eq_false_iff_ne.2 hd
      have hdn : (one != two) = true := by simp [bne, hdb]
      clear A1 A2 hb hF
      go_enter Try.func6, Try.ntmps6
      go_wp2_with (first
        | (go_at_call 14; (with_reducible refine (new_w (B := w.heap.size) 5 5 rfl rfl _ (Nat.le_refl _)).use ?_); rintro v w1 ⟨t, rfl, htl, hu1, hc1⟩; have k1 := Lib.hid hc1; clear hc1)
        | (go_at_call 17; have _t := tk1; (with_reducible refine (A1h.out t _ k1.out).use ?_); rintro v w2 ⟨rfl, hu2, hc2⟩; have k2 := Lib.hid hc2; clear hc2 tk1 _t)
        | (go_at_call 26; (with_reducible refine (rfold_w n hn7 _).use ?_); rintro v w3 ⟨rfl, hu3⟩; rw [hFh.out]; have k3 := Lib.hid (k2.out.to0 hu3))
        | (go_at_call 17; (with_reducible refine (A2h.out t _ k3.out).use ?_); rintro v w4 ⟨rfl, hu4, hc4⟩; clear hc4)
        | (go_at_call 15; (with_reducible refine (colive_w _).use ?_); rintro v w6 ⟨rfl, hu6⟩)
        | (with_reducible refine wp_serial (by kernel_rfl) (by kernel_rfl) (by (repeat (first | (with_reducible apply NoBad.then) | (with_reducible apply NoBad.inBlock) | (with_reducible exact NoBad.rets))); done) ?_) | fail)
      all_goals go_returns
      all_goals exact ⟨by simp [hdb, hdn], (by (repeat (first | (with_reducible exact Upd.refl _ _) | (with_reducible assumption) | (with_reducible apply Upd.drew) | (with_reducible apply Upd.alloc) | (refine Upd0.tr ?_ (by with_reducible assumption)) | (refine UpdP.fin ?_ (by with_reducible assumption)) | (refine UpdR.fin ?_ (by with_reducible assumption)) | (refine Upd.setCell ?_ (fun h => absurd h (by first | exact Nat.lt_irrefl _ | (simp only []; omega))) _))); done)⟩
end Go.Proofs.Ytebnilkcpklnmaa
