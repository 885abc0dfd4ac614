/-
  fit.Fit of anything.
-/
import Derived.Test.YtgdejgfmhndbhaaFtX
namespace Go.Proofs.Ytgdejgfmhndbhaa
open Go.RowKit Go.Maps
set_option linter.unusedSimpArgs false
set_option linter.unusedVariables false
set_option maxRecDepth 100000 in
set_option maxHeartbeats 8000000 in
theorem fit_no (m : Msg) (limit : Int) (q a n x : Option Addr) (cq ca cn cx : Nat) (w : World) (h : MsR w m q a n x) (hm : Mid m) (hO : fitO m limit = false) :
    Calls Try.prog 29 #[m.val q a n x cq ca cn cx, .int .i64 limit] w (Rets fun r w' => r = .tuple #[msgZ.val none none none none 0 0 0 0, .string ⟨#[]⟩, .int .i64 1] ∧ Upd0 w w') := by
  have hC := Lib.hid (fun w' (k : Upd0 w w') => check_w m q a n x cq ca cn cx w' (h.up k) hm)
  have hcase : (∃ c : Int, msgC m = c ∧ (c != 0) = true) ∨ (msgC m = 0 ∧ limit < 1) ∨ (msgC m = 0 ∧ ¬ limit < 1 ∧ 65535 < limit) := by
    unfold fitO at hO
    cases hB : msgB m with
    | false => exact .inl ⟨1, by rw [msgC, hB]; rfl, rfl⟩
    | true =>
      rw [hB, Bool.true_and] at hO
      have h0 : msgC m = 0 := by rw [msgC, hB]; rfl
      have : ¬ (1 ≤ limit ∧ limit ≤ 65535) := fun hh => by rw [decide_eq_true hh.1, decide_eq_true hh.2] at hO; cases hO
      right
      by_cases h1 : limit < 1
      · exact .inl ⟨h0, h1⟩
      · exact .inr ⟨h0, h1, by omega⟩
  clear h hm hO
  obtain ⟨c, hc⟩ : ∃ c, msgC m = c := ⟨_, rfl⟩
  rw [hc] at hC
  simp only [hc] at hcase
  clear hc
  obtain ⟨id, re, op, au, tr, wa, av, rc, qs, an, ns, ex, sz⟩ := m
  simp only [Msg.val, msgZ] at hC ⊢
  rcases hcase with ⟨c2, rfl, h1⟩ | ⟨rfl, h1⟩ | ⟨rfl, h1, h2⟩
  all_goals
    go_enter Try.func29, Try.ntmps29
    go_wp2_with (first | (with_reducible refine wp_serial (by kernel_rfl) (by kernel_rfl) (by repeat with_reducible (first | apply NoBad.then | apply NoBad.inBlock | apply NoBad.jump | exact NoBad.rets)) ?_) | fail)
    go_step3
    go_wp2_with (first
      | (go_at_call 20; (with_reducible refine (hC.out _ (by repeat first | with_reducible (first | exact Upd.refl _ _ | assumption | apply Upd.drew | apply Upd.alloc) | refine Upd0.tr ?_ (by with_reducible assumption) | refine Upd.setCell ?_ (fun h => absurd h (by first | exact Nat.lt_irrefl _ | (simp only []; omega))) _)).use ?_); rintro v w1 ⟨rfl, hu1⟩; have bz1 := Lib.hid (show w1.heap[w.heap.size + 1]? = some (.cells #[.int .i64 0, .bool false, .int .i64 0, .bool false, .bool false, .bool false, .bool false, .int .i64 0, .slice none 0 0, .slice none 0 0, .slice none 0 0, .slice none 0 0, .int .i64 0] 25 (0, 0)) from hu1.block (fun h => h) (alloc_last _ _ _ (by simp))); obtain ⟨y0, y1, y2, y3, y4, y5, y6, y7, y8, y9, yA, yB, yC⟩ := cell13w bz1.out; have fz := fun i => blk_frz bz1.out i; have hl2 := blk_lt bz1.out)
      | (with_reducible refine wp_serial (by kernel_rfl) (by kernel_rfl) (by repeat with_reducible (first | apply NoBad.then | apply NoBad.inBlock | apply NoBad.jump | exact NoBad.rets)) ?_) | fail)
    rw [Exit.noGoto_ret]
    have hz2 := m13_set bz1.out (.int .i64 0) (.bool false) (.int .i64 0) (.bool false) (.bool false) (.bool false) (.bool false) (.int .i64 0) (.slice none 0 0) (.slice none 0 0) (.slice none 0 0) (.slice none 0 0) (.int .i64 0)
    have hk := (upd13 w1 (w.heap.size + 1) (.int .i64 0) (.bool false) (.int .i64 0) (.bool false) (.bool false) (.bool false) (.bool false) (.int .i64 0) (.slice none 0 0) (.slice none 0 0) (.slice none 0 0) (.slice none 0 0) (.int .i64 0))
    exact bodyPost_ret (v := .tuple #[.agg #[.int .i64 0, .bool false, .int .i64 0, .bool false, .bool false, .bool false, .bool false, .int .i64 0, .slice none 0 0, .slice none 0 0, .slice none 0 0, .slice none 0 0, .int .i64 0], .string ⟨#[]⟩, .int .i64 1]) (by exact res_msg Try.results29 rfl hz2) rfl ⟨rfl, Upd.trans (S := fun _ => False) (show Upd0 w w1 from (by repeat first | with_reducible (first | exact Upd.refl _ _ | assumption | apply Upd.drew | apply Upd.alloc) | refine Upd0.tr ?_ (by with_reducible assumption) | refine Upd.setCell ?_ (fun h => absurd h (by first | exact Nat.lt_irrefl _ | (simp only []; omega))) _)) hk (fun b hb e => by omega)⟩
theorem fitO_no {m : Msg} {limit : Int} (h : fitO m limit = false) : fitM m limit = msgZ ∧ fitS m limit = [] ∧ fitC m limit = 1 := by
  have e : fitR m limit = none := by rw [fitR, h]; rfl
  exact ⟨by rw [fitM, e]; rfl, by rw [fitS, e], by rw [fitC, h]; rfl⟩
theorem fit_w (m : Msg) (limit : Int) (q a n x : Option Addr) (cq ca cn cx : Nat) (w : World) (h : MsR w m q a n x) (hm : Mid m) :
    Calls Try.prog 29 #[m.val q a n x cq ca cn cx, .int .i64 limit] w (Rets fun r w' => ∃ q' a' n' x' cq' ca' cn' cx', r = .tuple #[(fitM m limit).val q' a' n' x' cq' ca' cn' cx', .string ⟨(fitS m limit).toArray⟩, .int .i64 (fitC m limit)] ∧ MsR w' (fitM m limit) q' a' n' x' ∧ Upd0 w w') := by
  cases hO : fitO m limit with
  | true => exact fit_yes m limit q a n x cq ca cn cx w h hm hO
  | false =>
    obtain ⟨e1, e2, e3⟩ := fitO_no hO
    rw [e1, e2, e3]
    refine (fit_no m limit q a n x cq ca cn cx w h hm hO).use ?_
    rintro v w' ⟨rfl, hu⟩
    exact ⟨none, none, none, none, 0, 0, 0, 0, rfl, ⟨.inl rfl, .inl rfl, .inl rfl, .inl rfl⟩, hu⟩
end Go.Proofs.Ytgdejgfmhndbhaa
