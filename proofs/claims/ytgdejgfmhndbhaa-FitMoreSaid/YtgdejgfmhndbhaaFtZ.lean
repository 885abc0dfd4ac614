/-
  The document's Limit; FitLimits: the walk.
-/
import Derived.Test.YtgdejgfmhndbhaaFtL
import Derived.Test.YtgdejgfmhndbhaaMgR
import Derived.WalkLawsBesides
namespace Go.Proofs.Ytgdejgfmhndbhaa
open Go.RowKit Go.Maps
set_option linter.unusedSimpArgs false
set_option linter.unusedVariables false
theorem lim_eq (sz : Int) : limZ sz false = min (max sz 512) 1232 := by
  unfold limZ
  simp only [Bool.false_eq_true, if_false]
  split <;> omega
set_option maxRecDepth 100000 in
set_option maxHeartbeats 4000000 in
theorem rlimit_w (m : Msg) (q a n x : Option Addr) (cq ca cn cx : Nat) (st : Bool) (w : World) :
    Calls Try.prog 27 #[m.val q a n x cq ca cn cx, .bool st] w (Rets fun r w' => r = .int .i64 (limZ m.sz st) ∧ Upd0 w w') := by
  obtain ⟨id, re, op, au, tr, wa, av, rc, qs, an, ns, ex, sz⟩ := m
  simp only [Msg.val]
  cases st with
  | true =>
    go_enter Try.func27, Try.ntmps27
    go_wp2_with (first | (with_reducible refine wp_serial (by kernel_rfl) (by kernel_rfl) (by (repeat (first | (with_reducible apply NoBad.then) | (with_reducible apply NoBad.inBlock) | (with_reducible apply NoBad.jump) | (with_reducible exact NoBad.rets))); done) ?_) | fail)
    all_goals go_returns
    all_goals exact ⟨rfl, (by (repeat (first | (with_reducible exact Upd.refl _ _) | (with_reducible assumption) | (with_reducible apply Upd.drew) | (with_reducible apply Upd.alloc) | (refine Upd0.tr ?_ (by with_reducible assumption)) | (refine Upd.setCell ?_ (fun h => absurd h (by first | exact Nat.lt_irrefl _ | (simp only []; omega))) _))); done)⟩
  | false =>
    rw [lim_eq]
    go_enter Try.func27, Try.ntmps27
    go_wp2_with (first | (with_reducible refine wp_serial (by kernel_rfl) (by kernel_rfl) (by (repeat (first | (with_reducible apply NoBad.then) | (with_reducible apply NoBad.inBlock) | (with_reducible apply NoBad.jump) | (with_reducible exact NoBad.rets))); done) ?_) | fail)
    all_goals go_returns
    all_goals exact ⟨by first | rfl | (show Value.int _ _ = Value.int _ _; congr 1; omega), (by (repeat (first | (with_reducible exact Upd.refl _ _) | (with_reducible assumption) | (with_reducible apply Upd.drew) | (with_reducible apply Upd.alloc) | (refine Upd0.tr ?_ (by with_reducible assumption)) | (refine Upd.setCell ?_ (fun h => absurd h (by first | exact Nat.lt_irrefl _ | (simp only []; omega))) _))); done)⟩
set_option maxRecDepth 100000 in
set_option maxHeartbeats 4000000 in
theorem fitLimits_walk (m : Msg) (q a n x : Option Addr) (cq ca cn cx : Nat) (st : Bool) (w : World) (h : MsR w m q a n x) (hb : m.big) :
    Calls Try.prog 10 #[m.val q a n x cq ca cn cx, .bool st] w (Rets fun r w' => r = .bool true ∧ Upd0 w w') := by
  have hA := Lib.hid (limit_w m q a n x cq ca cn cx st)
  have hB := Lib.hid (rlimit_w m q a n x cq ca cn cx st)
  obtain ⟨l, hl⟩ : ∃ l, limZ m.sz st = l := ⟨_, rfl⟩
  rw [hl] at hA hB
  clear hl h hb
  obtain ⟨id, re, op, au, tr, wa, av, rc, qs, an, ns, ex, sz⟩ := m
  simp only [Msg.val] at hA hB ⊢
  go_enter Try.func10, Try.ntmps10
  go_wp2_with (first
    | (go_at_call 26; (with_reducible refine (hA.out _).use ?_); rintro v w1 ⟨rfl, hu1⟩)
    | (go_at_call 27; (with_reducible refine (hB.out _).use ?_); rintro v w2 ⟨rfl, hu2⟩)
    | (go_at_call 28; (with_reducible refine (flive_w _).use ?_); rintro v w3 ⟨rfl, hu3⟩)
    | (refine And.intro hu1.ext ?_)
    | (with_reducible refine wp_serial3_1 0 [] [0, 1, 3, 4] 2 [5, 6, 7, 8, 9, 10] [_, _, _, _] _ [_, _, _, _, _, _] (by kernel_rfl) (by decide +kernel) rfl rfl rfl ⟨Nat.zero_le _, fun s hs => absurd hs List.not_mem_nil⟩ (by (repeat (first | (with_reducible apply NoBad.then) | (with_reducible apply NoBad.inBlock) | (with_reducible apply NoBad.jump) | (with_reducible exact NoBad.rets))); done) ?_)
    | (with_reducible refine wp_serial (by kernel_rfl) (by kernel_rfl) (by (repeat (first | (with_reducible apply NoBad.then) | (with_reducible apply NoBad.inBlock) | (with_reducible apply NoBad.jump) | (with_reducible exact NoBad.rets))); done) ?_) | fail)
  all_goals go_returns
  all_goals exact ⟨rfl, (by (repeat (first | (with_reducible exact Upd.refl _ _) | (with_reducible assumption) | (with_reducible apply Upd.drew) | (with_reducible apply Upd.alloc) | (refine Upd0.tr ?_ (by with_reducible assumption)) | (refine Upd.setCell ?_ (fun h => absurd h (by first | exact Nat.lt_irrefl _ | (simp only []; omega))) _))); done)⟩
end Go.Proofs.Ytgdejgfmhndbhaa
