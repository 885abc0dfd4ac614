/-
  fit.Fit, fit.Limit: the walk.
-/
import Derived.Test.YtgdejgfmhndbhaaFtP
import Derived.Test.YtgdejgfmhndbhaaKh
namespace Go.Proofs.Ytgdejgfmhndbhaa
open Go.RowKit Go.Maps
set_option linter.unusedSimpArgs false
set_option linter.unusedVariables false
def limZ (sz : Int) (stream : Bool) : Int := if stream then 65535 else if sz < 512 then 512 else min sz 1232
set_option maxRecDepth 100000 in
theorem limit_w (m : Msg) (q a n x : Option Addr) (cq ca cn cx : Nat) (st : Bool) (w : World) :
    Calls Try.prog 26 #[m.val q a n x cq ca cn cx, .bool st] w (Rets fun r w' => r = .int .i64 (limZ m.sz st) ∧ Upd0 w w') := by
  obtain ⟨id, re, op, au, tr, wa, av, rc, qs, an, ns, ex, sz⟩ := m
  simp only [Msg.val]
  cases st with
  | true =>
    go_enter Try.func26, Try.ntmps26
    go_wp2_with (first | (with_reducible refine wp_serial (by kernel_rfl) (by kernel_rfl) (by repeat with_reducible (first | apply NoBad.then | apply NoBad.inBlock | apply NoBad.jump | exact NoBad.rets)) ?_) | fail)
    all_goals go_returns
    all_goals exact ⟨rfl, (by repeat first | with_reducible (first | exact Upd.refl _ _ | assumption | apply Upd.drew | apply Upd.alloc) | refine Upd0.tr ?_ (by with_reducible assumption) | refine Upd.setCell ?_ (fun h => absurd h (by first | exact Nat.lt_irrefl _ | (simp only []; omega))) _)⟩
  | false =>
    by_cases h : sz < 512
    · have e : limZ sz false = 512 := by simp [limZ, h]
      rw [e]
      go_enter Try.func26, Try.ntmps26
      go_wp2_with (first | (with_reducible refine wp_serial (by kernel_rfl) (by kernel_rfl) (by repeat with_reducible (first | apply NoBad.then | apply NoBad.inBlock | apply NoBad.jump | exact NoBad.rets)) ?_) | fail)
      all_goals go_returns
      all_goals exact ⟨rfl, (by repeat first | with_reducible (first | exact Upd.refl _ _ | assumption | apply Upd.drew | apply Upd.alloc) | refine Upd0.tr ?_ (by with_reducible assumption) | refine Upd.setCell ?_ (fun h => absurd h (by first | exact Nat.lt_irrefl _ | (simp only []; omega))) _)⟩
    · have e : limZ sz false = min sz 1232 := by simp [limZ, h]
      rw [e]
      go_enter Try.func26, Try.ntmps26
      go_wp2_with (first | (with_reducible refine wp_serial (by kernel_rfl) (by kernel_rfl) (by repeat with_reducible (first | apply NoBad.then | apply NoBad.inBlock | apply NoBad.jump | exact NoBad.rets)) ?_) | fail)
      all_goals go_returns
      all_goals exact ⟨by first | rfl | (show Value.int _ _ = Value.int _ _; congr 1; omega), (by repeat first | with_reducible (first | exact Upd.refl _ _ | assumption | apply Upd.drew | apply Upd.alloc) | refine Upd0.tr ?_ (by with_reducible assumption) | refine Upd.setCell ?_ (fun h => absurd h (by first | exact Nat.lt_irrefl _ | (simp only []; omega))) _)⟩
end Go.Proofs.Ytgdejgfmhndbhaa
