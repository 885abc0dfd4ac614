/-
  Encode: the program's, of any message.
-/
import Derived.Test.YtgdejgfmhndbhaaWrE
namespace Go.Proofs.Ytgdejgfmhndbhaa
open Go.RowKit Go.Maps
set_option linter.unusedSimpArgs false
set_option linter.unusedVariables false
variable {B : Nat}
set_option maxRecDepth 100000 in
set_option maxHeartbeats 4000000 in
theorem enc_no (m : Msg) (q a n x : Option Addr) (cq ca cn cx : Nat) (w : World) (h : MsR w m q a n x) (hm : Mid m) (hB : msgB m = false) :
    Calls Try.prog 18 #[m.val q a n x cq ca cn cx] w (Rets fun r w' => r = .tuple #[.string ⟨(encS m).toArray⟩, .int .i64 (encC m)] ∧ Upd0 w w') := by
  have hC := Lib.hid (show ∀ w', Upd0 w w' → Calls Try.prog 20 #[m.val q a n x cq ca cn cx] w' (Rets fun r w'' => r = .int .i64 1 ∧ Upd0 w' w'') from fun w' k => by
    have := check_w m q a n x cq ca cn cx w' (h.up k) hm
    rw [msgC, hB] at this
    exact this)
  have e1 : encC m = 1 := by rw [encC, hB]; rfl
  have e2 : encS m = [] := by rw [encS, e1]; rfl
  rw [e1, e2]
  clear h hm hB e1 e2
  obtain ⟨id, re, op, au, tr, wa, av, rc, qs, an, ns, ex, sz⟩ := m
  simp only [Msg.val] at hC ⊢
  go_enter Try.func18, Try.ntmps18
  go_wp2_with (first
    | (go_at_call 20; (with_reducible refine (hC.out _ (by repeat first | with_reducible (first | exact Upd.refl _ _ | assumption | apply Upd.drew | apply Upd.alloc) | refine Upd0.tr ?_ (by with_reducible assumption) | refine Upd.setCell ?_ (fun h => absurd h (by first | exact Nat.lt_irrefl _ | (simp only []; omega))) _)).use ?_); rintro v w1 ⟨rfl, hu1⟩)
    | (with_reducible refine wp_serial (by kernel_rfl) (by kernel_rfl) (by repeat with_reducible (first | apply NoBad.then | apply NoBad.inBlock | apply NoBad.jump | exact NoBad.rets)) ?_) | fail)
  all_goals go_returns
  all_goals exact ⟨rfl, (by repeat first | with_reducible (first | exact Upd.refl _ _ | assumption | apply Upd.drew | apply Upd.alloc) | refine Upd0.tr ?_ (by with_reducible assumption) | refine Upd.setCell ?_ (fun h => absurd h (by first | exact Nat.lt_irrefl _ | (simp only []; omega))) _)⟩
theorem encode_w (m : Msg) (q a n x : Option Addr) (cq ca cn cx : Nat) (w : World) (h : MsR w m q a n x) (hm : Mid m) :
    Calls Try.prog 18 #[m.val q a n x cq ca cn cx] w (Rets fun r w' => r = .tuple #[.string ⟨(encS m).toArray⟩, .int .i64 (encC m)] ∧ Upd0 w w') := by
  cases hB : msgB m with
  | false => exact enc_no m q a n x cq ca cn cx w h hm hB
  | true =>
    have hok := msg_ok hB
    obtain ⟨id, re, op, au, tr, wa, av, rc, qs, an, ns, ex, sz⟩ := m
    obtain ⟨i0, rfl⟩ := Int.eq_ofNat_of_zero_le hok.id.1
    obtain ⟨o0, rfl⟩ := Int.eq_ofNat_of_zero_le hok.op.1
    obtain ⟨c0, rfl⟩ := Int.eq_ofNat_of_zero_le hok.rc.1
    rcases hok.sz with hz | ⟨hz1, hz2⟩
    · simp only [] at hz
      subst hz
      exact enc_z i0 o0 c0 re au tr wa av qs an ns ex q a n x cq ca cn cx w h hm hB
    · simp only [] at hz1 hz2
      obtain ⟨z0, rfl⟩ := Int.eq_ofNat_of_zero_le (show 0 ≤ sz by omega)
      exact enc_s i0 o0 c0 re au tr wa av qs an ns ex z0 (by omega) (by omega) q a n x cq ca cn cx w h hm hB
end Go.Proofs.Ytgdejgfmhndbhaa
