/-
  The document's Encode, of any message.
-/
import Derived.Test.YtgdejgfmhndbhaaRfE
namespace Go.Proofs.Ytgdejgfmhndbhaa
open Go.RowKit
set_option linter.unusedSimpArgs false
set_option linter.unusedVariables false
set_option maxRecDepth 100000 in
set_option maxHeartbeats 8000000 in
theorem rencode_w (m : Msg) (q a n x : Option Addr) (cq ca cn cx : Nat) (w : World) (h : MsR w m q a n x) (hm : Mid m) :
    Calls Try.prog 19 #[m.val q a n x cq ca cn cx] w (Rets fun r w' => r = .tuple #[.string ⟨(encS m).toArray⟩, .int .i64 (encC m)] ∧ Upd0 w w') := by
  cases hB : msgB m with
  | false =>
    have hC := Lib.hid (fun (w' : World) (k : Upd0 w w') => rcheckm_w m q a n x cq ca cn cx w' (h.up k) hm)
    have hc1 : msgC m = 1 := by rw [msgC, hB]; rfl
    have e1 : encC m = 1 := by rw [encC, hB]; rfl
    have e2 : encS m = [] := by rw [encS, e1]; rfl
    rw [hc1] at hC
    rw [e1, e2]
    clear h hm hB hc1 e1 e2
    obtain ⟨id, re, op, au, tr, wa, av, rc, qs, an, ns, ex, sz⟩ := m
    simp only [Msg.val] at hC ⊢
    go_enter Try.func19, Try.ntmps19
    go_wp2_with (first
      | (go_at_call 21; (with_reducible refine (hC.out _ (by repeat first | with_reducible (first | exact Upd.refl _ _ | assumption | apply Upd.drew | apply Upd.alloc) | refine Upd0.tr ?_ (by with_reducible assumption) | refine Upd.setCell ?_ (fun h => absurd h (by first | exact Nat.lt_irrefl _ | (simp only []; omega))) _)).use ?_); rintro v w1 ⟨rfl, hu1⟩)
      | (with_reducible refine wp_serial (by kernel_rfl) (by kernel_rfl) (by repeat with_reducible (first | apply NoBad.then | apply NoBad.inBlock | apply NoBad.jump | exact NoBad.rets)) ?_) | fail)
    all_goals (try go_returns)
    all_goals exact ⟨rfl, (by repeat first | with_reducible (first | exact Upd.refl _ _ | assumption | apply Upd.drew | apply Upd.alloc) | refine Upd0.tr ?_ (by with_reducible assumption) | refine Upd.setCell ?_ (fun h => absurd h (by first | exact Nat.lt_irrefl _ | (simp only []; omega))) _)⟩
  | true =>
    have hok := msg_ok hB
    obtain ⟨id, re, op, au, tr, wa, av, rc, qs, an, ns, ex, sz⟩ := m
    obtain ⟨i0, rfl⟩ := Int.eq_ofNat_of_zero_le hok.id.1
    obtain ⟨o0, rfl⟩ := Int.eq_ofNat_of_zero_le hok.op.1
    obtain ⟨c0, rfl⟩ := Int.eq_ofNat_of_zero_le hok.rc.1
    have hz := hok.sz
    simp only [] at hz
    by_cases h0 : sz = 0
    · subst h0
      exact renc_z i0 o0 c0 re au tr wa av qs an ns ex q a n x cq ca cn cx w h hm hB
    · obtain ⟨z0, rfl⟩ := Int.eq_ofNat_of_zero_le (show 0 ≤ sz by omega)
      exact renc_s i0 o0 c0 z0 re au tr wa av qs an ns ex q a n x cq ca cn cx w h hm hB (by omega)
end Go.Proofs.Ytgdejgfmhndbhaa
