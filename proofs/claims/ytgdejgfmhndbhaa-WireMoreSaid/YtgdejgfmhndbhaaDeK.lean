/-
  What Decode answers to what Encode wrote.
-/
import Derived.Test.YtgdejgfmhndbhaaDeG
import Derived.Test.YtgdejgfmhndbhaaWrF
namespace Go.Proofs.Ytgdejgfmhndbhaa
open Go.RowKit
set_option linter.unusedSimpArgs false
set_option linter.unusedVariables false
theorem dec_enc {m : Msg} (hB : msgB m = true) (hC : encC m = 0) : encS m = (encW m).b ∧ (encW m).b.length ≤ 65535 ∧ decM (encS m) = m ∧ (dcE (encS m)).e = 0 ∧ (dcX (encS m)).2 = ⟨(encS m).length, 0⟩ := by
  have h1 : encS m = (encW m).b := by rw [encS, if_pos hC]
  have h2 : (encW m).b.length ≤ 65535 := by
    rw [encC, hB] at hC
    by_cases h : (encW m).b.length ≤ 65535
    · exact h
    · rw [if_pos rfl, if_neg h] at hC; cases hC
  obtain ⟨h3, h4⟩ := msg_back hB h2
  rw [h1]
  have h5 : dcE (encW m).b = ⟨(encW m).b.length, 0⟩ := by rw [dcE, h4]; exact want_pos _ (decide_eq_true rfl) _
  refine ⟨rfl, h2, ?_, by rw [h5], h4⟩
  rw [decM, if_pos (by rw [h5]), h3]
theorem enc_ok {m : Msg} (hC : encC m = 0) : msgB m = true := by
  unfold encC at hC
  split at hC
  · assumption
  · cases hC
theorem encS_len {m : Msg} : (encS m).length ≤ 65535 := by
  by_cases hC : encC m = 0
  · have := dec_enc (enc_ok hC) hC; rw [this.1]; exact this.2.1
  · rw [encS, if_neg hC]; simp
theorem mid_ok {m : Msg} (h : msgB m = true) : Mid m := by
  obtain ⟨_, _, _, _, ⟨q1, q2⟩, ⟨a1, a2⟩, ⟨u1, u2⟩, ⟨x1, x2⟩⟩ := head_ok h
  have hq : ∀ q ∈ m.qs, q.nm.length ≤ 5000 := fun q hq => by have := (cutB_lab (qu_ok (List.all_eq_true.1 q2 q hq)).1).1; omega
  have hr : ∀ l : List Rc, l.all Rc.ok = true → ∀ r ∈ l, r.nm.length ≤ 5000 ∧ r.d.length ≤ 5000 := fun l hl r hr => by
    obtain ⟨_, _, h1, _, h2⟩ := rc_ok (List.all_eq_true.1 hl r hr)
    have := (cutB_lab h2).1
    omega
  exact ⟨⟨by omega, hq⟩, ⟨by omega, hr _ a2⟩, ⟨by omega, hr _ u2⟩, ⟨by omega, hr _ x2⟩⟩
theorem decode_enc (m : Msg) (hC : encC m = 0) (w : World) : Calls Try.prog 23 #[.string ⟨(encS m).toArray⟩] w (Rets fun r w' => ∃ q a n x cq ca cn cx, r = .tuple #[m.val q a n x cq ca cn cx, .int .i64 0] ∧ MsR w' m q a n x ∧ Upd0 w w') := by
  obtain ⟨h1, h2, h3, h4, h5⟩ := dec_enc (enc_ok hC) hC
  have := decode_w (encS m) w (by rw [h1]; omega)
  unfold DecQ at this
  rw [h3, h4] at this
  exact this
end Go.Proofs.Ytgdejgfmhndbhaa
