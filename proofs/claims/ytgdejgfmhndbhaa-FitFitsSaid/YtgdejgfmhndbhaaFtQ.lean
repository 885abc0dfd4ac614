/-
  Messages that must not be too great: what fits, plainly.
-/
import Derived.Test.YtgdejgfmhndbhaaFtX
namespace Go.Proofs.Ytgdejgfmhndbhaa
set_option linter.unusedSimpArgs false
set_option linter.unusedVariables false
theorem tk_all (m : Msg) : m.tk m.ex.length = m := by simp [Msg.tk]
theorem encC_ok {m : Msg} (h : encC m = 0) : msgB m = true := by
  unfold encC at h
  cases hb : msgB m with
  | true => rfl
  | false => rw [hb] at h; cases h
theorem fit_whole {m : Msg} {limit : Int} (h : encC m = 0) (hl : ((encS m).length : Int) ≤ limit) (l1 : ¬ limit < 1) (l2 : ¬ 65535 < limit) : fitM m limit = m ∧ fitS m limit = encS m ∧ fitC m limit = 0 := by
  have hO : fitO m limit = true := by rw [fitO, encC_ok h, decide_eq_true (by omega : 1 ≤ limit), decide_eq_true (by omega : limit ≤ 65535)]; rfl
  have hf : fits m limit = true := by rw [fits, decide_eq_true h, decide_eq_true hl]; rfl
  have hN : fitN m limit m.ex.length = some m := by
    have := fitN_hit (m := m) (limit := limit) (k := m.ex.length) (by rw [tk_all]; exact hf)
    rwa [tk_all] at this
  have hR : fitR m limit = some m := by rw [fitR, if_pos hO, hN]
  exact ⟨by rw [fitM, hR]; rfl, by rw [fitS, hR], by rw [fitC, if_pos hO, hN]; rfl⟩
theorem fitN_fits {m : Msg} {limit : Int} : ∀ (k : Nat) (x : Msg), fitN m limit k = some x → fits x limit = true
  | 0, x, h => by
    rw [fitN] at h
    split at h
    · injection h with h; subst h; assumption
    · split at h
      · injection h with h; subst h; assumption
      · cases h
  | k + 1, x, h => by
    rw [fitN] at h
    split at h
    · injection h with h; subst h; assumption
    · exact fitN_fits k x h
theorem fits_le {x : Msg} {limit : Int} (h : fits x limit = true) : encC x = 0 ∧ ((encS x).length : Int) ≤ limit := by
  simp only [fits, Bool.and_eq_true, decide_eq_true_eq] at h; exact h
theorem fit_else {m : Msg} {limit : Int} (hl : ¬ ((encS m).length : Int) ≤ limit) : (fitC m limit != 0) = true ∨ ((fitC m limit != 0) = false ∧ (fitS m limit).length < (encS m).length) := by
  unfold fitC fitS fitR
  cases hO : fitO m limit with
  | false => exact .inl rfl
  | true =>
    simp only [if_true]
    cases hN : fitN m limit m.ex.length with
    | none => exact .inl rfl
    | some x =>
      have := (fits_le (fitN_fits _ _ hN)).2
      exact .inr ⟨rfl, by show (encS x).length < _; omega⟩
end Go.Proofs.Ytgdejgfmhndbhaa
