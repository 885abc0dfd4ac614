/-
  What is written is read, plainly; what is read is written to the same bytes.
-/
import Derived.Test.YtgdejgfmhndbhaaRdH
namespace Go.Proofs.Ytgdejgfmhndbhaa
set_option linter.unusedSimpArgs false
set_option linter.unusedVariables false
theorem cutB_lab {m : Bs} (h : cutB m = true) : m.length ≤ 254 ∧ (lab m).isSome = true := by
  unfold cutB cutO at h
  split at h
  · cases h
  · exact ⟨by omega, h⟩
theorem hostOk_yes {s : Bs} (h : hostOk s = true) : s = s.dropLast ++ [0] ∧ cutB s.dropLast = true := by
  simp only [hostOk, Bool.and_eq_true, end0, beq_iff_eq] at h
  refine ⟨?_, h.2⟩
  rcases snoc_or s with rfl | ⟨t, c, rfl⟩
  · cases h.1
  · have hc : c = 0 := by simpa using h.1
    subst hc; simp
theorem fir_back {d : Bs} (h : firB d = true) : d = firN d ++ 0 :: firR d ∧ cutB (firN d) = true := by
  unfold firB at h
  cases hf : fz d with
  | none => rw [hf] at h; cases h
  | some i =>
    rw [hf] at h
    have h' : hostOk (d.take (i + 1)) = true := h
    obtain ⟨h1, h2⟩ := hostOk_yes h'
    have hN : firN d = (d.take (i + 1)).dropLast := by rw [firN, hf]; show hostN _ = _; rw [hostN, h']; rfl
    have hR : firR d = d.drop (i + 1) := by rw [firR, hf]
    rw [hN, hR]
    refine ⟨?_, h2⟩
    conv => lhs; rw [← List.take_append_drop (i + 1) d, h1]
    simp
theorem num_w4 {n : Nat} (h : n < 4294967296) : num (w4 n) = n := by
  simp only [num, w4, List.foldl_cons, List.foldl_nil, UInt8.toNat_ofNat']; omega
theorem w4_len (n : Nat) : (w4 n).length = 4 := rfl
end Go.Proofs.Ytgdejgfmhndbhaa
