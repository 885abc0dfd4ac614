/-
  What is written is read, plainly; what is read is written to the same bytes.
-/
import Derived.Test.YtgdejgfmhndbhaaRdH
namespace Go.Proofs.Ytgdejgfmhndbhaa
set_option linter.unusedSimpArgs false
set_option linter.unusedVariables false
theorem cutB_lab {m : Bs} (h : cutB m = true) : m.length ≤ 254 ∧ (lab m).isSome = true := by
  unfold cutB cutO at h
  split at h
  · cases h
  · exact ⟨by omega, h⟩
/-- behind a name's labels stands its byte 0 -/
theorem fz_name : ∀ (m : Bs), (lab m).isSome = true → ∀ r, fz (m ++ 0 :: r) = some m.length := by
  apply lab_ind (P := fun m => (lab m).isSome = true → ∀ r, fz (m ++ 0 :: r) = some m.length)
  · intro _ r; simp [fz_cons]
  · intro k t hok ih h r
    rw [lab_cons, if_pos hok] at h
    obtain ⟨h1, h2, h3⟩ := okL_iff.1 hok
    have hk : k ≠ 0 := by intro hk; subst hk; simp at h1
    rw [List.cons_append, fz_cons, if_neg hk, List.drop_append_of_le_length h3, ih (by cases hl : lab (t.drop k.toNat) with | none => rw [hl] at h; cases h | some l => rfl) r]
    simp only [List.length_drop, Option.map_some, List.length_cons, Option.some.injEq]; omega
  · intro k t hok h
    rw [lab_cons, if_neg (by rw [hok]; decide)] at h; cases h
theorem hostOk_snoc (m : Bs) : hostOk (m ++ [0]) = cutB m := by simp [hostOk, end0]
theorem hostOk_yes {s : Bs} (h : hostOk s = true) : s = s.dropLast ++ [0] ∧ cutB s.dropLast = true := by
  simp only [hostOk, Bool.and_eq_true, end0, beq_iff_eq] at h
  refine ⟨?_, h.2⟩
  rcases snoc_or s with rfl | ⟨t, c, rfl⟩
  · cases h.1
  · have hc : c = 0 := by simpa using h.1
    subst hc; simp
theorem hostN_snoc {m : Bs} (h : cutB m = true) : hostN (m ++ [0]) = m := by rw [hostN, hostOk_snoc, h]; simp
theorem fir_name {m r : Bs} (h : cutB m = true) : firB (m ++ 0 :: r) = true ∧ firN (m ++ 0 :: r) = m ∧ firR (m ++ 0 :: r) = r := by
  have hf := fz_name m (cutB_lab h).2 r
  have ht : (m ++ 0 :: r).take (m.length + 1) = m ++ [0] := by
    have e : m ++ 0 :: r = (m ++ [0]) ++ r := by simp
    rw [e, List.take_append_of_le_length (by simp), List.take_of_length_le (by simp)]
  have hd : (m ++ 0 :: r).drop (m.length + 1) = r := by simp [List.drop_append]
  refine ⟨?_, ?_, ?_⟩
  · rw [firB, hf]; show hostOk _ = true; rw [ht, hostOk_snoc]; exact h
  · rw [firN, hf]; show hostN _ = m; rw [ht]; exact hostN_snoc h
  · rw [firR, hf]; exact hd
theorem fir_back {d : Bs} (h : firB d = true) : d = firN d ++ 0 :: firR d ∧ cutB (firN d) = true := by
  unfold firB at h
  cases hf : fz d with
  | none => rw [hf] at h; cases h
  | some i =>
    rw [hf] at h
    have h' : hostOk (d.take (i + 1)) = true := h
    obtain ⟨h1, h2⟩ := hostOk_yes h'
    have hN : firN d = (d.take (i + 1)).dropLast := by rw [firN, hf]; show hostN _ = _; rw [hostN, h']; rfl
    have hR : firR d = d.drop (i + 1) := by rw [firR, hf]
    rw [hN, hR]
    refine ⟨?_, h2⟩
    conv => lhs; rw [← List.take_append_drop (i + 1) d, h1]
    simp
theorem num_w4 {n : Nat} (h : n < 4294967296) : num (w4 n) = n := by
  simp only [num, w4, List.foldl_cons, List.foldl_nil, UInt8.toNat_ofNat']; omega
theorem u8_num {a b c d : UInt8} : w4 (num [a, b, c, d]) = [a, b, c, d] := by
  have ha := a.toNat_lt; have hb := b.toNat_lt; have hc := c.toNat_lt; have hd := d.toNat_lt
  have e : num [a, b, c, d] = 16777216 * a.toNat + 65536 * b.toNat + 256 * c.toNat + d.toNat := by simp only [num, List.foldl_cons, List.foldl_nil]; omega
  rw [e, w4]
  congr 1
  · apply UInt8.toNat_inj.1; rw [UInt8.toNat_ofNat']; omega
  congr 1
  · apply UInt8.toNat_inj.1; rw [UInt8.toNat_ofNat']; omega
  congr 1
  · apply UInt8.toNat_inj.1; rw [UInt8.toNat_ofNat']; omega
  congr 1
  · apply UInt8.toNat_inj.1; rw [UInt8.toNat_ofNat']; omega
theorem w4_num {l : Bs} (h : l.length = 4) : w4 (num l) = l := by
  match l, h with
  | [a, b, c, d], _ => exact u8_num
theorem w4_len (n : Nat) : (w4 n).length = 4 := rfl
theorem five (R : Bs) (h : R.length = 20) : w4 (at4 R 0) ++ (w4 (at4 R 1) ++ (w4 (at4 R 2) ++ (w4 (at4 R 3) ++ w4 (at4 R 4)))) = R := by
  unfold at4
  rw [w4_num (by simp; omega), w4_num (by simp; omega), w4_num (by simp; omega), w4_num (by simp; omega), w4_num (by simp; omega)]
  match R, h with
  | [a0, a1, a2, a3, a4, a5, a6, a7, a8, a9, b0, b1, b2, b3, b4, b5, b6, b7, b8, b9], _ => rfl
theorem at4_five {a b c d e : Nat} (ha : a < 4294967296) (hb : b < 4294967296) (hc : c < 4294967296) (hd : d < 4294967296) (he : e < 4294967296) :
    at4 (w4 a ++ (w4 b ++ (w4 c ++ (w4 d ++ w4 e)))) 0 = a ∧ at4 (w4 a ++ (w4 b ++ (w4 c ++ (w4 d ++ w4 e)))) 1 = b ∧ at4 (w4 a ++ (w4 b ++ (w4 c ++ (w4 d ++ w4 e)))) 2 = c ∧ at4 (w4 a ++ (w4 b ++ (w4 c ++ (w4 d ++ w4 e)))) 3 = d ∧ at4 (w4 a ++ (w4 b ++ (w4 c ++ (w4 d ++ w4 e)))) 4 = e :=
  ⟨num_w4 ha, num_w4 hb, num_w4 hc, num_w4 hd, num_w4 he⟩
theorem so_bytes {s : So} (h : s.ok = true) : s.bytes = s.main ++ 0 :: (s.mail ++ 0 :: (w4 s.se.toNat ++ (w4 s.re.toNat ++ (w4 s.rt.toNat ++ (w4 s.ex.toNat ++ w4 s.mi.toNat))))) := by
  rw [So.bytes, h]
  simp [So.hd, So.tl, So.nums]
theorem so_parts {s : So} (h : s.ok = true) : cutB s.main = true ∧ cutB s.mail = true ∧ (0 ≤ s.se ∧ s.se ≤ 4294967295) ∧ (0 ≤ s.re ∧ s.re ≤ 2147483647) ∧ (0 ≤ s.rt ∧ s.rt ≤ 2147483647) ∧ (0 ≤ s.ex ∧ s.ex ≤ 2147483647) ∧ (0 ≤ s.mi ∧ s.mi ≤ 2147483647) := by
  simp only [So.ok, So.nums, numOk, Bool.and_eq_true, decide_eq_true_eq, List.all_cons, List.all_nil] at h
  obtain ⟨⟨⟨⟨h1, h2⟩, h3⟩, h4⟩, h5, h6, h7, h8, _⟩ := h
  exact ⟨h1, h2, ⟨h3, h4⟩, h5, h6, h7, h8⟩
/-- what is written is read -/
theorem so_read {s : So} (h : s.ok = true) : psB s.bytes = true ∧ psS s.bytes = s := by
  obtain ⟨h1, h2, ⟨a1, a2⟩, ⟨b1, b2⟩, ⟨c1, c2⟩, ⟨d1, d2⟩, ⟨e1, e2⟩⟩ := so_parts h
  have hb := so_bytes h
  obtain ⟨f1, f2, f3⟩ := fir_name (r := s.mail ++ 0 :: (w4 s.se.toNat ++ (w4 s.re.toNat ++ (w4 s.rt.toNat ++ (w4 s.ex.toNat ++ w4 s.mi.toNat))))) h1
  obtain ⟨g1, g2, g3⟩ := fir_name (r := w4 s.se.toNat ++ (w4 s.re.toNat ++ (w4 s.rt.toNat ++ (w4 s.ex.toNat ++ w4 s.mi.toNat)))) h2
  rw [← hb] at f1 f2 f3
  obtain ⟨n1, n2, n3, n4, n5⟩ := at4_five (a := s.se.toNat) (b := s.re.toNat) (c := s.rt.toNat) (d := s.ex.toNat) (e := s.mi.toNat) (by omega) (by omega) (by omega) (by omega) (by omega)
  have hS : psS s.bytes = s := by
    rw [psS, f2, f3, g2, g3, n1, n2, n3, n4, n5, Int.toNat_of_nonneg a1, Int.toNat_of_nonneg b1, Int.toNat_of_nonneg c1, Int.toNat_of_nonneg d1, Int.toNat_of_nonneg e1]
  refine ⟨?_, hS⟩
  rw [psB, hS, h, f1, f3, g1, g3]; rfl
/-- what is read is written to the same bytes -/
theorem so_write {d : Bs} (h : psB d = true) : (psS d).ok = true ∧ (psS d).bytes = d := by
  simp only [psB, Bool.and_eq_true, decide_eq_true_eq] at h
  obtain ⟨⟨⟨h1, h2⟩, h3⟩, h4⟩ := h
  refine ⟨h4, ?_⟩
  rw [so_bytes h4]
  obtain ⟨e1, _⟩ := fir_back h1
  obtain ⟨e2, _⟩ := fir_back h2
  show firN d ++ 0 :: (firN (firR d) ++ 0 :: (w4 (at4 (firR (firR d)) 0) ++ (w4 (at4 (firR (firR d)) 1) ++ (w4 (at4 (firR (firR d)) 2) ++ (w4 (at4 (firR (firR d)) 3) ++ w4 (at4 (firR (firR d)) 4)))))) = d
  rw [five _ h3, ← e2, ← e1]
theorem psV_read {s : So} (h : s.ok = true) : psV s.bytes = s ∧ psC s.bytes = 0 := by
  obtain ⟨h1, h2⟩ := so_read h
  rw [psV, psC, h1]; exact ⟨h2, rfl⟩
/-- a name's bytes, behind so many that stand ahead -/
theorem ph_read {n : Bs} (h : cutB n = true) (k : Int) (p : Bs) (hk : aheadZ k = p.length) : phC k (p ++ (n ++ [0])) = 0 ∧ phN k (p ++ (n ++ [0])) = n := by
  have hd : (p ++ (n ++ [0])).drop (aheadZ k).toNat = n ++ [0] := by rw [hk]; simp
  have hC : phC k (p ++ (n ++ [0])) = 0 := by
    rw [phC, if_neg (by omega), if_neg (by simp; omega), hd, hostOk_snoc, h]; rfl
  exact ⟨hC, by rw [phN, if_pos hC, hd]; simp⟩
end Go.Proofs.Ytgdejgfmhndbhaa
