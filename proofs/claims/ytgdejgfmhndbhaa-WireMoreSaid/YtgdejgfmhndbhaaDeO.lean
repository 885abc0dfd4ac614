/-
  What is read may be; how long what is written is; a name that points; plain.
-/
import Derived.Test.YtgdejgfmhndbhaaDeP
import Derived.Test.YtgdejgfmhndbhaaDeN
namespace Go.Proofs.Ytgdejgfmhndbhaa
set_option linter.unusedSimpArgs false
set_option linter.unusedVariables false
/-! ### how long -/
theorem nmX_len : ∀ (L : List Bs) (k : Nat) (pl : List (Bs × Nat)), L.all lblOk = true → 1 ≤ (nmX L k pl).1.length ∧ (nmX L k pl).1.length ≤ (jn L).length + 1
  | [], _, _, _ => by simp [nmX, jn]
  | x :: L, k, pl, h => by
    simp only [List.all_cons, Bool.and_eq_true] at h
    have hx := lblOk_iff.1 h.1
    rw [jn_cons]
    cases hf : fnd pl (jn (x :: L)) with
    | some a => simp [nmX, hf, wd2]
    | none =>
      have := nmX_len L (k + (x.length + 1)) (pl ++ [(jn (x :: L), k)]) h.2
      simp only [nmX, hf, List.length_append, List.length_cons]; omega
theorem name_len {n : Bs} (hn : cutB n = true) (w : Wr) : w.b.length + 1 ≤ (nameW n w).b.length ∧ (nameW n w).b.length ≤ w.b.length + n.length + 1 := by
  obtain ⟨hl, hc⟩ := cut_lab hn
  obtain ⟨hj, hok⟩ := lab_jn n (cutL n) hc
  have := nmX_len (cutL n) w.b.length w.pl hok
  rw [hj] at this
  rw [nameW, nameL_X]
  simp only [List.length_append]
  omega
theorem body_len2 {r : Rc} (hok : r.ok = true) (w : Wr) : (bodyW r w).b.length ≤ w.b.length + r.d.length := by
  obtain ⟨_, _, _, hf, _⟩ := rc_ok hok
  by_cases h6 : r.ty = 6
  · have hb : psB r.d = true := by
      rw [fitB, h6] at hf
      simpa using hf
    have hV : psV r.d = psS r.d := by rw [psV, if_pos hb]
    simp only [psB, Bool.and_eq_true, decide_eq_true_eq] at hb
    obtain ⟨⟨⟨b1, b2⟩, b3⟩, _⟩ := hb
    obtain ⟨e1, c1⟩ := fir_back b1
    obtain ⟨e2, c2⟩ := fir_back b2
    have hl := congrArg List.length e1
    have hl2 := congrArg List.length e2
    simp only [List.length_append, List.length_cons] at hl hl2
    rw [bodyW, if_pos h6, hV]
    show ((nameW (firN (firR r.d)) (nameW (firN r.d) w)).add _).b.length ≤ _
    have n1 := name_len c1 w
    have n2 := name_len c2 (nameW (firN r.d) w)
    simp only [Wr.add, List.length_append, List.length_drop]
    omega
  · by_cases h33 : phC r.ty r.d = 0 ∧ r.ty ≠ 33
    · obtain ⟨e1, c1, z1, z2⟩ := ph_back h33.1
      have hl := congrArg List.length e1
      simp only [List.length_append, List.length_take, List.length_cons, List.length_nil] at hl
      rw [bodyW, if_neg h6, if_pos h33]
      have n1 := name_len c1 (w.add (r.d.take (r.d.length - (phN r.ty r.d).length - 1)))
      simp only [Wr.add, List.length_append, List.length_take] at n1 ⊢
      omega
    · rw [bodyW, if_neg h6, if_neg h33]
      simp [Wr.add]
theorem rec_len2 {r : Rc} (hok : r.ok = true) (w : Wr) : w.b.length + 11 ≤ (recW r w).b.length ∧ (recW r w).b.length ≤ w.b.length + r.nm.length + 11 + r.d.length := by
  obtain ⟨_, _, _, _, hc⟩ := rc_ok hok
  have n1 := name_len hc w
  obtain ⟨w5, ew5⟩ : ∃ w5, w5 = ((((nameW r.nm w).add (wd2 r.ty.toNat)).add (wd2 1)).add (w4 r.tl.toNat)) := ⟨_, rfl⟩
  have eR : recW r w = dataW r w5 := by rw [ew5]; rfl
  have l5 : w5.b.length = (nameW r.nm w).b.length + 8 := by rw [ew5]; simp [Wr.add, wd2, w4_len]
  obtain ⟨eD, lD⟩ := dataW_eq r w5
  have hb := body_len2 hok (w5.add (wd2 (bodyN r w5)))
  rw [← eD] at hb
  have l6 : (w5.add (wd2 (bodyN r w5))).b.length = w5.b.length + 2 := by simp [Wr.add, wd2]
  rw [eR]
  omega
def Msg.more (m : Msg) (r : Rc) : Msg := { m with ex := m.ex ++ [r] }
theorem Lin.len2 {O : Wr → Wr} (h : Lin O) {a b : Bs} (hl : a.length = b.length) (pl : List (Bs × Nat)) : (O ⟨a, pl⟩).b.length = (O ⟨b, pl⟩).b.length := by
  obtain ⟨x, p, h⟩ := h
  rw [h, h]
  simp [hl]
theorem more_len {m : Msg} {r : Rc} (hok : r.ok = true) : (encW m).b.length + 11 ≤ (encW (m.more r)).b.length ∧ (encW (m.more r)).b.length ≤ (encW m).b.length + r.nm.length + 11 + r.d.length := by
  have hO : Lin (fun w => recsW m.ex (recsW m.ns (recsW m.an (qusW m.qs w)))) := (((Lin.qus _).comp (Lin.recs _)).comp (Lin.recs _)).comp (Lin.recs _)
  have h1 := hO.len2 (a := headW (m.more r)) (b := headW m) (by rw [headW_ln, headW_ln]) []
  obtain ⟨W, eW⟩ : ∃ W, W = recsW m.ex (recsW m.ns (recsW m.an (qusW m.qs ⟨headW m, []⟩))) := ⟨_, rfl⟩
  obtain ⟨V, eV⟩ : ∃ V, V = recsW m.ex (recsW m.ns (recsW m.an (qusW m.qs ⟨headW (m.more r), []⟩))) := ⟨_, rfl⟩
  have h1 : V.b.length = W.b.length := by rw [eV, eW]; exact h1
  have e1 : encW m = optW m W := by rw [eW]; rfl
  have e2 : encW (m.more r) = optW m (recW r V) := by
    rw [eV]
    show optW (m.more r) (recsW (m.ex ++ [r]) _) = _
    simp only [recsW, List.foldl_append, List.foldl_cons, List.foldl_nil]
    rfl
  have h2 := rec_len2 hok V
  rw [e1, e2]
  unfold optW
  split
  · omega
  · simp only [Wr.add, List.length_append]; omega
theorem enc_head (m : Msg) : ∃ X, (encW m).b = headW m ++ X := by
  have hO : Lin (fun w => optW m (recsW m.ex (recsW m.ns (recsW m.an (qusW m.qs w))))) := ((((Lin.qus _).comp (Lin.recs _)).comp (Lin.recs _)).comp (Lin.recs _)).comp (Lin.optw m)
  obtain ⟨X, P, e⟩ := hO.le ⟨headW m, []⟩
  exact ⟨X, congrArg Wr.b e⟩
end Go.Proofs.Ytgdejgfmhndbhaa
