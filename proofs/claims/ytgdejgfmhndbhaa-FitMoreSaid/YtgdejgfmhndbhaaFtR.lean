/-
  Messages that must not be too great: what fits within a limit fits within a greater one, plainly.
-/
import Derived.Test.YtgdejgfmhndbhaaFtQ
namespace Go.Proofs.Ytgdejgfmhndbhaa
set_option linter.unusedSimpArgs false
set_option linter.unusedVariables false
/-- two writers that differ in bytes alone -/
structure WEq (s t : Wr) : Prop where
  l : s.b.length = t.b.length
  p : s.pl = t.pl
theorem WEq.refl (s : Wr) : WEq s s := ⟨rfl, rfl⟩
theorem WEq.add {s t : Wr} (h : WEq s t) (x : Bs) : WEq (s.add x) (t.add x) := ⟨by simp [Wr.add, h.l], h.p⟩
theorem WEq.nameL : ∀ (L : List Bs) {s t : Wr}, WEq s t → WEq (nameL L s) (nameL L t)
  | [], s, t, h => h.add _
  | x :: L, s, t, h => by
    unfold Go.Proofs.Ytgdejgfmhndbhaa.nameL
    rw [h.p]
    cases fnd t.pl (jn (x :: L)) with
    | some a => exact h.add _
    | none =>
      refine WEq.nameL L ⟨by simp [h.l], ?_⟩
      show _ ++ _ = _ ++ _
      rw [h.l]
theorem WEq.nameW {s t : Wr} (h : WEq s t) (n : Bs) : WEq (nameW n s) (nameW n t) := h.nameL _
theorem WEq.bodyW {s t : Wr} (h : WEq s t) (r : Rc) : WEq (bodyW r s) (bodyW r t) := by
  unfold Go.Proofs.Ytgdejgfmhndbhaa.bodyW
  split
  · exact ((h.nameW _).nameW _).add _
  · split
    · exact (h.add _).nameW _
    · exact h.add _
theorem set2_len' (l : Bs) (i n : Nat) : (set2 l i n).length = l.length := by simp [set2]
theorem WEq.recW {s t : Wr} (h : WEq s t) (r : Rc) : WEq (recW r s) (recW r t) := by
  have h1 := (((h.nameW r.nm).add (wd2 r.ty.toNat)).add (wd2 1)).add (w4 r.tl.toNat)
  have h2 := (h1.add (wd2 0)).bodyW r
  exact ⟨by simp only [Go.Proofs.Ytgdejgfmhndbhaa.recW, dataW, set2_len']; exact h2.l, h2.p⟩
theorem WEq.recsW : ∀ (l : List Rc) {s t : Wr}, WEq s t → WEq (recsW l s) (recsW l t)
  | [], _, _, h => h
  | r :: l, _, _, h => WEq.recsW l (h.recW r)
theorem WEq.quW {s t : Wr} (h : WEq s t) (q : Qn) : WEq (quW q s) (quW q t) := ((h.nameW _).add _).add _
theorem WEq.qusW : ∀ (l : List Qn) {s t : Wr}, WEq s t → WEq (qusW l s) (qusW l t)
  | [], _, _, h => h
  | q :: l, _, _, h => WEq.qusW l (h.quW q)
theorem add_gr (s : Wr) (x : Bs) : s.b.length ≤ (s.add x).b.length := by simp [Wr.add]
theorem nameL_gr : ∀ (L : List Bs) (s : Wr), s.b.length ≤ (nameL L s).b.length
  | [], s => add_gr s _
  | x :: L, s => by
    unfold nameL
    cases fnd s.pl (jn (x :: L)) with
    | some a => exact add_gr s _
    | none => exact Nat.le_trans (by simp) (nameL_gr L _)
theorem bodyW_gr (r : Rc) (s : Wr) : s.b.length ≤ (bodyW r s).b.length := by
  unfold bodyW
  split
  · exact Nat.le_trans (Nat.le_trans (nameL_gr _ _) (nameL_gr _ _)) (add_gr _ _)
  · split
    · exact Nat.le_trans (add_gr _ _) (nameL_gr _ _)
    · exact add_gr _ _
theorem recW_gr (r : Rc) (s : Wr) : s.b.length ≤ (recW r s).b.length := by
  have h1 : s.b.length ≤ ((((nameW r.nm s).add (wd2 r.ty.toNat)).add (wd2 1)).add (w4 r.tl.toNat)).b.length := Nat.le_trans (nameL_gr _ s) (Nat.le_trans (add_gr _ _) (Nat.le_trans (add_gr _ _) (add_gr _ _)))
  simp only [recW, dataW, set2_len']
  exact Nat.le_trans h1 (Nat.le_trans (add_gr _ _) (bodyW_gr _ _))
theorem recsW_gr : ∀ (l : List Rc) (s : Wr), s.b.length ≤ (recsW l s).b.length
  | [], _ => Nat.le_refl _
  | r :: l, s => Nat.le_trans (recW_gr r s) (recsW_gr l _)
theorem recsW_app (a b : List Rc) (s : Wr) : recsW (a ++ b) s = recsW b (recsW a s) := by simp [recsW]
theorem headW_len (m : Msg) : (headW m).length = 12 := by simp [headW, wd2]
/-- behind the questions -/
def midW (m : Msg) : Wr := recsW m.ns (recsW m.an (qusW m.qs ⟨headW m, []⟩))
theorem encW_mid (m : Msg) : encW m = optW m (recsW m.ex (midW m)) := rfl
def optN (m : Msg) : Nat := if m.sz = 0 then 0 else 11
theorem optW_len (m : Msg) (s : Wr) : (optW m s).b.length = s.b.length + optN m := by
  unfold optW optN
  split
  · simp
  · simp [Wr.add, wd2, w4]
theorem head_eq (m m' : Msg) : WEq ⟨headW m, []⟩ ⟨headW m', []⟩ := ⟨by rw [headW_len, headW_len], rfl⟩
structure MLe (x y : Msg) : Prop where
  b : (encW x).b.length ≤ (encW y).b.length
  ex : x.ex.length ≤ y.ex.length
  an : x.an.length ≤ y.an.length
theorem MLe.refl (x : Msg) : MLe x x := ⟨Nat.le_refl _, Nat.le_refl _, Nat.le_refl _⟩
theorem mle_tk (m : Msg) {i j : Nat} (h : i ≤ j) : MLe (m.tk i) (m.tk j) := by
  refine ⟨?_, by simp only [Msg.tk, List.length_take]; omega, Nat.le_refl _⟩
  rw [encW_mid, encW_mid, optW_len, optW_len]
  have h1 : WEq (midW (m.tk i)) (midW (m.tk j)) := (((head_eq _ _).qusW _).recsW _).recsW _
  have h2 := (h1.recsW (m.ex.take i)).l
  have h3 : m.ex.take j = m.ex.take i ++ (m.ex.take j).drop i := by
    have := List.take_append_drop i (m.ex.take j)
    rw [List.take_take, Nat.min_eq_left h] at this
    exact this.symm
  have h4 : (recsW (m.tk j).ex (midW (m.tk j))) = recsW ((m.ex.take j).drop i) (recsW (m.ex.take i) (midW (m.tk j))) := by
    show recsW (m.ex.take j) _ = _
    rw [← recsW_app, ← h3]
  rw [h4]
  have h5 := recsW_gr ((m.ex.take j).drop i) (recsW (m.ex.take i) (midW (m.tk j)))
  have h6 : optN (m.tk i) = optN (m.tk j) := rfl
  show (recsW (m.ex.take i) (midW (m.tk i))).b.length + _ ≤ _
  omega
theorem mle_cut (m : Msg) (j : Nat) : MLe m.cut (m.tk j) := by
  refine ⟨?_, Nat.zero_le _, Nat.zero_le _⟩
  rw [encW_mid, encW_mid, optW_len, optW_len]
  have h1 : WEq (qusW m.qs ⟨headW m.cut, []⟩) (qusW m.qs ⟨headW (m.tk j), []⟩) := (head_eq _ _).qusW _
  have h2 := h1.l
  have h3 := Nat.le_trans (Nat.le_trans (recsW_gr m.an (qusW m.qs ⟨headW (m.tk j), []⟩)) (recsW_gr m.ns _)) (recsW_gr (m.ex.take j) _)
  have h4 : optN m.cut = optN (m.tk j) := rfl
  show (qusW m.qs ⟨headW m.cut, []⟩).b.length + _ ≤ (recsW (m.ex.take j) (recsW m.ns (recsW m.an (qusW m.qs ⟨headW (m.tk j), []⟩)))).b.length + _
  omega
theorem fits_mono {x : Msg} {l l' : Int} (h : fits x l = true) (hl : l ≤ l') : fits x l' = true := by
  have := fits_le h
  rw [fits, decide_eq_true this.1, decide_eq_true (by omega)]; rfl
theorem fitN_le {m : Msg} {l : Int} : ∀ (k : Nat) (x : Msg), fitN m l k = some x → ∀ j, k ≤ j → MLe x (m.tk j)
  | 0, x, h, j, hj => by
    rw [fitN] at h
    split at h
    · injection h with h; subst h; exact mle_tk m hj
    · split at h
      · injection h with h; subst h; exact mle_cut m j
      · cases h
  | k + 1, x, h, j, hj => by
    rw [fitN] at h
    split at h
    · injection h with h; subst h; exact mle_tk m hj
    · exact fitN_le k x h j (by omega)
theorem fitN_mono {m : Msg} {l l' : Int} (hl : l ≤ l') : ∀ (k : Nat) (x : Msg), fitN m l k = some x → ∃ y, fitN m l' k = some y ∧ MLe x y
  | 0, x, h => by
    rw [fitN] at h ⊢
    split at h
    · rename_i hf
      injection h with h; subst h
      exact ⟨_, by rw [if_pos (fits_mono hf hl)], .refl _⟩
    · split at h
      · rename_i hf
        injection h with h; subst h
        cases h0 : fits (m.tk 0) l' with
        | true => exact ⟨_, by rw [if_pos rfl], mle_cut m 0⟩
        | false => exact ⟨_, by rw [if_neg (by decide), if_pos (fits_mono hf hl)], .refl _⟩
      · cases h
  | k + 1, x, h => by
    have h' := h
    rw [fitN] at h ⊢
    split at h
    · rename_i hf
      injection h with h; subst h
      exact ⟨_, by rw [if_pos (fits_mono hf hl)], .refl _⟩
    · cases h0 : fits (m.tk (k + 1)) l' with
      | true => exact ⟨_, by rw [if_pos rfl], fitN_le k x h (k + 1) (by omega)⟩
      | false =>
        obtain ⟨y, h1, h2⟩ := fitN_mono hl k x h
        exact ⟨y, by rw [if_neg (by decide)]; exact h1, h2⟩
theorem fit_more {m : Msg} {l l' : Int} (h : fitC m l = 0) (hl : l ≤ l') (h2 : l' ≤ 65535) : fitC m l' = 0 ∧ (fitS m l).length ≤ (fitS m l').length ∧ (fitM m l).ex.length ≤ (fitM m l').ex.length ∧ (fitM m l).an.length ≤ (fitM m l').an.length := by
  unfold fitC at h
  cases hO : fitO m l with
  | false => rw [hO] at h; cases h
  | true =>
    rw [hO] at h
    simp only [if_true] at h
    cases hN : fitN m l m.ex.length with
    | none => rw [hN] at h; simp at h
    | some x =>
      have hO2 := hO
      simp only [fitO, Bool.and_eq_true, decide_eq_true_eq] at hO2
      have hO' : fitO m l' = true := by rw [fitO, hO2.1, decide_eq_true (by omega : 1 ≤ l'), decide_eq_true h2]; rfl
      obtain ⟨y, hy, hle⟩ := fitN_mono hl _ x hN
      have f1 := fitN_fits _ _ hN
      have f2 := fitN_fits _ _ hy
      have s1 : encS x = (encW x).b := by rw [encS, if_pos (fits_le f1).1]
      have s2 : encS y = (encW y).b := by rw [encS, if_pos (fits_le f2).1]
      have r1 : fitR m l = some x := by rw [fitR, if_pos hO, hN]
      have r2 : fitR m l' = some y := by rw [fitR, if_pos hO', hy]
      refine ⟨by rw [fitC, if_pos hO', hy]; rfl, ?_, ?_, ?_⟩
      · rw [fitS, fitS, r1, r2]; show (encS x).length ≤ (encS y).length; rw [s1, s2]; exact hle.b
      · rw [fitM, fitM, r1, r2]; exact hle.ex
      · rw [fitM, fitM, r1, r2]; exact hle.an
end Go.Proofs.Ytgdejgfmhndbhaa
