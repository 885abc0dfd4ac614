/-
  Names, plainly: what a name's bytes yield, its labels.
-/
namespace Go.Proofs.Ytkkncnffkmopbaa
abbrev Bs := List UInt8
/-- is k, ahead of t, a label's length? -/
def okL (k : UInt8) (t : Bs) : Bool := decide (1 ≤ k.toNat) && decide (k.toNat ≤ 63) && decide (k.toNat ≤ t.length)
theorem okL_iff {k : UInt8} {t : Bs} : okL k t = true ↔ 1 ≤ k.toNat ∧ k.toNat ≤ 63 ∧ k.toNat ≤ t.length := by
  simp [okL, and_assoc]
theorem okL_no {k : UInt8} {t : Bs} (h : okL k t = false) : k.toNat < 1 ∨ (1 ≤ k.toNat ∧ 63 < k.toNat) ∨ (1 ≤ k.toNat ∧ k.toNat ≤ 63 ∧ t.length < k.toNat) := by
  have h' : ¬ (1 ≤ k.toNat ∧ k.toNat ≤ 63 ∧ k.toNat ≤ t.length) := fun h2 => by rw [okL_iff.2 h2] at h; cases h
  omega
/-- what the iterator yields -/
def ylF : Nat → Bs → List (Bs × Bool)
  | 0, _ => []
  | _ + 1, [] => []
  | f + 1, k :: t => if okL k t then (t.take k.toNat, true) :: ylF f (t.drop k.toNat) else [([], false)]
theorem ylF_more : ∀ (f : Nat) (s : Bs), s.length ≤ f → ylF f s = ylF s.length s
  | 0, s, h => by
    have : s = [] := List.eq_nil_of_length_eq_zero (by omega)
    subst this; rfl
  | f + 1, [], _ => rfl
  | f + 1, k :: t, h => by
    simp only [List.length_cons] at h
    simp only [ylF, List.length_cons]
    split
    · rw [ylF_more f (t.drop k.toNat) (by simp; omega), ← ylF_more t.length (t.drop k.toNat) (by simp)]
    · rfl
def yl (s : Bs) : List (Bs × Bool) := ylF s.length s
theorem yl_nil : yl [] = [] := rfl
theorem yl_cons (k : UInt8) (t : Bs) : yl (k :: t) = if okL k t then (t.take k.toNat, true) :: yl (t.drop k.toNat) else [([], false)] := by
  unfold yl
  simp only [List.length_cons, ylF]
  split
  · rw [ylF_more t.length _ (by simp)]
  · rfl
/-- a name's labels, if it is one -/
def labF : Nat → Bs → Option (List Bs)
  | _, [] => some []
  | 0, _ :: _ => none
  | f + 1, k :: t => if okL k t then (labF f (t.drop k.toNat)).map (t.take k.toNat :: ·) else none
theorem labF_more : ∀ (f : Nat) (s : Bs), s.length ≤ f → labF f s = labF s.length s
  | 0, s, h => by
    have : s = [] := List.eq_nil_of_length_eq_zero (by omega)
    subst this; rfl
  | f + 1, [], _ => rfl
  | f + 1, k :: t, h => by
    simp only [List.length_cons] at h
    simp only [labF, List.length_cons]
    split
    · rw [labF_more f (t.drop k.toNat) (by simp; omega), ← labF_more t.length (t.drop k.toNat) (by simp)]
    · rfl
def lab (s : Bs) : Option (List Bs) := labF s.length s
theorem lab_nil : lab [] = some [] := rfl
theorem lab_cons (k : UInt8) (t : Bs) : lab (k :: t) = if okL k t then (lab (t.drop k.toNat)).map (t.take k.toNat :: ·) else none := by
  unfold lab
  simp only [List.length_cons, labF]
  split
  · rw [labF_more t.length _ (by simp)]
  · rfl
/-- induction along a name's labels -/
theorem lab_ind {P : Bs → Prop} (h0 : P []) (hk : ∀ k t, okL k t = true → P (t.drop k.toNat) → P (k :: t)) (hn : ∀ k t, okL k t = false → P (k :: t)) : ∀ s, P s := by
  have : ∀ (n : Nat) (s : Bs), s.length ≤ n → P s := by
    intro n
    induction n with
    | zero => intro s h; have : s = [] := List.eq_nil_of_length_eq_zero (by omega); subst this; exact h0
    | succ n ih =>
      intro s h
      cases s with
      | nil => exact h0
      | cons k t =>
        cases hok : okL k t with
        | true => exact hk k t hok (ih _ (by simp only [List.length_cons] at h; simp; omega))
        | false => exact hn k t hok
  exact fun s => this s.length s (Nat.le_refl _)
theorem yl_lab (s : Bs) : yl s = match lab s with | some l => l.map (·, true) | none => (yl s) := by
  revert s
  apply lab_ind
  · rfl
  · intro k t hok ih
    rw [lab_cons, if_pos hok, yl_cons, if_pos hok]
    cases hl : lab (t.drop k.toNat) with
    | none => rfl
    | some l => rw [hl] at ih; simp only [Option.map_some, List.map_cons]; rw [ih]
  · intro k t hok
    rw [lab_cons, if_neg (by rw [hok]; decide)]
/-- a list of labels that were all yielded, and then the end, or 'none' -/
theorem yl_some {s : Bs} {l : List Bs} (h : lab s = some l) : yl s = l.map (·, true) := by
  have := yl_lab s
  rw [h] at this; exact this
theorem yl_none {s : Bs} (h : lab s = none) : ∃ l : List Bs, yl s = l.map (·, true) ++ [([], false)] := by
  revert s
  apply lab_ind (P := fun s => lab s = none → ∃ l : List Bs, yl s = l.map (·, true) ++ [([], false)])
  · intro h; cases h
  · intro k t hok ih h
    rw [lab_cons, if_pos hok] at h
    obtain ⟨l, hl⟩ := ih (by cases hl : lab (t.drop k.toNat) with | none => rfl | some l => rw [hl] at h; cases h)
    exact ⟨t.take k.toNat :: l, by rw [yl_cons, if_pos hok, hl]; rfl⟩
  · intro k t hok _
    exact ⟨[], by rw [yl_cons, if_neg (by rw [hok]; decide)]; rfl⟩
theorem lab_join {s : Bs} {l : List Bs} (h : lab s = some l) : l.length ≤ s.length := by
  revert s l
  intro s
  revert s
  apply lab_ind (P := fun s => ∀ l : List Bs, lab s = some l → l.length ≤ s.length)
  · intro l h; cases h; simp
  · intro k t hok ih l h
    rw [lab_cons, if_pos hok] at h
    cases hl : lab (t.drop k.toNat) with
    | none => rw [hl] at h; cases h
    | some m =>
      rw [hl] at h; simp only [Option.map_some, Option.some.injEq] at h; subst h
      have := ih m hl
      simp only [List.length_drop] at this
      simp only [List.length_cons]; omega
  · intro k t hok l h
    rw [lab_cons, if_neg (by rw [hok]; decide)] at h; cases h
theorem yl_len : ∀ s : Bs, (yl s).length ≤ s.length + 1 := by
  apply lab_ind
  · simp [yl_nil]
  · intro k t hok ih
    rw [yl_cons, if_pos hok]
    have := (okL_iff.1 hok).1
    simp only [List.length_cons, List.length_drop] at ih ⊢; omega
  · intro k t hok
    rw [yl_cons, if_neg (by rw [hok]; decide)]; simp
/-- a name is cut: at most 254 bytes -/
def cutO (s : Bs) : Option (List Bs) := if 254 < s.length then none else lab s
def cutL (s : Bs) : List Bs := (cutO s).getD []
def cutB (s : Bs) : Bool := (cutO s).isSome
end Go.Proofs.Ytkkncnffkmopbaa
