/-
  Folding, plainly: large letters made small; what labels joined are; a name's labels folded and joined.
-/
import Derived.Test.YtkkncnffkmopbaaPlA
namespace Go.Proofs.Ytkkncnffkmopbaa
set_option linter.unusedSimpArgs false
set_option linter.unusedVariables false
def big (c : UInt8) : Bool := decide (65 ≤ c.toNat) && decide (c.toNat ≤ 90)
def sm1 (c : UInt8) : UInt8 := if big c then c + 32 else c
def smS (s : Bs) : Bs := s.map sm1
theorem big_iff {c : UInt8} : big c = true ↔ 65 ≤ c.toNat ∧ c.toNat ≤ 90 := by simp [big]
theorem sm1_big {c : UInt8} (h : big c = true) : (sm1 c).toNat = c.toNat + 32 := by
  have := big_iff.1 h
  rw [sm1, if_pos h, UInt8.toNat_add]; show (c.toNat + 32) % 256 = _; omega
theorem sm1_no {c : UInt8} (h : big c = false) : sm1 c = c := by rw [sm1, h]; rfl
theorem sm1_low {c : UInt8} (h : c.toNat ≤ 63) : sm1 c = c := by
  apply sm1_no
  cases hb : big c
  · rfl
  · have := (big_iff.1 hb).1; omega
theorem sm1_sm1 (c : UInt8) : sm1 (sm1 c) = sm1 c := by
  cases h : big c
  · rw [sm1_no h, sm1_no h]
  · apply sm1_no
    have h1 := sm1_big h
    have h2 := big_iff.1 h
    cases h3 : big (sm1 c)
    · rfl
    · have := (big_iff.1 h3).2; omega
theorem smS_len (s : Bs) : (smS s).length = s.length := by simp [smS]
theorem smS_smS (s : Bs) : smS (smS s) = smS s := by simp [smS, sm1_sm1]
theorem smS_app (a b : Bs) : smS (a ++ b) = smS a ++ smS b := by simp [smS]
/-- half folded: the first k bytes -/
def smH (s : Bs) (k : Nat) : Bs := smS (s.take k) ++ s.drop k
theorem smH_zero (s : Bs) : smH s 0 = s := by simp [smH, smS]
theorem smH_len (s : Bs) (k : Nat) : (smH s k).length = s.length := by simp [smH, smS]; omega
theorem smH_all (s : Bs) {k : Nat} (h : s.length ≤ k) : smH s k = smS s := by simp [smH, List.take_of_length_le h, List.drop_of_length_le h]
theorem smH_get (s : Bs) {k : Nat} (h : k < s.length) : (smH s k)[k]'(by rw [smH_len]; exact h) = s[k] := by
  have hl : (smS (s.take k)).length = k := by rw [smS_len]; simp; omega
  simp only [smH]
  rw [List.getElem_append_right (by omega)]
  simp [hl]
theorem smH_step (s : Bs) {k : Nat} (h : k < s.length) : (smH s k).set k (sm1 s[k]) = smH s (k + 1) := by
  have hl : (smS (s.take k)).length = k := by rw [smS_len]; simp; omega
  simp only [smH]
  rw [List.set_append_right _ _ (by omega), hl, Nat.sub_self, List.drop_eq_getElem_cons h, List.set_cons_zero, List.take_succ_eq_append_getElem h, smS_app]
  simp [smS]
theorem smH_keep (s : Bs) {k : Nat} (h : k < s.length) (hb : big s[k] = false) : smH s k = smH s (k + 1) := by
  rw [← smH_step s h, sm1_no hb]
  have h' : k < (smH s k).length := by rw [smH_len]; exact h
  have e := smH_get s h
  rw [← e, List.set_getElem_self]
/-- labels, one behind the other, each with its length ahead -/
def jn (l : List Bs) : Bs := l.flatMap fun x => UInt8.ofNat x.length :: x
def lblOk (x : Bs) : Bool := decide (1 ≤ x.length) && decide (x.length ≤ 63)
theorem jn_nil : jn [] = [] := rfl
theorem jn_cons (x : Bs) (l : List Bs) : jn (x :: l) = UInt8.ofNat x.length :: (x ++ jn l) := rfl
theorem jn_app (a b : List Bs) : jn (a ++ b) = jn a ++ jn b := by simp [jn]
theorem jn_one (x : Bs) : jn [x] = UInt8.ofNat x.length :: x := by simp [jn]
theorem jn_snoc (l : List Bs) (x : Bs) : jn (l ++ [x]) = jn l ++ (UInt8.ofNat x.length :: x) := by rw [jn_app, jn_one]
theorem lblOk_iff {x : Bs} : lblOk x = true ↔ 1 ≤ x.length ∧ x.length ≤ 63 := by simp [lblOk]
/-- a name's labels, joined, are the name; each is a label -/
theorem lab_jn : ∀ s : Bs, ∀ l, lab s = some l → jn l = s ∧ l.all lblOk = true := by
  apply lab_ind (P := fun s => ∀ l, lab s = some l → jn l = s ∧ l.all lblOk = true)
  · intro l h; cases h; exact ⟨rfl, rfl⟩
  · intro k t hok ih l h
    rw [lab_cons, if_pos hok] at h
    obtain ⟨h1, h2, h3⟩ := okL_iff.1 hok
    cases hl : lab (t.drop k.toNat) with
    | none => rw [hl] at h; cases h
    | some m =>
      rw [hl] at h; simp only [Option.map_some, Option.some.injEq] at h; subst h
      obtain ⟨i1, i2⟩ := ih m hl
      have hlen : (t.take k.toNat).length = k.toNat := by simp; omega
      refine ⟨?_, ?_⟩
      · rw [jn_cons, i1, hlen, UInt8.ofNat_toNat, List.take_append_drop]
      · rw [List.all_cons, i2, Bool.and_true, lblOk_iff, hlen]; exact ⟨h1, h2⟩
  · intro k t hok l h
    rw [lab_cons, if_neg (by rw [hok]; decide)] at h; cases h
/-- labels joined are cut into themselves -/
theorem jn_lab : ∀ l : List Bs, l.all lblOk = true → lab (jn l) = some l
  | [], _ => rfl
  | x :: l, h => by
    rw [List.all_cons, Bool.and_eq_true] at h
    obtain ⟨h1, h2⟩ := lblOk_iff.1 h.1
    have hk : (UInt8.ofNat x.length).toNat = x.length := by rw [UInt8.toNat_ofNat']; omega
    rw [jn_cons, lab_cons, if_pos (okL_iff.2 (by rw [hk]; simp; omega)), hk, List.drop_left, List.take_left, jn_lab l h.2]; rfl
theorem jn_smS : ∀ l : List Bs, l.all lblOk = true → jn (l.map smS) = smS (jn l)
  | [], _ => rfl
  | x :: l, h => by
    rw [List.all_cons, Bool.and_eq_true] at h
    obtain ⟨h1, h2⟩ := lblOk_iff.1 h.1
    have hk : (UInt8.ofNat x.length).toNat = x.length := by rw [UInt8.toNat_ofNat']; omega
    rw [List.map_cons, jn_cons, jn_cons, jn_smS l h.2, smS_len]
    simp only [smS, List.map_cons, List.map_append]
    rw [sm1_low (by omega)]
theorem smS_lbls (l : List Bs) (h : l.all lblOk = true) : (l.map smS).all lblOk = true := by
  rw [List.all_map]
  rw [List.all_eq_true] at h ⊢
  intro x hx
  have := lblOk_iff.1 (h x hx)
  exact lblOk_iff.2 (by rw [smS_len]; exact this)
theorem lbls_len : ∀ l : List Bs, l.all lblOk = true → l.length * 2 ≤ (jn l).length
  | [], _ => Nat.le_refl _
  | x :: l, h => by
    rw [List.all_cons, Bool.and_eq_true] at h
    have := lbls_len l h.2
    have := (lblOk_iff.1 h.1).1
    rw [jn_cons]; simp only [List.length_cons, List.length_append]; omega
/-- what Join says -/
def jnB (l : List Bs) : Bool := l.all lblOk && decide ((jn l).length ≤ 254)
def jnS (l : List Bs) : Bs := if jnB l then jn l else []
def jnC (l : List Bs) : Int := if jnB l then 0 else 1
/-- what a name is folded -/
def fold (s : Bs) : Bs := if cutB s then smS s else s
theorem cut_lab {s : Bs} (h : cutB s = true) : s.length ≤ 254 ∧ lab s = some (cutL s) := by
  unfold cutB cutO at h
  by_cases hs : 254 < s.length
  · rw [if_pos hs] at h; cases h
  · rw [if_neg hs] at h
    refine ⟨by omega, ?_⟩
    unfold cutL cutO
    rw [if_neg hs]
    cases hl : lab s with
    | none => rw [hl] at h; cases h
    | some l => rfl
theorem fold_join {s : Bs} (h : cutB s = true) : jnB ((cutL s).map smS) = true ∧ jnS ((cutL s).map smS) = fold s := by
  obtain ⟨h1, h2⟩ := cut_lab h
  obtain ⟨h3, h4⟩ := lab_jn s _ h2
  have hj : jn ((cutL s).map smS) = smS s := by rw [jn_smS _ h4, h3]
  have hB : jnB ((cutL s).map smS) = true := by rw [jnB, smS_lbls _ h4, hj, smS_len, decide_eq_true h1]; rfl
  exact ⟨hB, by rw [jnS, hB, fold, h, hj]; rfl⟩
theorem fold_no {s : Bs} (h : cutB s = false) : fold s = s := by rw [fold, h]; rfl
end Go.Proofs.Ytkkncnffkmopbaa
