/-
  Scripts of questions, plainly: which task each was told, and who is told by each task.
-/
import Derived.Test.YtebnilkcpklnmaaCoP
import Derived.Test.YtebnilkcpklnmaaOrd
namespace Go.Proofs.Ytebnilkcpklnmaa
set_option linter.unusedSimpArgs false
set_option linter.unusedVariables false
def nmA : Bs := [1, 97]
def oc (i : Nat) : Cl := ⟨(i : Int), 0, nmA⟩
def idx (A : List Nat) (N n : Nat) : List Nat := (List.range N).filter fun j => A[j]? == some n
/-- the questions so far: names and types; the table; what each was told -/
structure OnI (Q : List (Bs × Int)) (i : Nat) (S : Tb) (A : List Nat) : Prop where
  ok : S.ok
  rm : S.room = 100
  ms : S.most = 100
  len : A.length = i
  lst : S.L.length = S.last
  le : S.last ≤ i
  num : ∀ (m : Nat) k, S.L[m]? = some k → k.num = m + 1
  cs : ∀ k ∈ S.L, k.cs = (idx A i k.num).map oc
  hit : ∀ (j n : Nat), A[j]? = some n → n ≠ 0 → ∃ k ∈ S.L, k.num = n ∧ ∃ x, Q[j]? = some x ∧ hitK (fold x.1) x.2 k = true
  bad : ∀ (j : Nat) x, A[j]? = some 0 → Q[j]? = some x → cutB x.1 = false
theorem idx_snoc {A : List Nat} {i a n : Nat} (h : A.length = i) : idx (A ++ [a]) (i + 1) n = idx A i n ++ (if a = n then [i] else []) := by
  unfold idx
  rw [List.range_succ, List.filter_append]
  congr 1
  · apply List.filter_congr
    intro j hj
    rw [List.getElem?_append_left (by rw [h]; exact List.mem_range.1 hj)]
  · have : (A ++ [a])[i]? = some a := by rw [List.getElem?_append_right (by omega), h, Nat.sub_self]; rfl
    by_cases e : a = n
    · subst e
      simp [List.filter_cons, this]
    · have e2 : (some a == some n) = false := by simpa using e
      simp [List.filter_cons, this, e]
theorem idx_len (A : List Nat) (i n : Nat) : (idx A i n).length ≤ i := by
  have := List.length_filter_le (fun j => A[j]? == some n) (List.range i)
  simpa [idx] using this
theorem snoc_get {A : List Nat} {a j n : Nat} (h : (A ++ [a])[j]? = some n) : (j < A.length ∧ A[j]? = some n) ∨ (j = A.length ∧ a = n) := by
  by_cases hj : j < A.length
  · rw [List.getElem?_append_left hj] at h
    exact .inl ⟨hj, h⟩
  · rw [List.getElem?_append_right (by omega)] at h
    have : j - A.length = 0 := by
      by_cases h0 : j - A.length = 0
      · exact h0
      · rw [List.getElem?_eq_none (by simp; omega)] at h; cases h
    rw [this] at h
    simp only [List.getElem?_cons_zero, Option.some.injEq] at h
    exact .inr ⟨by omega, h⟩
theorem OnI.start (Q : List (Bs × Int)) : OnI Q 0 ⟨100, 100, 0, []⟩ [] :=
  ⟨Tb.ok.empty (by omega) (by omega) (by omega) (by omega), rfl, rfl, rfl, rfl, Nat.le_refl _, (fun m k h => by simp at h), (fun k h => absurd h List.not_mem_nil), (fun j n h => by simp at h), (fun j x h => by simp at h)⟩
theorem OnI.num1 {Q : List (Bs × Int)} {i : Nat} {S : Tb} {A : List Nat} (h : OnI Q i S A) {k : Tk} (hk : k ∈ S.L) : 1 ≤ k.num ∧ k.num ≤ S.last ∧ S.L[k.num - 1]? = some k := by
  obtain ⟨m, hm⟩ := List.getElem?_of_mem hk
  have := h.num m k hm
  have h2 := get_lt hm
  have h3 := h.lst
  refine ⟨by omega, by omega, ?_⟩
  rw [this]
  simpa using hm
/-- what is said of the next answer -/
structure Chk (Q : List (Bs × Int)) (A : List Nat) (i : Nat) (x : Bs × Int) (n : Nat) (fr : Bool) : Prop where
  same : ∀ (j a : Nat) y, A[j]? = some a → Q[j]? = some y → a ≠ 0 → (a = n ↔ (y.2 = x.2 ∧ fold y.1 = fold x.1))
  fresh : ∀ (j : Nat) y, j < i → Q[j]? = some y → y.2 = x.2 → fold y.1 = fold x.1 → fr = false
  pos : n ≠ 0
theorem OnI.step {Q : List (Bs × Int)} {i : Nat} {S : Tb} {A : List Nat} (h : OnI Q i S A) (hi : i < 60) {x : Bs × Int} (hx : Q[i]? = some x) :
    ∃ (n : Nat) (fr : Bool) (e : Int) (S' : Tb), ask S x.1 x.2 (oc i) = (((n : Int), fr, e), S') ∧ ((e = 1 ∧ OnI Q (i + 1) S' (A ++ [0])) ∨ (e = 0 ∧ OnI Q (i + 1) S' (A ++ [n]) ∧ Chk Q A i x n fr)) := by
  have hlen := h.len
  cases hb : cutB x.1 with
  | false =>
    have hq : okQ x.1 (oc i) = false := by rw [okQ, hb]; rfl
    refine ⟨0, false, 1, S, by rw [ask, hq]; rfl, .inl ⟨rfl, h.ok, h.rm, h.ms, by simp [hlen], h.lst, by have := h.le; omega, h.num, fun k hk => ?_, fun j n hj hn => ?_, fun j y hj hy => ?_⟩⟩
    · rw [idx_snoc hlen, if_neg (by have := h.num1 hk; omega), List.append_nil]
      exact h.cs k hk
    · rcases snoc_get hj with ⟨_, hj⟩ | ⟨_, e⟩
      · exact h.hit j n hj hn
      · exact absurd e.symm hn
    · rcases snoc_get hj with ⟨_, hj⟩ | ⟨e, _⟩
      · exact h.bad j y hj hy
      · rw [e, hlen, hx] at hy
        injection hy with hy
        rw [← hy]; exact hb
  | true =>
    have hq : okQ x.1 (oc i) = true := by rw [okQ, hb]; rfl
    have huq : ∀ k k' : Tk, k ∈ S.L → k' ∈ S.L → k.q = k'.q → k.ty = k'.ty → k = k' := by
      intro k k' hk hk' e1 e2
      obtain ⟨m, hm⟩ := List.getElem?_of_mem hk
      obtain ⟨m', hm'⟩ := List.getElem?_of_mem hk'
      rcases Nat.lt_trichotomy m m' with hmm | rfl | hmm
      · have := pw_get h.ok.one hmm hm hm'
        rw [hitK_iff.2 ⟨e1.symm, e2.symm⟩] at this; cases this
      · rw [hm] at hm'; injection hm'
      · have := pw_get h.ok.one hmm hm' hm
        rw [hitK_iff.2 ⟨e1, e2⟩] at this; cases this
    cases hk : lookK (fold x.1) x.2 S.L with
    | some p =>
      obtain ⟨m, k⟩ := p
      obtain ⟨hm, hh, _⟩ := lookK_some hk
      have hkm := mem_get hm
      have hkl : (k.cs.length : Int) < S.most := by
        rw [h.cs k hkm, h.ms, List.length_map]
        have := idx_len A i k.num
        omega
      have hk1 := h.num1 hkm
      obtain ⟨hh1, hh2⟩ := hitK_iff.1 hh
      refine ⟨k.num, false, 0, { S with L := S.L.set m (k.add (oc i)) }, by rw [ask, hq, hk]; simp [Int.not_le.2 hkl], .inr ⟨rfl, ⟨h.ok.set hm hkl, h.rm, h.ms, by simp [hlen], by simpa using h.lst, by have := h.le; simp only []; omega, fun m' k' hm' => ?_, fun k' hk' => ?_, fun j n hj hn => ?_, fun j y hj hy => ?_⟩, ⟨fun j a y hj hy ha => ?_, fun _ _ _ _ _ _ => rfl, by omega⟩⟩⟩
      · simp only [List.getElem?_set] at hm'
        split at hm'
        · rename_i e
          split at hm'
          · injection hm' with hm'
            rw [← hm', ← e]
            exact h.num m k hm
          · cases hm'
        · exact h.num m' k' hm'
      · rw [idx_snoc hlen]
        obtain ⟨m', hm'⟩ := List.getElem?_of_mem hk'
        simp only [List.getElem?_set] at hm'
        split at hm'
        · split at hm'
          · injection hm' with hm'
            rw [← hm']
            simp only [Tk.add]
            rw [if_pos trivial, List.map_append, ← h.cs k hkm]
            rfl
          · cases hm'
        · rename_i hne
          have h1 := h.num m' k' hm'
          have h2 := h.num m k hm
          rw [if_neg (by omega), List.append_nil]
          exact h.cs k' (mem_get hm')
      · have hkey : ∀ k0 ∈ S.L, ∃ k1 ∈ S.L.set m (k.add (oc i)), k1.num = k0.num ∧ k1.q = k0.q ∧ k1.ty = k0.ty := by
          intro k0 hk0
          obtain ⟨m0, hm0⟩ := List.getElem?_of_mem hk0
          by_cases e : m = m0
          · subst e
            rw [hm] at hm0
            injection hm0 with hm0
            subst hm0
            exact ⟨k.add (oc i), List.mem_set (get_lt hm) _, rfl, rfl, rfl⟩
          · exact ⟨k0, List.mem_of_getElem? (i := m0) (by rw [List.getElem?_set_ne e]; exact hm0), rfl, rfl, rfl⟩
        have hfin : ∃ k0 ∈ S.L, k0.num = n ∧ ∃ y, Q[j]? = some y ∧ hitK (fold y.1) y.2 k0 = true := by
          rcases snoc_get hj with ⟨_, hj⟩ | ⟨e, e2⟩
          · exact h.hit j n hj hn
          · exact ⟨k, hkm, e2, x, by rw [e, hlen]; exact hx, hh⟩
        obtain ⟨k0, hk0, e1, y, hy, hhy⟩ := hfin
        obtain ⟨k1, hk1', e2, e3, e4⟩ := hkey k0 hk0
        obtain ⟨f1, f2⟩ := hitK_iff.1 hhy
        exact ⟨k1, hk1', e2.trans e1, y, hy, hitK_iff.2 ⟨e3.trans f1, e4.trans f2⟩⟩
      · rcases snoc_get hj with ⟨_, hj⟩ | ⟨e, e2⟩
        · exact h.bad j y hj hy
        · omega
      · obtain ⟨k', hk', e1, y', hy', hhy⟩ := h.hit j a hj ha
        rw [hy] at hy'
        injection hy' with hy'
        subst hy'
        obtain ⟨f1, f2⟩ := hitK_iff.1 hhy
        constructor
        · intro e
          have h1 := (h.num1 hk').2.2
          have h2 := (h.num1 hkm).2.2
          rw [e1, e, h2] at h1
          injection h1 with h1
          subst h1
          exact ⟨f2.symm.trans hh2, f1.symm.trans hh1⟩
        · rintro ⟨g1, g2⟩
          have := huq k' k hk' hkm (f1.trans (g2.trans hh1.symm)) (f2.trans (g1.trans hh2.symm))
          rw [← e1, this]
    | none =>
      have hno := lookK_none hk
      have hrm : (S.L.length : Int) < S.room := by rw [h.rm, h.lst]; have := h.le; omega
      refine ⟨S.last + 1, true, 0, { S with last := S.last + 1, L := S.L ++ [⟨S.last + 1, fold x.1, x.2, [oc i]⟩] }, by rw [ask, hq, hk]; simp [Int.not_le.2 hrm], .inr ⟨rfl, ⟨h.ok.new hk hrm, h.rm, h.ms, by simp [hlen], by simp [h.lst], by have := h.le; simp only []; omega, fun m' k' hm' => ?_, fun k' hk' => ?_, fun j n hj hn => ?_, fun j y hj hy => ?_⟩, ⟨fun j a y hj hy ha => ?_, fun j y hj hy e1 e2 => ?_, by omega⟩⟩⟩
      · by_cases hm : m' < S.L.length
        · rw [List.getElem?_append_left hm] at hm'
          exact h.num m' k' hm'
        · rw [List.getElem?_append_right (by omega)] at hm'
          have : m' - S.L.length = 0 := by
            by_cases h0 : m' - S.L.length = 0
            · exact h0
            · rw [List.getElem?_eq_none (by simp; omega)] at hm'; cases hm'
          rw [this] at hm'
          simp only [List.getElem?_cons_zero, Option.some.injEq] at hm'
          rw [← hm']
          have := h.lst
          simp only []
          omega
      · rw [idx_snoc hlen]
        rcases List.mem_append.1 hk' with hk' | hk'
        · have := h.num1 hk'
          rw [if_neg (by omega), List.append_nil]
          exact h.cs k' hk'
        · rw [List.mem_singleton.1 hk']
          simp only [if_true]
          have hnone : idx A i (S.last + 1) = [] := by
            unfold idx
            rw [List.filter_eq_nil_iff]
            intro j hj
            simp only [beq_iff_eq]
            intro e
            obtain ⟨k0, hk0, e0, _⟩ := h.hit j _ e (by omega)
            have := h.num1 hk0
            omega
          rw [hnone]; rfl
      · rcases snoc_get hj with ⟨_, hj⟩ | ⟨e, e2⟩
        · obtain ⟨k0, hk0, r⟩ := h.hit j n hj hn
          exact ⟨k0, List.mem_append_left _ hk0, r⟩
        · exact ⟨_, List.mem_append_right _ (List.mem_singleton.2 rfl), e2, x, by rw [e, hlen]; exact hx, hitK_iff.2 ⟨rfl, rfl⟩⟩
      · rcases snoc_get hj with ⟨_, hj⟩ | ⟨e, e2⟩
        · exact h.bad j y hj hy
        · omega
      · obtain ⟨k', hk', e1, y', hy', hhy⟩ := h.hit j a hj ha
        rw [hy] at hy'
        injection hy' with hy'
        subst hy'
        obtain ⟨f1, f2⟩ := hitK_iff.1 hhy
        have h1 := h.num1 hk'
        constructor
        · intro e; omega
        · rintro ⟨g1, g2⟩
          have := hno k' hk'
          rw [hitK_iff.2 ⟨f1.trans g2, f2.trans g1⟩] at this
          cases this
      · exfalso
        obtain ⟨a, ha⟩ : ∃ a, A[j]? = some a := ⟨A[j]'(by omega), List.getElem?_eq_getElem (by omega)⟩
        by_cases h0 : a = 0
        · subst h0
          have hcb := h.bad j y ha hy
          rw [fold_no hcb] at e2
          have := (cut_fold x.1).1
          rw [← e2, hcb, hb] at this
          cases this
        · obtain ⟨k', hk', _, y', hy', hhy⟩ := h.hit j a ha h0
          rw [hy] at hy'
          injection hy' with hy'
          subst hy'
          obtain ⟨f1, f2⟩ := hitK_iff.1 hhy
          have := hno k' hk'
          rw [hitK_iff.2 ⟨f1.trans e2, f2.trans e1⟩] at this
          cases this
/-- behind n tasks -/
def dropT (S : Tb) (n : Nat) : Tb := { S with L := S.L.drop n }
theorem OnI.done {Q : List (Bs × Int)} {N : Nat} {S : Tb} {A : List Nat} (h : OnI Q N S A) (n : Nat) : doneT (dropT S n) ((n : Int) + 1) = dropT S (n + 1) ∧ doneC (dropT S n) ((n : Int) + 1) = (idx A N (n + 1)).map oc := by
  have hrest : ∀ (m : Nat) k, (S.L.drop (n + 1))[m]? = some k → isK ((n : Int) + 1) k = false := by
    intro m k hk
    rw [List.getElem?_drop] at hk
    have := h.num _ k hk
    simp only [isK, decide_eq_false_iff_not]
    omega
  cases hk : S.L[n]? with
  | none =>
    have hn := List.getElem?_eq_none_iff.1 hk
    have e1 : S.L.drop n = [] := List.drop_eq_nil_of_le hn
    have e2 : S.L.drop (n + 1) = [] := List.drop_eq_nil_of_le (by omega)
    refine ⟨by simp [doneT, dropT, e1, e2], ?_⟩
    have hnone : idx A N (n + 1) = [] := by
      unfold idx
      rw [List.filter_eq_nil_iff]
      intro j hj
      simp only [beq_iff_eq]
      intro e
      obtain ⟨k0, hk0, e0, _⟩ := h.hit j _ e (by omega)
      have := h.num1 hk0
      have := h.lst
      omega
    rw [hnone]
    simp [doneC, dropT, e1]
  | some k =>
    obtain ⟨hn, hke⟩ := List.getElem?_eq_some_iff.1 hk
    have e1 : S.L.drop n = k :: S.L.drop (n + 1) := by rw [← hke]; exact List.drop_eq_getElem_cons hn
    have hnum := h.num n k hk
    have hK : isK ((n : Int) + 1) k = true := by simp only [isK, decide_eq_true_eq]; omega
    constructor
    · simp only [doneT, dropT, e1, List.filter_cons, hK]
      have : (S.L.drop (n + 1)).filter (fun k => !isK ((n : Int) + 1) k) = S.L.drop (n + 1) := by
        rw [List.filter_eq_self]
        intro k' hk'
        obtain ⟨m, hm⟩ := List.getElem?_of_mem hk'
        rw [hrest m k' hm]; rfl
      simp [this]
    · simp only [doneC, dropT, e1, List.find?_cons, hK]
      rw [h.cs k (mem_get hk), hnum]
theorem idx_mem {A : List Nat} {N n k j : Nat} (h : (idx A N n)[k]? = some j) : j < N ∧ A[j]? = some n := by
  have := mem_get h
  simp only [idx, List.mem_filter, List.mem_range, beq_iff_eq] at this
  exact this
theorem idx_up {A : List Nat} {N n k j j' : Nat} (h : (idx A N n)[k]? = some j) (h' : (idx A N n)[k + 1]? = some j') : j < j' := by
  have hp : (idx A N n).Pairwise (· < ·) := List.Pairwise.sublist List.filter_sublist List.pairwise_lt_range
  exact pw_get hp (Nat.lt_succ_self k) h h'
theorem idx_count (A : List Nat) (n : Nat) : ∀ i, i ≤ A.length → (idx A i n).length = (A.take i).countP (· == n)
  | 0, _ => rfl
  | i + 1, h => by
    have ih := idx_count A n i (by omega)
    have hg : A[i]? = some (A[i]'(by omega)) := List.getElem?_eq_getElem (by omega)
    unfold idx at *
    rw [List.range_succ, List.filter_append, List.length_append, ih, List.take_add_one, hg, List.countP_append]
    congr 1
    simp only [List.filter_cons, hg, Option.toList_some, List.countP_cons, List.countP_nil, List.filter_nil]
    by_cases e : A[i]'(by omega) = n
    · simp [e]
    · simp [e]
def tl (A : List Nat) (n : Nat) : Nat := A.countP fun a => decide (0 < a) && decide (a ≤ n)
theorem tl_zero (A : List Nat) : tl A 0 = 0 := by
  unfold tl
  rw [List.countP_eq_zero]
  intro a _
  simp; omega
theorem tl_succ (A : List Nat) (n : Nat) : tl A (n + 1) = tl A n + (idx A A.length (n + 1)).length := by
  rw [idx_count A _ _ (Nat.le_refl _), List.take_length]
  unfold tl
  induction A with
  | nil => rfl
  | cons a A ih =>
    simp only [List.countP_cons, ih]
    by_cases e : a = n + 1
    · subst e; simp [Nat.not_succ_le_self]; omega
    · by_cases e2 : a ≤ n
      · by_cases e3 : 0 < a
        · simp [e, e2, e3, Nat.le_succ_of_le e2]; omega
        · simp [e, e3]
      · have : ¬ a ≤ n + 1 := by omega
        simp [e, e2, this]
theorem OnI.all {Q : List (Bs × Int)} {N : Nat} {S : Tb} {A : List Nat} (h : OnI Q N S A) (hN : N ≤ 60) : tl A 60 = A.countP (fun a => decide (0 < a)) ∧ (dropT S 60).L = [] := by
  constructor
  · unfold tl
    apply List.countP_congr
    intro a ha
    obtain ⟨j, hj⟩ := List.getElem?_of_mem ha
    by_cases h0 : a = 0
    · simp [h0]
    · obtain ⟨k, hk, e, _⟩ := h.hit j a hj h0
      have := h.num1 hk
      have := h.le
      have h60 : a ≤ 60 := by omega
      simp [h60]
  · simp only [dropT]
    apply List.drop_eq_nil_of_le
    have := h.lst
    have := h.le
    omega
theorem dropT_zero (S : Tb) : dropT S 0 = S := by simp [dropT]
end Go.Proofs.Ytebnilkcpklnmaa
