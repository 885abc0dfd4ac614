/-
  Orders, plainly: bytes, texts, lists of labels, names; what stands between two names under a name.
-/
import Derived.Test.YtkkncnffkmopbaaFlP
import GoSem.Op.String
namespace Go.Proofs.Ytkkncnffkmopbaa
set_option linter.unusedSimpArgs false
set_option linter.unusedVariables false
/-- a comparison: -1, 0, 1 -/
structure Cmp3 {α : Type} (c : α → α → Int) : Prop where
  zero : ∀ a b, c a b = 0 ↔ a = b
  neg : ∀ a b, c b a = - c a b
  lt : ∀ a b d, c a b = -1 → c b d = -1 → c a d = -1
  one : ∀ a b, c a b = -1 ∨ c a b = 0 ∨ c a b = 1
theorem Cmp3.refl {α : Type} {c : α → α → Int} (h : Cmp3 c) (a : α) : c a a = 0 := (h.zero a a).2 rfl
theorem Cmp3.trans {α : Type} {c : α → α → Int} (h : Cmp3 c) {a b d : α} (h1 : c a b ≤ 0) (h2 : c b d ≤ 0) : c a d ≤ 0 := by
  rcases h.one a b with e | e | e
  · rcases h.one b d with f | f | f
    · have := h.lt a b d e f; omega
    · have := (h.zero b d).1 f; subst this; omega
    · omega
  · have := (h.zero a b).1 e; subst this; exact h2
  · omega
theorem Cmp3.eq {α : Type} {c : α → α → Int} (h : Cmp3 c) {a b : α} (h1 : c a b ≤ 0) (h2 : c b a ≤ 0) : a = b := by
  have := h.neg a b
  exact (h.zero a b).1 (by omega)
/-- lists, by their elements; the shorter one is ahead -/
def lexC {α : Type} (c : α → α → Int) : List α → List α → Int
  | [], [] => 0
  | [], _ :: _ => -1
  | _ :: _, [] => 1
  | x :: xs, y :: ys => if c x y = 0 then lexC c xs ys else c x y
theorem Cmp3.lex {α : Type} {c : α → α → Int} (h : Cmp3 c) : Cmp3 (lexC c) where
  zero := by
    intro a
    induction a with
    | nil => intro b; cases b <;> simp [lexC]
    | cons x xs ih =>
      intro b
      cases b with
      | nil => simp [lexC]
      | cons y ys =>
        simp only [lexC]
        split
        · rename_i e
          rw [ih, (h.zero x y).1 e]; simp
        · rename_i e
          constructor
          · intro h'; exact absurd h' e
          · intro h'; cases h'; exact absurd (h.refl x) e
  neg := by
    intro a
    induction a with
    | nil => intro b; cases b <;> simp [lexC]
    | cons x xs ih =>
      intro b
      cases b with
      | nil => simp [lexC]
      | cons y ys =>
        have e := h.neg x y
        simp only [lexC]
        by_cases h0 : c x y = 0
        · rw [if_pos h0, if_pos (by omega), ih]
        · rw [if_neg h0, if_neg (by omega), e]
  lt := by
    intro a
    induction a with
    | nil => intro b d h1 h2; cases b <;> cases d <;> simp_all [lexC]
    | cons x xs ih =>
      intro b d h1 h2
      cases b with
      | nil => simp [lexC] at h1
      | cons y ys =>
        cases d with
        | nil => simp [lexC] at h2
        | cons z zs =>
          simp only [lexC] at h1 h2 ⊢
          by_cases e1 : c x y = 0
          · have := (h.zero x y).1 e1; subst this
            rw [if_pos e1] at h1
            by_cases e2 : c x z = 0
            · rw [if_pos e2] at h2 ⊢; exact ih ys zs h1 h2
            · rw [if_neg e2] at h2 ⊢; exact h2
          · rw [if_neg e1] at h1
            by_cases e2 : c y z = 0
            · have := (h.zero y z).1 e2; subst this
              rw [if_neg e1]; exact h1
            · rw [if_neg e2] at h2
              have := h.lt x y z h1 h2
              rw [if_neg (by omega)]; exact this
  one := by
    intro a
    induction a with
    | nil => intro b; cases b <;> simp [lexC]
    | cons x xs ih =>
      intro b
      cases b with
      | nil => simp [lexC]
      | cons y ys =>
        simp only [lexC]
        split
        · exact ih ys
        · exact h.one x y
/-- what stands between two lists that begin so begins so -/
theorem Cmp3.between {α : Type} {c : α → α → Int} (h : Cmp3 c) : ∀ (p x y z : List α), lexC c x y ≤ 0 → lexC c y z ≤ 0 → p <+: x → p <+: z → p <+: y
  | [], _, _, _, _, _, _, _ => List.nil_prefix
  | q :: p, x, y, z, h1, h2, hx, hz => by
    obtain ⟨x', rfl⟩ := hx
    obtain ⟨z', rfl⟩ := hz
    cases y with
    | nil => simp [lexC] at h1
    | cons w y =>
      simp only [List.cons_append, lexC] at h1 h2
      have hq : q = w := by
        apply h.eq
        · by_cases e : c q w = 0
          · omega
          · rw [if_neg e] at h1; exact h1
        · by_cases e : c w q = 0
          · omega
          · rw [if_neg e] at h2; exact h2
      subst hq
      rw [if_pos (h.refl q)] at h1 h2
      exact List.cons_prefix_cons.2 ⟨rfl, h.between p (p ++ x') y (p ++ z') h1 h2 (List.prefix_append _ _) (List.prefix_append _ _)⟩
theorem lexC_more {α : Type} {c : α → α → Int} (h : Cmp3 c) : ∀ (l : List α) (x : α), lexC c l (l ++ [x]) = -1
  | [], _ => rfl
  | y :: l, x => by simp only [List.cons_append, lexC, if_pos (h.refl y)]; exact lexC_more h l x
def cmpU (a b : UInt8) : Int := if a < b then -1 else if b < a then 1 else 0
theorem cmpU_ok : Cmp3 cmpU where
  zero := by
    intro a b
    unfold cmpU
    simp only [UInt8.lt_iff_toNat_lt]
    constructor
    · intro h
      apply UInt8.toNat_inj.1
      split at h
      · cases h
      · split at h
        · cases h
        · omega
    · rintro rfl; simp
  neg := by
    intro a b
    unfold cmpU
    simp only [UInt8.lt_iff_toNat_lt]
    by_cases h1 : a.toNat < b.toNat
    · have h2 : ¬ b.toNat < a.toNat := by omega
      simp [h1, h2]
    · by_cases h2 : b.toNat < a.toNat
      · simp [h1, h2]
      · simp [h1, h2]
  lt := by
    intro a b d
    unfold cmpU
    simp only [UInt8.lt_iff_toNat_lt]
    intro h1 h2
    have g1 : a.toNat < b.toNat := by
      by_cases g : a.toNat < b.toNat
      · exact g
      · rw [if_neg g] at h1; split at h1 <;> cases h1
    have g2 : b.toNat < d.toNat := by
      by_cases g : b.toNat < d.toNat
      · exact g
      · rw [if_neg g] at h2; split at h2 <;> cases h2
    rw [if_pos (by omega)]
  one := by intro a b; unfold cmpU; split; simp; split <;> simp
/-- two texts, as Go orders them -/
def cmpS (a b : Bs) : Int := lexC cmpU a b
theorem cmpS_ok : Cmp3 cmpS := cmpU_ok.lex
theorem cmpS_cons (x y : UInt8) (xs ys : Bs) : cmpS (x :: xs) (y :: ys) = if cmpU x y = 0 then cmpS xs ys else cmpU x y := rfl
theorem less_iff : ∀ a b : Bs, Op.bytesLess a b = true ↔ cmpS a b = -1
  | [], [] => by simp [Op.bytesLess, cmpS, lexC]
  | [], _ :: _ => by simp [Op.bytesLess, cmpS, lexC]
  | _ :: _, [] => by simp [Op.bytesLess, cmpS, lexC]
  | x :: xs, y :: ys => by
    have ih := less_iff xs ys
    rw [cmpS_cons]
    simp only [Op.bytesLess, Bool.or_eq_true, Bool.and_eq_true, beq_iff_eq, decide_eq_true_eq]
    rw [ih]
    by_cases h : x = y
    · subst h
      have h1 : ¬ x < x := by simp [UInt8.lt_iff_toNat_lt]
      rw [if_pos (cmpU_ok.refl x)]
      simp [h1]
    · rw [if_neg (fun e => h ((cmpU_ok.zero x y).1 e))]
      unfold cmpU
      by_cases hl : x < y
      · simp [hl]
      · simp only [hl, h, false_and, or_false, if_false]; split <;> simp
theorem less_cmp (a b : Bs) : Op.bytesLess a b = decide (cmpS a b = -1) := by
  rw [Bool.eq_iff_iff, less_iff]; simp
/-- a name's labels from the last one on, folded -/
def trn (s : Bs) : List Bs := ((cutL s).map smS).reverse
theorem cutL_no {s : Bs} (h : cutB s = false) : cutL s = [] := by
  unfold cutB at h; unfold cutL
  cases hc : cutO s with
  | none => rfl
  | some l => rw [hc] at h; cases h
theorem cut_of {s : Bs} {l : List Bs} (h1 : s.length ≤ 254) (h2 : lab s = some l) : cutB s = true ∧ cutL s = l := by
  unfold cutB cutL cutO
  rw [if_neg (by omega), h2]; exact ⟨rfl, rfl⟩
theorem cut_fold (s : Bs) : cutB (fold s) = cutB s ∧ cutL (fold s) = (cutL s).map smS := by
  cases hb : cutB s with
  | false => rw [fold_no hb, cutL_no hb, hb]; exact ⟨rfl, rfl⟩
  | true =>
    obtain ⟨h1, h2⟩ := cut_lab hb
    obtain ⟨h3, h4⟩ := lab_jn s _ h2
    have hf : fold s = jn ((cutL s).map smS) := by rw [fold, hb, jn_smS _ h4, h3]; rfl
    have hl : (fold s).length ≤ 254 := by rw [fold, hb]; simpa [smS_len] using h1
    have h5 := jn_lab _ (smS_lbls _ h4)
    rw [← hf] at h5
    exact cut_of hl h5
theorem fold_len (s : Bs) : (fold s).length = s.length := by unfold fold; split; exact smS_len s; rfl
theorem fold_fold (s : Bs) : fold (fold s) = fold s := by
  cases hb : cutB s with
  | false => rw [fold_no hb, fold_no hb]
  | true => rw [fold, (cut_fold s).1, hb, fold, hb]; simp [smS_smS]
theorem trn_fold (s : Bs) : trn (fold s) = trn s := by
  unfold trn
  rw [(cut_fold s).2, List.map_map]
  congr 2
  funext x; exact smS_smS x
theorem trn_turn (s : Bs) : (cutL (fold s)).reverse = trn s := by rw [(cut_fold s).2]; rfl
/-- is n top, or below it? -/
def undB (n t : Bs) : Bool := cutB n && cutB t && (decide ((trn t).length ≤ (trn n).length) && ((trn n).take (trn t).length == trn t))
theorem undB_iff {n t : Bs} : undB n t = true ↔ cutB n = true ∧ cutB t = true ∧ trn t <+: trn n := by
  simp only [undB, Bool.and_eq_true, decide_eq_true_eq, beq_iff_eq]
  constructor
  · rintro ⟨⟨h1, h2⟩, h3, h4⟩
    exact ⟨h1, h2, by rw [← h4]; exact List.take_prefix _ _⟩
  · rintro ⟨h1, h2, h3⟩
    exact ⟨⟨h1, h2⟩, h3.length_le, (List.prefix_iff_eq_take.1 h3).symm⟩
def cmpN (a b : Bs) : Int := if cutB a then (if cutB b then lexC cmpS (trn a) (trn b) else 1) else (if cutB b then -1 else cmpS a b)
theorem cmpN_neg (a b : Bs) : cmpN b a = - cmpN a b := by
  unfold cmpN
  cases cutB a <;> cases cutB b
  · exact cmpS_ok.neg a b
  · rfl
  · rfl
  · exact cmpS_ok.lex.neg _ _
theorem cmpN_trans {a b d : Bs} (h1 : cmpN a b ≤ 0) (h2 : cmpN b d ≤ 0) : cmpN a d ≤ 0 := by
  unfold cmpN at h1 h2 ⊢
  cases ha : cutB a <;> cases hb : cutB b <;> cases hd : cutB d <;> simp only [ha, hb, hd, if_true, if_false, Bool.false_eq_true] at h1 h2 ⊢
  · exact cmpS_ok.trans h1 h2
  · omega
  · omega
  · omega
  · omega
  · omega
  · omega
  · exact cmpS_ok.lex.trans h1 h2
/-- names under a name stand together -/
theorem und_between {a b c t : Bs} (h1 : cmpN a b ≤ 0) (h2 : cmpN b c ≤ 0) (ha : undB a t = true) (hc : undB c t = true) : undB b t = true := by
  obtain ⟨a1, a2, a3⟩ := undB_iff.1 ha
  obtain ⟨c1, c2, c3⟩ := undB_iff.1 hc
  have hb : cutB b = true := by
    cases hb : cutB b
    · unfold cmpN at h1; rw [a1, hb] at h1; simp at h1
    · rfl
  unfold cmpN at h1 h2
  rw [a1, hb] at h1
  rw [hb, c1] at h2
  exact undB_iff.2 ⟨hb, a2, cmpS_ok.between _ _ _ _ h1 h2 a3 c3⟩
theorem cmpN_fold {n : Bs} (m : Bs) (h : cutB n = true) : cmpN (fold n) m = cmpN n m := by
  unfold cmpN; rw [(cut_fold n).1, h, trn_fold]
  cases cutB m <;> rfl
theorem cmpN_fold0 {n : Bs} (h : cutB n = true) : cmpN (fold n) n = 0 := by
  rw [cmpN_fold n h]; unfold cmpN; rw [h]; exact cmpS_ok.lex.refl _
theorem undB_fold1 (n m : Bs) : undB (fold n) m = undB n m := by unfold undB; rw [(cut_fold n).1, trn_fold]
theorem undB_fold2 (n m : Bs) : undB m (fold n) = undB m n := by unfold undB; rw [(cut_fold n).1, trn_fold]
/-- a name without its first label -/
theorem par_facts {k : UInt8} {t : Bs} (h : cutB (k :: t) = true) : okL k t = true ∧ cutB (t.drop k.toNat) = true ∧ cutL (k :: t) = t.take k.toNat :: cutL (t.drop k.toNat) := by
  obtain ⟨h1, h2⟩ := cut_lab h
  rw [lab_cons] at h2
  cases hok : okL k t with
  | false => rw [hok] at h2; cases h2
  | true =>
    rw [hok, if_pos rfl] at h2
    cases hl : lab (t.drop k.toNat) with
    | none => rw [hl] at h2; cases h2
    | some l =>
      rw [hl] at h2
      simp only [Option.map_some, Option.some.injEq] at h2
      obtain ⟨c1, c2⟩ := cut_of (s := t.drop k.toNat) (by simp only [List.length_cons] at h1; simp; omega) hl
      exact ⟨rfl, c1, by rw [c2, ← h2]⟩
theorem par_und {k : UInt8} {t : Bs} (h : cutB (k :: t) = true) : undB (k :: t) (t.drop k.toNat) = true ∧ undB (t.drop k.toNat) (k :: t) = false ∧ cmpN (t.drop k.toNat) (k :: t) = -1 := by
  obtain ⟨h1, h2, h3⟩ := par_facts h
  have ht : trn (k :: t) = trn (t.drop k.toNat) ++ [smS (t.take k.toNat)] := by unfold trn; rw [h3]; simp
  refine ⟨undB_iff.2 ⟨h, h2, by rw [ht]; exact List.prefix_append _ _⟩, ?_, ?_⟩
  · cases hu : undB (t.drop k.toNat) (k :: t)
    · rfl
    · have := (undB_iff.1 hu).2.2.length_le
      rw [ht] at this; simp at this; omega
  · unfold cmpN; rw [h, h2, ht]; exact lexC_more cmpS_ok _ _
/-- labels one behind the other -/
theorem joined {a b : Bs} (ha : cutB a = true) (hb : cutB b = true) : (jnB (cutL a ++ cutL b) = true ↔ (a ++ b).length ≤ 254) ∧ jn (cutL a ++ cutL b) = a ++ b := by
  obtain ⟨a1, a2⟩ := cut_lab ha
  obtain ⟨b1, b2⟩ := cut_lab hb
  obtain ⟨a3, a4⟩ := lab_jn a _ a2
  obtain ⟨b3, b4⟩ := lab_jn b _ b2
  have hj : jn (cutL a ++ cutL b) = a ++ b := by rw [jn_app, a3, b3]
  refine ⟨?_, hj⟩
  rw [jnB, hj, List.all_append, a4, b4]; simp
theorem joined_und {a b : Bs} (ha : cutB a = true) (hb : cutB b = true) (h : (a ++ b).length ≤ 254) : undB (a ++ b) b = true := by
  obtain ⟨a1, a2⟩ := cut_lab ha
  obtain ⟨b1, b2⟩ := cut_lab hb
  have hl : lab (a ++ b) = some (cutL a ++ cutL b) := by
    rw [← (joined ha hb).2]
    exact jn_lab _ (by rw [List.all_append, (lab_jn a _ a2).2, (lab_jn b _ b2).2]; rfl)
  obtain ⟨c1, c2⟩ := cut_of h hl
  exact undB_iff.2 ⟨c1, hb, by unfold trn; rw [c2, List.map_append, List.reverse_append]; exact List.prefix_append _ _⟩
end Go.Proofs.Ytkkncnffkmopbaa
