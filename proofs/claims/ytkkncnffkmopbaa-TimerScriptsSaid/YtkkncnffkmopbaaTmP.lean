/-
  Timers, plainly: a list in the order of times and names; what Set, Stop and Due make of it.
-/
import Derived.Test.YtkkncnffkmopbaaOrd
namespace Go.Proofs.Ytkkncnffkmopbaa
set_option linter.unusedSimpArgs false
set_option linter.unusedVariables false
structure Tm where
  n : Bs
  a : Int
def cmpI (a b : Int) : Int := if a < b then -1 else if b < a then 1 else 0
theorem cmpI_ok : Cmp3 cmpI where
  zero a b := by unfold cmpI; split <;> (try split) <;> omega
  neg a b := by unfold cmpI; split <;> split <;> (try split) <;> omega
  lt a b d := by
    intro h1 h2
    have g1 : a < b := by
      by_cases g : a < b
      · exact g
      · unfold cmpI at h1; rw [if_neg g] at h1; split at h1 <;> cases h1
    have g2 : b < d := by
      by_cases g : b < d
      · exact g
      · unfold cmpI at h2; rw [if_neg g] at h2; split at h2 <;> cases h2
    unfold cmpI; rw [if_pos (by omega)]
  one a b := by unfold cmpI; split; simp; split <;> simp
/-- by one comparison, then by the other one -/
def cmp2 {α : Type} (c d : α → α → Int) (x y : α) : Int := if c x y = 0 then d x y else c x y
theorem cmp2_ok {α β γ : Type} {c : β → β → Int} {d : γ → γ → Int} (hc : Cmp3 c) (hd : Cmp3 d) (f : α → β) (g : α → γ) (hi : ∀ x y, f x = f y → g x = g y → x = y) : Cmp3 (cmp2 (fun x y => c (f x) (f y)) (fun x y => d (g x) (g y))) where
  zero x y := by
    simp only [cmp2]
    by_cases h : c (f x) (f y) = 0
    · rw [if_pos h]
      exact ⟨fun h2 => hi _ _ ((hc.zero _ _).1 h) ((hd.zero _ _).1 h2), fun e => by subst e; exact hd.refl _⟩
    · rw [if_neg h]
      exact ⟨fun h2 => absurd h2 h, fun e => by subst e; exact absurd (hc.refl _) h⟩
  neg x y := by
    simp only [cmp2]
    have := hc.neg (f x) (f y)
    by_cases h : c (f x) (f y) = 0
    · rw [if_pos h, if_pos (by omega)]; exact hd.neg _ _
    · rw [if_neg h, if_neg (by omega)]; exact this
  lt x y z := by
    simp only [cmp2]
    intro h1 h2
    by_cases e1 : c (f x) (f y) = 0
    · rw [if_pos e1] at h1
      rw [(hc.zero _ _).1 e1]
      by_cases e2 : c (f y) (f z) = 0
      · rw [if_pos e2] at h2 ⊢
        exact hd.lt _ _ _ h1 h2
      · rw [if_neg e2] at h2 ⊢; exact h2
    · rw [if_neg e1] at h1
      by_cases e2 : c (f y) (f z) = 0
      · rw [← (hc.zero _ _).1 e2, if_neg e1]; exact h1
      · rw [if_neg e2] at h2
        have := hc.lt _ _ _ h1 h2
        rw [if_neg (by omega)]; exact this
  one x y := by
    simp only [cmp2]
    split
    · exact hd.one _ _
    · exact hc.one _ _
def cmpT : Tm → Tm → Int := cmp2 (fun x y => cmpI x.a y.a) (fun x y => cmpS x.n y.n)
theorem cmpT_ok : Cmp3 cmpT := cmp2_ok cmpI_ok cmpS_ok Tm.a Tm.n (fun x y h1 h2 => by cases x; cases y; simp at h1 h2; simp [h1, h2])
/-- is one due ahead of another one? -/
def aheadB (x y : Tm) : Bool := decide (x.a < y.a) || (decide (x.a = y.a) && Op.bytesLess x.n y.n)
theorem aheadB_iff (x y : Tm) : aheadB x y = true ↔ cmpT x y = -1 := by
  unfold aheadB cmpT cmp2
  rw [less_cmp]
  simp only [Bool.or_eq_true, Bool.and_eq_true, decide_eq_true_eq]
  by_cases h : x.a = y.a
  · have e : cmpI x.a y.a = 0 := (cmpI_ok.zero _ _).2 h
    rw [if_pos e]
    constructor
    · rintro (h1 | h1)
      · omega
      · exact h1.2
    · intro h1; exact .inr ⟨h, h1⟩
  · have e : ¬ cmpI x.a y.a = 0 := fun e => h ((cmpI_ok.zero _ _).1 e)
    rw [if_neg e]
    unfold cmpI
    by_cases h2 : x.a < y.a
    · simp [h2]
    · have : y.a < x.a := by omega
      simp [h2, this, h]
theorem aheadB_eq (x y : Tm) : aheadB x y = decide (cmpT x y = -1) := by rw [Bool.eq_iff_iff, aheadB_iff]; simp
/-- in their order, no name twice -/
def Srt (L : List Tm) : Prop := L.Pairwise (fun x y => cmpT x y = -1) ∧ L.Pairwise (fun x y => x.n ≠ y.n)
def hasL (L : List Tm) (x : Bs) : Bool := L.any (fun t => t.n == x)
def stopL (L : List Tm) (x : Bs) : List Tm := L.filter (fun t => !(t.n == x))
def insL (L : List Tm) (t : Tm) : List Tm := L.takeWhile (fun y => aheadB y t) ++ t :: L.dropWhile (fun y => aheadB y t)
def setL (L : List Tm) (x : Bs) (a : Int) : List Tm := insL (stopL L x) ⟨x, a⟩
def dueN (L : List Tm) (now : Int) : List Bs := (L.takeWhile (fun t => decide (t.a ≤ now))).map (·.n)
def dueL (L : List Tm) (now : Int) : List Tm := L.dropWhile (fun t => decide (t.a ≤ now))
def atT (L : List Tm) (x : Bs) : Int := match L.find? (fun t => t.n == x) with | some t => t.a | none => 0
theorem insL_perm (L : List Tm) (t : Tm) : (insL L t).Perm (t :: L) := by
  unfold insL
  conv => rhs; rw [← List.takeWhile_append_dropWhile (p := fun y => aheadB y t) (l := L)]
  exact List.perm_middle
theorem Srt.sub {L M : List Tm} (h : Srt L) (k : M.Sublist L) : Srt M := ⟨h.1.sublist k, h.2.sublist k⟩
theorem Srt.stop {L : List Tm} (h : Srt L) (x : Bs) : Srt (stopL L x) := h.sub List.filter_sublist
theorem pw_perm_ne {L M : List Tm} (h : L.Pairwise (fun x y => x.n ≠ y.n)) (k : L.Perm M) : M.Pairwise (fun x y => x.n ≠ y.n) := k.pairwise h (fun h => Ne.symm h)
theorem stopL_no {L : List Tm} {x : Bs} : ∀ t ∈ stopL L x, t.n ≠ x := fun t ht => by simpa [stopL] using (List.mem_filter.1 ht).2
theorem takeW {L : List Tm} {p : Tm → Bool} : ∀ {t}, t ∈ L.takeWhile p → p t = true := fun {t} ht => by
  induction L with
  | nil => simp at ht
  | cons y L ih =>
    rw [List.takeWhile_cons] at ht
    split at ht
    · rename_i hy
      rcases List.mem_cons.1 ht with rfl | ht
      · exact hy
      · exact ih ht
    · simp at ht
theorem dropW {L : List Tm} {t : Tm} (h : L.Pairwise (fun x y => cmpT x y = -1)) (hne : ∀ y ∈ L, y.n ≠ t.n) : ∀ y ∈ L.dropWhile (fun y => aheadB y t), cmpT t y = -1 := by
  induction L with
  | nil => intro y hy; simp at hy
  | cons z L ih =>
    intro y hy
    rw [List.dropWhile_cons] at hy
    split at hy
    · exact ih (List.pairwise_cons.1 h).2 (fun y hy => hne y (List.mem_cons_of_mem _ hy)) y hy
    · rename_i hz
      have h1 : cmpT t z = -1 := by
        rcases cmpT_ok.one t z with e | e | e
        · exact e
        · have := (cmpT_ok.zero t z).1 e; subst this; exact absurd rfl (hne _ (List.mem_cons_self ..))
        · have := cmpT_ok.neg t z
          exact absurd ((aheadB_iff z t).2 (by omega)) hz
      rcases List.mem_cons.1 hy with rfl | hy
      · exact h1
      · exact cmpT_ok.lt _ _ _ h1 ((List.pairwise_cons.1 h).1 y hy)
theorem Srt.ins {L : List Tm} (h : Srt L) {t : Tm} (hne : ∀ y ∈ L, y.n ≠ t.n) : Srt (insL L t) := by
  refine ⟨?_, pw_perm_ne (List.pairwise_cons.2 ⟨fun y hy e => hne y hy e.symm, h.2⟩) (insL_perm L t).symm⟩
  have hd := dropW h.1 hne
  have hp := h.1
  rw [← List.takeWhile_append_dropWhile (p := fun y => aheadB y t) (l := L), List.pairwise_append] at hp
  unfold insL
  rw [List.pairwise_append]
  refine ⟨hp.1, List.pairwise_cons.2 ⟨hd, hp.2.1⟩, fun x hx y hy => ?_⟩
  have hxt : cmpT x t = -1 := (aheadB_iff x t).1 (takeW (p := fun y => aheadB y t) hx)
  rcases List.mem_cons.1 hy with rfl | hy
  · exact hxt
  · exact hp.2.2 x hx y hy
theorem Srt.set {L : List Tm} (h : Srt L) (x : Bs) (a : Int) : Srt (setL L x a) := (h.stop x).ins (t := ⟨x, a⟩) stopL_no
theorem setL_perm (L : List Tm) (x : Bs) (a : Int) : (setL L x a).Perm (⟨x, a⟩ :: stopL L x) := insL_perm _ _
theorem cmpT_le {x y : Tm} (h : cmpT x y = -1) : x.a ≤ y.a := by
  have := (aheadB_iff x y).2 h
  simp only [aheadB, Bool.or_eq_true, Bool.and_eq_true, decide_eq_true_eq] at this
  omega
theorem due_filter {L : List Tm} (h : L.Pairwise (fun x y => cmpT x y = -1)) (now : Int) : L.takeWhile (fun t => decide (t.a ≤ now)) = L.filter (fun t => decide (t.a ≤ now)) ∧ dueL L now = L.filter (fun t => !decide (t.a ≤ now)) := by
  induction L with
  | nil => exact ⟨rfl, rfl⟩
  | cons y L ih =>
    obtain ⟨h1, h2⟩ := List.pairwise_cons.1 h
    obtain ⟨i1, i2⟩ := ih h2
    by_cases hy : y.a ≤ now
    · unfold dueL at i2 ⊢
      simp only [List.takeWhile_cons, List.dropWhile_cons, List.filter_cons, hy, decide_true, if_true, Bool.not_true, Bool.false_eq_true, if_false]
      exact ⟨by rw [i1], i2⟩
    · have hall : ∀ z ∈ L, ¬ z.a ≤ now := fun z hz hz2 => by have := cmpT_le (h1 z hz); omega
      unfold dueL
      simp only [List.takeWhile_cons, List.dropWhile_cons, List.filter_cons, hy, decide_false, if_true, Bool.not_false, Bool.false_eq_true, if_false]
      refine ⟨?_, ?_⟩
      · symm; rw [List.filter_eq_nil_iff]; intro z hz; simpa using hall z hz
      · congr 1; symm; rw [List.filter_eq_self]; intro z hz; simpa using hall z hz
theorem dueN_eq {L : List Tm} (h : Srt L) (now : Int) : dueN L now = (L.filter (fun t => decide (t.a ≤ now))).map (·.n) := by unfold dueN; rw [(due_filter h.1 now).1]
theorem Srt.due {L : List Tm} (h : Srt L) (now : Int) : Srt (dueL L now) := h.sub (List.dropWhile_sublist _)
/-! a name's time -/
theorem atT_mem {L : List Tm} (h : L.Pairwise (fun x y => x.n ≠ y.n)) {t : Tm} (ht : t ∈ L) : atT L t.n = t.a := by
  unfold atT
  induction L with
  | nil => simp at ht
  | cons y L ih =>
    obtain ⟨h1, h2⟩ := List.pairwise_cons.1 h
    rw [List.find?_cons]
    rcases List.mem_cons.1 ht with rfl | ht
    · simp
    · have : (y.n == t.n) = false := beq_eq_false_iff_ne.2 (h1 t ht)
      rw [this]; exact ih h2 ht
theorem atT_no {L : List Tm} {x : Bs} (h : ∀ t ∈ L, t.n ≠ x) : atT L x = 0 := by
  unfold atT
  have : L.find? (fun t => t.n == x) = none := by rw [List.find?_eq_none]; intro t ht; simpa using h t ht
  rw [this]
theorem atT_perm {L M : List Tm} (h : L.Pairwise (fun x y => x.n ≠ y.n)) (k : L.Perm M) (x : Bs) : atT M x = atT L x := by
  by_cases hx : ∃ t ∈ L, t.n = x
  · obtain ⟨t, ht, rfl⟩ := hx
    rw [atT_mem h ht, atT_mem (pw_perm_ne h k) (k.mem_iff.1 ht)]
  · have h1 : ∀ t ∈ L, t.n ≠ x := fun t ht e => hx ⟨t, ht, e⟩
    rw [atT_no h1, atT_no (fun t ht => h1 t (k.mem_iff.2 ht))]
theorem hasL_perm {L M : List Tm} (k : L.Perm M) (x : Bs) : hasL M x = hasL L x := k.symm.any_eq
theorem stopL_perm {L M : List Tm} (k : L.Perm M) (x : Bs) : (stopL L x).Perm (stopL M x) := k.filter _
/-- names by their times, then by themselves -/
def cfT (L : List Tm) : Bs → Bs → Int := cmp2 (fun x y => cmpI (atT L x) (atT L y)) (fun x y => cmpS x y)
theorem cfT_ok (L : List Tm) : Cmp3 (cfT L) := cmp2_ok cmpI_ok cmpS_ok (atT L) id (fun x y _ h => h)
theorem cfT_eq {L : List Tm} (h : L.Pairwise (fun x y => x.n ≠ y.n)) {x y : Tm} (hx : x ∈ L) (hy : y ∈ L) : cfT L x.n y.n = cmpT x y := by
  simp only [cfT, cmpT, cmp2]
  rw [atT_mem h hx, atT_mem h hy]
theorem cfT_perm {L M : List Tm} (h : L.Pairwise (fun x y => x.n ≠ y.n)) (k : L.Perm M) : cfT M = cfT L := by
  funext x y
  simp only [cfT, cmp2]
  rw [atT_perm h k, atT_perm h k]
/-- what is sorted so is the list's names in their order -/
theorem sorted_names {L : List Tm} (h : Srt L) (p : Tm → Bool) {ss : List Bs} (hp : ss.Perm ((L.filter p).map (·.n))) (hs : ss.Pairwise (fun x y => cfT L x y ≤ 0)) : ss = (L.filter p).map (·.n) := by
  have hc := cfT_ok L
  refine List.Perm.eq_of_pairwise (le := fun x y => cfT L x y ≤ 0) (fun a b _ _ h1 h2 => hc.eq h1 h2) hs ?_ hp
  rw [List.pairwise_map]
  have h1 : (L.filter p).Pairwise (fun x y => cmpT x y = -1) := h.1.sublist List.filter_sublist
  refine h1.imp_of_mem (fun {x y} hx hy e => ?_)
  rw [cfT_eq h.2 (List.mem_filter.1 hx).1 (List.mem_filter.1 hy).1, e]
  decide
/-- what is told goes -/
def goL (L : List Tm) (ns : List Bs) : List Tm := ns.foldl stopL L
theorem goL_cons (L : List Tm) (n : Bs) (ns : List Bs) : goL L (n :: ns) = goL (stopL L n) ns := rfl
theorem goL_app (L : List Tm) (ns ms : List Bs) : goL L (ns ++ ms) = goL (goL L ns) ms := List.foldl_append ..
theorem goL_filter (L : List Tm) (ns : List Bs) : goL L ns = L.filter (fun t => !ns.contains t.n) := by
  induction ns generalizing L with
  | nil => exact (List.filter_eq_self.2 (fun _ _ => rfl)).symm
  | cons n ns ih =>
    rw [goL_cons, ih, stopL, List.filter_filter]
    apply List.filter_congr
    intro t _
    simp only [List.contains_cons, Bool.not_or]
    rw [Bool.and_comm]
theorem goL_due {L : List Tm} (h : Srt L) (now : Int) : goL L (dueN L now) = dueL L now := by
  rw [goL_filter, (due_filter h.1 now).2, dueN_eq h]
  apply List.filter_congr
  intro t ht
  congr 1
  rw [Bool.eq_iff_iff]
  simp only [List.contains_iff_mem, List.mem_map, List.mem_filter, decide_eq_true_eq]
  constructor
  · rintro ⟨u, ⟨hu, hn⟩, e⟩
    have h1 := atT_mem h.2 hu
    rw [e, atT_mem h.2 ht] at h1
    omega
  · intro hn; exact ⟨t, ⟨ht, hn⟩, rfl⟩
theorem goL_perm {L M : List Tm} (k : L.Perm M) (ns : List Bs) : (goL L ns).Perm (goL M ns) := by
  rw [goL_filter, goL_filter]; exact k.filter _
end Go.Proofs.Ytkkncnffkmopbaa
