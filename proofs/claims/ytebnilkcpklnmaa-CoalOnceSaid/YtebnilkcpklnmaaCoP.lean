/-
  Tables of tasks, plainly: what is asked, what is done.
-/
import Derived.Test.YtebnilkcpklnmaaFlP
namespace Go.Proofs.Ytebnilkcpklnmaa
set_option linter.unusedSimpArgs false
set_option linter.unusedVariables false
structure Cl where
  node : Int
  id : Int
  nm : Bs
structure Tk where
  num : Nat
  q : Bs
  ty : Int
  cs : List Cl
structure Tb where
  room : Int
  most : Int
  last : Nat
  L : List Tk
def hitK (x : Bs) (ty : Int) (k : Tk) : Bool := decide (k.q = x) && decide (k.ty = ty)
def lookK (x : Bs) (ty : Int) : List Tk → Option (Nat × Tk)
  | [] => none
  | k :: l => if hitK x ty k then some (0, k) else (lookK x ty l).map fun p => (p.1 + 1, p.2)
theorem lookK_none {x : Bs} {ty : Int} : ∀ {L : List Tk}, lookK x ty L = none → ∀ k ∈ L, hitK x ty k = false
  | [], _, k, hk => by cases hk
  | a :: l, h, k, hk => by
    rw [lookK] at h
    cases ha : hitK x ty a with
    | true => rw [ha] at h; cases h
    | false =>
      rw [ha] at h
      simp only [Bool.false_eq_true, if_false, Option.map_eq_none_iff] at h
      rcases List.mem_cons.1 hk with rfl | hk
      · exact ha
      · exact lookK_none h k hk
theorem lookK_some {x : Bs} {ty : Int} : ∀ {L : List Tk} {i : Nat} {k : Tk}, lookK x ty L = some (i, k) → L[i]? = some k ∧ hitK x ty k = true ∧ ∀ j k', j < i → L[j]? = some k' → hitK x ty k' = false
  | [], i, k, h => by cases h
  | a :: l, i, k, h => by
    rw [lookK] at h
    cases ha : hitK x ty a with
    | true =>
      rw [ha] at h
      simp only [if_true, Option.some.injEq, Prod.mk.injEq] at h
      obtain ⟨rfl, rfl⟩ := h
      exact ⟨rfl, ha, fun j k' hj => by omega⟩
    | false =>
      rw [ha] at h
      simp only [Bool.false_eq_true, if_false, Option.map_eq_some_iff, Prod.mk.injEq] at h
      obtain ⟨⟨i', k'⟩, h1, rfl, rfl⟩ := h
      obtain ⟨r1, r2, r3⟩ := lookK_some h1
      refine ⟨r1, r2, fun j k'' hj hk => ?_⟩
      cases j with
      | zero => simp only [List.getElem?_cons_zero, Option.some.injEq] at hk; subst hk; exact ha
      | succ j => exact r3 j k'' (by omega) (by simpa using hk)
theorem hitK_iff {x : Bs} {ty : Int} {k : Tk} : hitK x ty k = true ↔ k.q = x ∧ k.ty = ty := by simp [hitK]
def okQ (q : Bs) (c : Cl) : Bool := cutB q && cutB c.nm
def Tk.add (k : Tk) (c : Cl) : Tk := { k with cs := k.cs ++ [c] }
/-- what a table answers, and the table behind it -/
def ask (s : Tb) (q : Bs) (ty : Int) (c : Cl) : (Int × Bool × Int) × Tb :=
  if okQ q c then
    match lookK (fold q) ty s.L with
    | some (i, k) => if s.most ≤ k.cs.length then ((0, false, 4), s) else ((k.num, false, 0), { s with L := s.L.set i (k.add c) })
    | none => if s.room ≤ s.L.length then ((0, false, 4), s) else (((s.last + 1 : Nat), true, 0), { s with last := s.last + 1, L := s.L ++ [⟨s.last + 1, fold q, ty, [c]⟩] })
  else ((0, false, 1), s)
def isK (n : Int) (k : Tk) : Bool := decide ((k.num : Int) = n)
def waits (s : Tb) (n : Int) : Int := match s.L.find? (isK n) with | some k => k.cs.length | none => 0
def doneC (s : Tb) (n : Int) : List Cl := match s.L.find? (isK n) with | some k => k.cs | none => []
def doneB (s : Tb) (n : Int) : Bool := (s.L.find? (isK n)).isSome
def doneT (s : Tb) (n : Int) : Tb := { s with L := s.L.filter fun k => !isK n k }
structure Tb.ok (s : Tb) : Prop where
  r1 : 1 ≤ s.room
  r2 : s.room ≤ 100
  m1 : 1 ≤ s.most
  m2 : s.most ≤ 100
  len : (s.L.length : Int) ≤ s.room
  cs : ∀ k ∈ s.L, (k.cs.length : Int) ≤ s.most
  num : ∀ k ∈ s.L, 1 ≤ k.num ∧ k.num ≤ s.last
  asc : s.L.Pairwise fun a b => a.num < b.num
  one : s.L.Pairwise fun a b => hitK a.q a.ty b = false

theorem pw_set {α : Type} {R : α → α → Prop} {l : List α} (h : l.Pairwise R) {i : Nat} {x : α} (hi : i < l.length) (h1 : ∀ j a, j < i → l[j]? = some a → R a x) (h2 : ∀ j a, i < j → l[j]? = some a → R x a) : (l.set i x).Pairwise R := by
  rw [List.pairwise_iff_getElem] at h ⊢
  intro a b ha hb hab
  simp only [List.length_set] at ha hb
  rw [List.getElem_set, List.getElem_set]
  split
  · rename_i e
    rw [if_neg (by omega)]
    exact h2 b _ (by omega) (List.getElem?_eq_getElem hb)
  · split
    · rename_i e
      exact h1 a _ (by omega) (List.getElem?_eq_getElem ha)
    · exact h a b ha hb hab
theorem pw_get {α : Type} {R : α → α → Prop} {l : List α} (h : l.Pairwise R) {i j : Nat} {a b : α} (hij : i < j) (ha : l[i]? = some a) (hb : l[j]? = some b) : R a b := by
  rw [List.pairwise_iff_getElem] at h
  obtain ⟨hi, rfl⟩ := List.getElem?_eq_some_iff.1 ha
  obtain ⟨hj, rfl⟩ := List.getElem?_eq_some_iff.1 hb
  exact h i j hi hj hij
theorem mem_get {α : Type} {l : List α} {i : Nat} {a : α} (h : l[i]? = some a) : a ∈ l := List.mem_of_getElem? h
theorem get_lt {α : Type} {l : List α} {i : Nat} {a : α} (h : l[i]? = some a) : i < l.length := (List.getElem?_eq_some_iff.1 h).1

theorem Tb.ok.set {s : Tb} (h : s.ok) {i : Nat} {k : Tk} (hk : s.L[i]? = some k) {c : Cl} (hm : (k.cs.length : Int) < s.most) : Tb.ok { s with L := s.L.set i (k.add c) } where
  r1 := h.r1
  r2 := h.r2
  m1 := h.m1
  m2 := h.m2
  len := by simpa using h.len
  cs := fun a ha => by
    rcases List.mem_or_eq_of_mem_set ha with ha | rfl
    · exact h.cs a ha
    · simp [Tk.add]; omega
  num := fun a ha => by
    rcases List.mem_or_eq_of_mem_set ha with ha | rfl
    · exact h.num a ha
    · exact h.num k (mem_get hk)
  asc := pw_set h.asc (get_lt hk) (fun j a hj ha => by have := pw_get h.asc hj ha hk; exact this) (fun j a hj ha => by have := pw_get h.asc hj hk ha; exact this)
  one := pw_set h.one (get_lt hk) (fun j a hj ha => by have := pw_get h.one hj ha hk; exact this) (fun j a hj ha => by have := pw_get h.one hj hk ha; exact this)
theorem Tb.ok.new {s : Tb} (h : s.ok) {x : Bs} {ty : Int} (hn : lookK x ty s.L = none) {c : Cl} (hm : (s.L.length : Int) < s.room) : Tb.ok { s with last := s.last + 1, L := s.L ++ [⟨s.last + 1, x, ty, [c]⟩] } where
  r1 := h.r1
  r2 := h.r2
  m1 := h.m1
  m2 := h.m2
  len := by simp; omega
  cs := fun a ha => by
    rcases List.mem_append.1 ha with ha | ha
    · exact h.cs a ha
    · rw [List.mem_singleton.1 ha]; have := h.m1; simp; omega
  num := fun a ha => by
    rcases List.mem_append.1 ha with ha | ha
    · have := h.num a ha; exact ⟨this.1, by simp; omega⟩
    · rw [List.mem_singleton.1 ha]; simp
  asc := by
    rw [List.pairwise_append]
    refine ⟨h.asc, List.pairwise_singleton _ _, fun a ha b hb => ?_⟩
    rw [List.mem_singleton.1 hb]
    have := h.num a ha
    simp; omega
  one := by
    rw [List.pairwise_append]
    refine ⟨h.one, List.pairwise_singleton _ _, fun a ha b hb => ?_⟩
    rw [List.mem_singleton.1 hb]
    have := lookK_none hn a ha
    cases e : hitK a.q a.ty ⟨s.last + 1, x, ty, [c]⟩ with
    | false => rfl
    | true =>
      obtain ⟨e1, e2⟩ := hitK_iff.1 e
      rw [hitK_iff.2 ⟨e1.symm, e2.symm⟩] at this
      cases this
theorem Tb.ok.done {s : Tb} (h : s.ok) (n : Int) : (doneT s n).ok where
  r1 := h.r1
  r2 := h.r2
  m1 := h.m1
  m2 := h.m2
  len := by have := h.len; have := List.length_filter_le (fun k => !isK n k) s.L; simp only [doneT]; omega
  cs := fun a ha => h.cs a (List.mem_filter.1 ha).1
  num := fun a ha => h.num a (List.mem_filter.1 ha).1
  asc := h.asc.sublist List.filter_sublist
  one := h.one.sublist List.filter_sublist
theorem Tb.ok.ask {s : Tb} (h : s.ok) (q : Bs) (ty : Int) (c : Cl) : (ask s q ty c).2.ok := by
  unfold Go.Proofs.Ytebnilkcpklnmaa.ask
  split
  · split
    · rename_i i k hk
      split
      · exact h
      · exact h.set (lookK_some hk).1 (by omega)
    · rename_i hk
      split
      · exact h
      · exact h.new hk (by omega)
  · exact h
theorem Tb.ok.empty {room most : Int} (h1 : 1 ≤ room) (h2 : room ≤ 100) (h3 : 1 ≤ most) (h4 : most ≤ 100) : Tb.ok ⟨room, most, 0, []⟩ :=
  ⟨h1, h2, h3, h4, by simp; omega, by simp, by simp, List.Pairwise.nil, List.Pairwise.nil⟩
theorem ask_last (s : Tb) (q : Bs) (ty : Int) (c : Cl) : (ask s q ty c).2.last ≤ s.last + 1 := by
  unfold ask
  split
  · split
    · split <;> simp
    · split <;> simp
  · simp
end Go.Proofs.Ytebnilkcpklnmaa
