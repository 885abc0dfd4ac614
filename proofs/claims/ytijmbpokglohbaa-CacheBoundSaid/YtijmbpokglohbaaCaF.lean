/-
  The cache in plain words: what Put and Get leave; plain laws.
-/
import Derived.Test.YtijmbpokglohbaaCaD
namespace Go.Proofs.Ytijmbpokglohbaa
open Go.RowKit Go.Maps
set_option linter.unusedSimpArgs false
set_option linter.unusedVariables false
variable {B : Nat}
/-- the cache, plain -/
structure CS where
  room : Int
  most : Int
  N : Int
  L : List CE
def isK (nm : Bs) (ty : Int) (e : CE) : Bool := e.nm == nm && decide (e.ty = ty)
def dropK (L : List CE) (nm : Bs) (ty : Int) : List CE := L.filter fun e => !isK nm ty e
def overL (L : List CE) (now : Int) : List CE := L.filter fun e => !decide (e.en ≤ now)
def oldB (L : List CE) (e : CE) : Bool := L.all fun f => decide (e.us ≤ f.us)
def dropO (L : List CE) : List CE := L.filter fun e => !oldB L e
def clearL (room : Int) (L : List CE) (now : Int) : List CE := if ((overL L now).length : Int) < room then overL L now else dropO (overL L now)
def roomed (room : Int) (L : List CE) (now : Int) : List CE := if (L.length : Int) < room then L else clearL room L now
def newC (s : St) (rk now most N : Int) : CE := ⟨s.nm, s.ty, s.tl, s.dt, rk, now + min s.tl most, N + 1⟩
def putB (s : St) (rk now : Int) : Bool := mayS s && ((decide (1 ≤ rk) && decide (rk ≤ 5)) && (decide (0 ≤ now) && decide (now ≤ 1099511627776)))
def denyB (L : List CE) (s : St) (rk now : Int) : Bool := (L.find? (isK s.nm s.ty)).any fun e => decide (now < e.en) && decide (rk < e.rk)
def putZ (c : CS) (s : St) (rk now : Int) : CS :=
  if s.tl = 0 then { c with L := dropK c.L s.nm s.ty } else { c with N := c.N + 1, L := roomed c.room (dropK c.L s.nm s.ty) now ++ [newC s rk now c.most c.N] }
def putI (c : CS) (s : St) (rk now : Int) : Int := if putB s rk now then (if denyB c.L s rk now then 9 else 0) else 1
def putS (c : CS) (s : St) (rk now : Int) : CS := if putB s rk now then (if denyB c.L s rk now then c else putZ c s rk now) else c
def hitB (c : CS) (nm : Bs) (ty now : Int) : Option CE := if 0 ≤ now ∧ now ≤ 1099511627776 then (c.L.find? (isK (fold nm) ty)).filter (fun e => decide (now < e.en)) else none
def bumpE (nm : Bs) (ty N : Int) (e : CE) : CE := if isK nm ty e then { e with us := N + 1 } else e
def bumpC (c : CS) (nm : Bs) (ty : Int) : CS := { c with N := c.N + 1, L := c.L.map (bumpE nm ty c.N) }
def getS (c : CS) (nm : Bs) (ty now : Int) : CS := if (hitB c nm ty now).isSome then bumpC c (fold nm) ty else c
structure EOk (N : Int) (e : CE) : Prop where
  may : mayS e.st = true
  nl : e.nm.length ≤ 300
  dl : e.dt.length ≤ 12
  dd : ∀ d ∈ e.dt, d.length ≤ 300
  r : 1 ≤ e.rk ∧ e.rk ≤ 5
  x : 0 ≤ e.en ∧ e.en ≤ 1101659111423
  u : 1 ≤ e.us ∧ e.us ≤ N
def KNe (L : List CE) : Prop := L.Pairwise fun a b => ¬ (a.nm = b.nm ∧ a.ty = b.ty)
def UNe (L : List CE) : Prop := L.Pairwise fun a b => a.us ≠ b.us
structure COk (c : CS) : Prop where
  r1 : 1 ≤ c.room
  r2 : c.room ≤ 200
  m1 : 1 ≤ c.most
  m2 : c.most ≤ 2147483647
  len : (c.L.length : Int) ≤ c.room
  n0 : 0 ≤ c.N
  ent : ∀ e ∈ c.L, EOk c.N e
  keys : KNe c.L
  uss : UNe c.L
theorem isK_iff {nm : Bs} {ty : Int} {e : CE} : isK nm ty e = true ↔ e.nm = nm ∧ e.ty = ty := by
  unfold isK
  rw [Bool.and_eq_true, beq_iff_eq, decide_eq_true_eq]
theorem may_num {s : St} (h : mayS s = true) : fold s.nm = s.nm ∧ 1 ≤ s.dt.length ∧ s.dt.length ≤ 20 ∧ 1 ≤ s.ty ∧ s.ty ≤ 65535 ∧ 0 ≤ s.tl ∧ s.tl ≤ 2147483647 := by
  simp only [mayS, Bool.and_eq_true, beq_iff_eq, decide_eq_true_eq] at h
  obtain ⟨h1, h2, h3, h4⟩ := h
  refine ⟨h1, h2, h3, ?_⟩
  obtain ⟨nm, ty, tl, dt⟩ := s
  cases dt with
  | nil => simp at h2
  | cons d l =>
    simp only [datOk, Bool.and_eq_true, decide_eq_true_eq] at h4
    have h5 := h4.1
    by_cases hk : kindB ty = true ∧ ttlB tl = true ∧ dataB ty d = true
    · have a := hk.1
      have b := hk.2.1
      simp only [kindB, decide_eq_true_eq] at a
      simp only [ttlB, decide_eq_true_eq] at b
      exact ⟨a.1, a.2.1, b.1, b.2⟩
    · rw [recC, if_neg hk] at h5
      omega
theorem recC_ttl {nm : Bs} {ty tl tl' : Int} {d : Bs} (h : recC nm ty tl d = 0) (h0 : 0 ≤ tl') (h1 : tl' ≤ 2147483647) : recC nm ty tl' d = 0 := by
  by_cases hk : kindB ty = true ∧ ttlB tl = true ∧ dataB ty d = true
  · rw [recC, if_pos hk] at h
    rw [recC, if_pos ⟨hk.1, by simp [ttlB, h0, h1], hk.2.2⟩]
    exact h
  · rw [recC, if_neg hk] at h; omega
theorem datOk_ttl {nm : Bs} {ty tl tl' : Int} (h0 : 0 ≤ tl') (h1 : tl' ≤ 2147483647) : ∀ {l : List Bs} {p : Option Bs}, datOk nm ty tl p l = true → datOk nm ty tl' p l = true
  | [], _, _ => rfl
  | d :: l, p, h => by
    simp only [datOk, Bool.and_eq_true, decide_eq_true_eq] at h ⊢
    exact ⟨recC_ttl h.1 h0 h1, h.2.1, datOk_ttl h0 h1 h.2.2⟩
theorem may_ttl {s : St} (h : mayS s = true) {tl' : Int} (h0 : 0 ≤ tl') (h1 : tl' ≤ 2147483647) : mayS ⟨s.nm, s.ty, tl', s.dt⟩ = true := by
  simp only [mayS, Bool.and_eq_true, beq_iff_eq, decide_eq_true_eq] at h ⊢
  exact ⟨h.1, h.2.1, h.2.2.1, datOk_ttl h0 h1 h.2.2.2⟩
theorem EOk.kok {N : Int} {e : CE} (h : EOk N e) : KOk e.nm e.ty := by
  have a := may_num h.may
  have b := h.nl
  simp only [CE.st] at a
  refine ⟨by unfold maxLen; omega, ?_⟩
  simp only [Lit.wf, Bool.and_eq_true, decide_eq_true_eq]
  have h1 : (IntKind.i64.min : Int) = -9223372036854775808 := by decide
  have h2 : (IntKind.i64.max : Int) = 9223372036854775807 := by decide
  omega
theorem filter_one {α : Type} (p : α → Bool) : ∀ {L : List α} {i : Nat} {x : α}, L[i]? = some x → p x = true → (∀ j y, L[j]? = some y → p y = true → j = i) → L.filter (fun y => !p y) = L.take i ++ L.drop (i + 1)
  | [], i, x, hi, _, _ => by simp at hi
  | a :: L, 0, x, hi, hp, h => by
    simp only [List.getElem?_cons_zero, Option.some.injEq] at hi
    subst hi
    rw [List.filter_cons_of_neg (by simp [hp])]
    simp only [List.take_zero, List.nil_append, List.drop_succ_cons, List.drop_zero]
    rw [List.filter_eq_self]
    intro y hy
    obtain ⟨j, hj⟩ := List.mem_iff_getElem?.1 hy
    cases hpy : p y
    · rfl
    · have := h (j + 1) y (by simpa using hj) hpy
      omega
  | a :: L, i + 1, x, hi, hp, h => by
    have ha : p a = false := by
      cases hpa : p a
      · rfl
      · have := h 0 a rfl hpa; omega
    rw [List.filter_cons_of_pos (by simp [ha])]
    have ih := filter_one p (L := L) (i := i) (x := x) (by simpa using hi) hp (fun j y hj hpy => by
      have := h (j + 1) y (by simpa using hj) hpy; omega)
    rw [ih]; rfl
theorem kne_get {L : List CE} (h : KNe L) : ∀ {i j : Nat} {a b : CE}, L[i]? = some a → L[j]? = some b → a.nm = b.nm → a.ty = b.ty → i = j := by
  intro i j a b hi hj h1 h2
  obtain ⟨li, rfl⟩ := List.getElem?_eq_some_iff.1 hi
  obtain ⟨lj, rfl⟩ := List.getElem?_eq_some_iff.1 hj
  rcases Nat.lt_trichotomy i j with hlt | he | hgt
  · exact absurd ⟨h1, h2⟩ (List.pairwise_iff_getElem.1 h i j li lj hlt)
  · exact he
  · exact absurd ⟨h1.symm, h2.symm⟩ (List.pairwise_iff_getElem.1 h j i lj li hgt)
theorem une_get {L : List CE} (h : UNe L) : ∀ {i j : Nat} {a b : CE}, L[i]? = some a → L[j]? = some b → a.us = b.us → i = j := by
  intro i j a b hi hj h1
  obtain ⟨li, rfl⟩ := List.getElem?_eq_some_iff.1 hi
  obtain ⟨lj, rfl⟩ := List.getElem?_eq_some_iff.1 hj
  rcases Nat.lt_trichotomy i j with hlt | he | hgt
  · exact absurd h1 (List.pairwise_iff_getElem.1 h i j li lj hlt)
  · exact he
  · exact absurd h1.symm (List.pairwise_iff_getElem.1 h j i lj li hgt)
theorem dropK_at {L : List CE} (h : KNe L) {i : Nat} {e : CE} (hi : L[i]? = some e) {nm : Bs} {ty : Int} (hk : isK nm ty e = true) : dropK L nm ty = L.take i ++ L.drop (i + 1) := by
  refine filter_one _ hi hk fun j y hj hy => ?_
  rw [isK_iff] at hk hy
  exact kne_get h hj hi (hy.1.trans hk.1.symm) (hy.2.trans hk.2.symm)
theorem dropO_at {L : List CE} (h : UNe L) {i : Nat} {e : CE} (hi : L[i]? = some e) (hk : ∀ f ∈ L, e.us ≤ f.us) : dropO L = L.take i ++ L.drop (i + 1) := by
  refine filter_one _ hi (by simpa [oldB] using hk) fun j y hj hy => ?_
  simp only [oldB, List.all_eq_true, decide_eq_true_eq] at hy
  have h1 := hy e (List.mem_of_getElem? hi)
  have h2 := hk y (List.mem_of_getElem? hj)
  exact une_get h hj hi (by omega)
theorem dropO_key {L : List CE} (h : UNe L) (hn : KNe L) {e : CE} (he : e ∈ L) (hk : ∀ f ∈ L, e.us ≤ f.us) : dropO L = dropK L e.nm e.ty := by
  obtain ⟨i, hi⟩ := List.mem_iff_getElem?.1 he
  rw [dropO_at h hi hk, dropK_at hn hi (isK_iff.2 ⟨rfl, rfl⟩)]
theorem dropK_sub (L : List CE) (nm : Bs) (ty : Int) : (dropK L nm ty).Sublist L := List.filter_sublist
theorem overL_sub (L : List CE) (now : Int) : (overL L now).Sublist L := List.filter_sublist
theorem dropO_sub (L : List CE) : (dropO L).Sublist L := List.filter_sublist
theorem clearL_sub (room : Int) (L : List CE) (now : Int) : (clearL room L now).Sublist L := by
  unfold clearL
  split
  · exact overL_sub L now
  · exact (dropO_sub _).trans (overL_sub L now)
theorem roomed_sub (room : Int) (L : List CE) (now : Int) : (roomed room L now).Sublist L := by
  unfold roomed
  split
  · exact List.Sublist.refl _
  · exact clearL_sub room L now
theorem oldest_is : ∀ {L : List CE}, L ≠ [] → ∃ e ∈ L, ∀ f ∈ L, e.us ≤ f.us
  | [], h => absurd rfl h
  | [a], _ => ⟨a, by simp, by simp⟩
  | a :: b :: L, _ => by
    obtain ⟨e, he, hm⟩ := oldest_is (L := b :: L) (by simp)
    by_cases h : a.us ≤ e.us
    · exact ⟨a, by simp, fun f hf => by
        rcases List.mem_cons.1 hf with rfl | hf
        · exact Int.le_refl _
        · exact Int.le_trans h (hm f hf)⟩
    · exact ⟨e, List.mem_cons_of_mem _ he, fun f hf => by
        rcases List.mem_cons.1 hf with rfl | hf
        · omega
        · exact hm f hf⟩
theorem dropO_len {L : List CE} (h : UNe L) (h0 : L ≠ []) : (dropO L).length + 1 = L.length := by
  obtain ⟨e, he, hm⟩ := oldest_is h0
  obtain ⟨i, hi⟩ := List.mem_iff_getElem?.1 he
  rw [dropO_at h hi hm]
  have := (List.getElem?_eq_some_iff.1 hi).1
  rw [List.length_append, List.length_take, List.length_drop]
  omega
theorem UNe.sub {L M : List CE} (h : UNe L) (k : M.Sublist L) : UNe M := List.Pairwise.sublist k h
theorem KNe.sub {L M : List CE} (h : KNe L) (k : M.Sublist L) : KNe M := List.Pairwise.sublist k h
theorem roomed_len {room : Int} {L : List CE} {now : Int} (h1 : 1 ≤ room) (hl : (L.length : Int) ≤ room) (h : UNe L) : ((roomed room L now).length : Int) < room := by
  unfold roomed clearL
  split
  · assumption
  · split
    · assumption
    · rename_i k1 k2
      have h0 : overL L now ≠ [] := fun e => by rw [e] at k2; simp at k2; omega
      have := dropO_len (h.sub (overL_sub L now)) h0
      have := (overL_sub L now).length_le
      omega
theorem find_dropK {L : List CE} {nm : Bs} {ty : Int} : ∀ e ∈ dropK L nm ty, ¬ (e.nm = nm ∧ e.ty = ty) := by
  intro e he h
  have := (List.mem_filter.1 he).2
  rw [isK_iff.2 h] at this
  simp at this
theorem EOk.mono {N N' : Int} {e : CE} (h : EOk N e) (k : N ≤ N') : EOk N' e := ⟨h.may, h.nl, h.dl, h.dd, h.r, h.x, h.u.1, by have := h.u.2; omega⟩
theorem fewS_num {s : St} (h : fewS s = true) : s.dt.length ≤ 12 ∧ s.nm.length ≤ 300 ∧ ∀ d ∈ s.dt, d.length ≤ 300 := by
  simp only [fewS, Bool.and_eq_true, decide_eq_true_eq, List.all_eq_true] at h
  exact h
theorem putZ_ok {c : CS} (h : COk c) {s : St} (hf : fewS s = true) {rk now : Int} (hb : putB s rk now = true) : COk (putZ c s rk now) := by
  obtain ⟨f1, f2, f3⟩ := fewS_num hf
  simp only [putB, Bool.and_eq_true, decide_eq_true_eq] at hb
  obtain ⟨b1, ⟨b2, b3⟩, b4, b5⟩ := hb
  have hm := may_num b1
  have hs1 := dropK_sub c.L s.nm s.ty
  have hs2 := (roomed_sub c.room (dropK c.L s.nm s.ty) now)
  have hs := hs2.trans hs1
  have hl1 : ((dropK c.L s.nm s.ty).length : Int) ≤ c.room := by have := hs1.length_le; have := h.len; omega
  have hm1 := h.m1
  have hm2 := h.m2
  have hn0 := h.n0
  unfold putZ
  split
  · exact ⟨h.r1, h.r2, h.m1, h.m2, hl1, h.n0, fun e he => h.ent e (hs1.subset he), h.keys.sub hs1, h.uss.sub hs1⟩
  · rename_i ht
    have hlen := roomed_len (now := now) h.r1 hl1 (h.uss.sub hs1)
    refine ⟨h.r1, h.r2, h.m1, h.m2, ?_, by show 0 ≤ c.N + 1; omega, ?_, ?_, ?_⟩
    · simp only [List.length_append, List.length_cons, List.length_nil]
      omega
    · intro e he
      rcases List.mem_append.1 he with he | he
      · exact (h.ent e (hs.subset he)).mono (by show c.N ≤ c.N + 1; omega)
      · rw [List.mem_singleton.1 he]
        exact ⟨b1, f2, f1, f3, ⟨b2, b3⟩, by simp only [newC]; omega, by simp only [newC]; omega⟩
    · refine List.pairwise_append.2 ⟨h.keys.sub hs, List.pairwise_singleton _ _, fun a ha b hb => ?_⟩
      rw [List.mem_singleton.1 hb]
      exact find_dropK a (hs2.subset ha)
    · refine List.pairwise_append.2 ⟨h.uss.sub hs, List.pairwise_singleton _ _, fun a ha b hb => ?_⟩
      rw [List.mem_singleton.1 hb]
      have := (h.ent a (hs.subset ha)).u.2
      simp only [newC]
      omega
theorem putS_ok {c : CS} (h : COk c) {s : St} (hf : fewS s = true) {rk now : Int} : COk (putS c s rk now) := by
  unfold putS
  split
  · rename_i hb
    split
    · exact h
    · exact putZ_ok h hf hb
  · exact h
theorem bumpE_nm (nm : Bs) (ty N : Int) (e : CE) : (bumpE nm ty N e).nm = e.nm ∧ (bumpE nm ty N e).ty = e.ty := by
  unfold bumpE; split <;> exact ⟨rfl, rfl⟩
theorem bumpC_ok {c : CS} (h : COk c) (nm : Bs) (ty : Int) : COk (bumpC c nm ty) := by
  have hn0 := h.n0
  refine ⟨h.r1, h.r2, h.m1, h.m2, by simpa [bumpC] using h.len, by show 0 ≤ c.N + 1; omega, ?_, ?_, ?_⟩
  · intro e he
    obtain ⟨x, hx, rfl⟩ := List.mem_map.1 he
    have k := h.ent x hx
    show EOk (c.N + 1) _
    unfold bumpE
    split
    · exact ⟨k.may, k.nl, k.dl, k.dd, k.r, k.x, by show 1 ≤ c.N + 1; omega, Int.le_refl _⟩
    · exact k.mono (by omega)
  · show KNe (c.L.map _)
    unfold KNe
    rw [List.pairwise_map]
    refine h.keys.imp fun {a b} hab => ?_
    rw [(bumpE_nm nm ty c.N a).1, (bumpE_nm nm ty c.N a).2, (bumpE_nm nm ty c.N b).1, (bumpE_nm nm ty c.N b).2]
    exact hab
  · show UNe (c.L.map _)
    unfold UNe
    rw [List.pairwise_map]
    have h2 : c.L.Pairwise fun a b => a.us ≠ b.us ∧ ¬ (a.nm = b.nm ∧ a.ty = b.ty) := h.uss.and h.keys
    refine List.Pairwise.imp_of_mem (fun {a b} ha hb hab => ?_) h2
    obtain ⟨hu, hk⟩ := hab
    have ua := (h.ent a ha).u.2
    have ub := (h.ent b hb).u.2
    unfold bumpE
    split
    · rename_i h1
      split
      · rename_i h2
        rw [isK_iff] at h1 h2
        exact absurd ⟨h1.1.trans h2.1.symm, h1.2.trans h2.2.symm⟩ hk
      · simp only []; omega
    · split
      · simp only []; omega
      · exact hu
theorem getS_ok {c : CS} (h : COk c) (nm : Bs) (ty now : Int) : COk (getS c nm ty now) := by
  unfold getS
  split
  · exact bumpC_ok h _ _
  · exact h
theorem bump_at {L : List CE} (h : KNe L) {i : Nat} {e : CE} (hi : L[i]? = some e) {nm : Bs} {ty : Int} (hk : isK nm ty e = true) (N : Int) : L.map (bumpE nm ty N) = L.set i { e with us := N + 1 } := by
  refine List.ext_getElem? fun j => ?_
  rw [List.getElem?_map, List.getElem?_set]
  by_cases hj : i = j
  · subst hj
    rw [hi, if_pos rfl, if_pos (List.getElem?_eq_some_iff.1 hi).1]
    simp [bumpE, hk]
  · rw [if_neg hj]
    cases hx : L[j]? with
    | none => rfl
    | some x =>
      simp only [Option.map_some, bumpE]
      rw [if_neg]
      intro hxk
      rw [isK_iff] at hk hxk
      exact hj (kne_get h hi hx (hk.1.trans hxk.1.symm) (hk.2.trans hxk.2.symm))
theorem overL_eq (L : List CE) (now : Int) : overL L now = L.filter fun e => decide (now < e.en) := by
  refine List.filter_congr fun e _ => ?_
  by_cases h : e.en ≤ now
  · simp [h]
  · simp [h]; omega
end Go.Proofs.Ytijmbpokglohbaa
