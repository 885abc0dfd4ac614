/-
  Writing names: plain laws.
-/
import Derived.Test.YtgdejgfmhndbhaaWrM
namespace Go.Proofs.Ytgdejgfmhndbhaa
open Go.RowKit Go.Maps
set_option linter.unusedSimpArgs false
set_option linter.unusedVariables false
theorem nameL_len : ∀ (L : List Bs) (s : Wr), L.all lblOk = true → (nameL L s).b.length ≤ s.b.length + (jn L).length + 1 ∧ s.b.length ≤ (nameL L s).b.length
  | [], s, _ => by simp [nameL, Wr.add, jn]
  | x :: L, s, h => by
    simp only [List.all_cons, Bool.and_eq_true] at h
    have hx := lblOk_iff.1 h.1
    rw [nameL]
    cases fnd s.pl (jn (x :: L)) with
    | some a => simp [Wr.add, wd2, jn_cons] <;> omega
    | none =>
      have := nameL_len L ⟨s.b ++ (UInt8.ofNat x.length :: x), s.pl ++ [(jn (x :: L), s.b.length)]⟩ h.2
      simp [jn_cons] at this ⊢
      omega
theorem dup_ok {s : Wr} (h : WrOk s) (x : Bs) {l : Bs} (hl : 1 ≤ l.length) : WrOk ⟨s.b ++ l, s.pl ++ [(x, s.b.length)]⟩ := by
  refine ⟨?_, ?_, by have := h.cnt; simp; omega⟩
  · rw [List.pairwise_append]
    refine ⟨h.up, by simp, fun p hp q hq => ?_⟩
    simp at hq
    rw [hq]
    exact h.le p hp
  · intro p hp
    simp at hp
    rcases hp with hp | rfl
    · have := h.le p hp; simp; omega
    · simp
theorem fnd_none {n : Bs} : ∀ {pl : List (Bs × Nat)}, (∀ p ∈ pl, 16384 ≤ p.2) → fnd pl n = none
  | [], _ => rfl
  | p :: pl, h => by
    have h0 := h p (List.mem_cons_self ..)
    have hh : hitP n p = false := by simp [hitP]; intro _; omega
    unfold fnd
    rw [List.find?_cons_of_neg (by rw [hh]; decide)]
    exact fnd_none (fun q hq => h q (List.mem_cons_of_mem _ hq))
theorem fnd_fst {n : Bs} : ∀ {pl : List (Bs × Nat)}, pl.Pairwise (fun p q => p.2 ≤ q.2) → fnd pl n = match fst' pl n with | some a => if a < 16384 then some a else none | none => none
  | [], _ => rfl
  | p :: pl, h => by
    obtain ⟨h1, h2⟩ := List.pairwise_cons.1 h
    by_cases hp : p.1 = n
    · have e : fst' (p :: pl) n = some p.2 := by simp [fst', hp]
      rw [e]
      by_cases h3 : p.2 < 16384
      · simp [fnd, hitP, hp, h3]
      · have : fnd (p :: pl) n = fnd pl n := by simp [fnd, hitP, h3]
        rw [this, fnd_none (fun q hq => by have := h1 q hq; omega)]
        simp [h3]
    · have e : fst' (p :: pl) n = fst' pl n := by simp [fst', hp]
      have : fnd (p :: pl) n = fnd pl n := by simp [fnd, hitP, hp]
      rw [this, e]
      exact fnd_fst h2
theorem fst'_le {s : Wr} (h : WrOk s) {n : Bs} {a : Nat} (ha : fst' s.pl n = some a) : a ≤ s.b.length := by
  unfold fst' at ha
  rw [Option.map_eq_some_iff] at ha
  obtain ⟨p, hp, rfl⟩ := ha
  exact h.le p (List.mem_of_find?_eq_some hp)
variable {B : Nat}
theorem WrI.dup {w : World} {t : Nat} {s : Wr} {v : Value} {mb n : Nat} {D : DataW Unit} {x : Bs} {a : Nat} (h : WrI B w t s v mb n D) (hx : fst' s.pl x = some a) : WrI B w t ⟨s.b, s.pl ++ [(x, s.b.length)]⟩ v mb n D := by
  refine ⟨h.blk, h.row, h.map, fun y => ?_, h.lo, by have := h.cnt; simp; omega⟩
  have : fst' (s.pl ++ [(x, s.b.length)]) y = fst' s.pl y := by
    unfold fst' at hx ⊢
    rw [List.find?_append]
    cases hh : s.pl.find? (fun p => decide (p.1 = y)) with
    | some p => simp
    | none =>
      have : ¬ x = y := fun e => by
        rw [e, hh] at hx; cases hx
      simp [this]
  show _ = (fst' (s.pl ++ [(x, s.b.length)]) y).isSome ∧ _
  rw [this]
  exact h.abs y
end Go.Proofs.Ytgdejgfmhndbhaa
