/-
  Texts and lists of texts compared: cmp.Compare, slices.Compare, slices.Equal.
  Lists of texts: slices.Compare, slices.Equal, slices.Reverse.
  A name's labels from the last one on; under which names it is; how two are ordered.
  A name's labels, lists of texts, a name without its first label: the program's, the document's.
  Slices that are owned and may begin within their block: append, cells, parts.
  The document's Under.
-/
import Derived.Test.YtgdejgfmhndbhaaKd
import Derived.Test.YtgdejgfmhndbhaaKa
import Derived.Test.YtgdejgfmhndbhaaKb
namespace Go.Proofs.Ytgdejgfmhndbhaa
open Go.RowKit
set_option linter.unusedSimpArgs false
set_option linter.unusedVariables false
theorem ba_loop (bs : ByteArray) : ∀ (n i : Nat) (r : List UInt8), bs.size - i = n → ByteArray.toList.loop bs i r = r.reverse ++ bs.data.toList.drop i := by
  intro n
  induction n with
  | zero =>
    intro i r h
    rw [ByteArray.toList.loop]
    have h' : ¬ i < bs.size := by omega
    rw [if_neg h', List.drop_of_length_le (by simp only [Array.length_toList]; show bs.size ≤ i; omega)]; simp
  | succ n ih =>
    intro i r h
    rw [ByteArray.toList.loop]
    have h' : i < bs.size := by omega
    have h2 : i < bs.data.toList.length := by simp only [Array.length_toList]; exact h'
    rw [if_pos h', ih (i + 1) _ (by omega), List.drop_eq_getElem_cons h2]
    have e : bs.get! i = bs.data.toList[i] := by
      show bs.data[i]! = _
      rw [getElem!_pos bs.data i (by simpa using h2)]; simp
    rw [e]; simp
theorem ba_toList (l : Bs) : (⟨l.toArray⟩ : ByteArray).toList = l := by
  rw [ByteArray.toList, ba_loop _ _ 0 [] rfl]; simp
attribute [go_sem] ba_toList
end Go.Proofs.Ytgdejgfmhndbhaa

namespace Go.Proofs.Ytgdejgfmhndbhaa
open Go.RowKit
set_option linter.unusedSimpArgs false
set_option linter.unusedVariables false
def RevI (L : List Bs) (k : Nat) (X : List Bs) : Prop := X.length = L.length ∧ ∀ i, i < L.length → X[i]? = if i < k ∨ L.length - k ≤ i then L[L.length - 1 - i]? else L[i]?
theorem RevI.stop {L X : List Bs} {k j : Nat} (h : RevI L k X) (hj : j + k + 1 = L.length) (hk : j ≤ k) : X = L.reverse := by
  obtain ⟨h1, h2⟩ := h
  apply List.ext_getElem?
  intro i
  by_cases hi : i < L.length
  · rw [h2 i hi, List.getElem?_reverse hi]
    split
    · rfl
    · congr 1; omega
  · rw [List.getElem?_eq_none (by omega), List.getElem?_eq_none (by simp; omega)]
end Go.Proofs.Ytgdejgfmhndbhaa

namespace Go.Proofs.Ytgdejgfmhndbhaa
open Go.RowKit
set_option linter.unusedSimpArgs false
set_option linter.unusedVariables false
theorem ownsRow_cap {w : World} {B : Nat} {e : TypeId} {s : Nat} {ao : Option Addr} {n cap : Nat} {xs : List Value} (h : w.ownsRow B e s (.slice ao n cap) n xs) : n ≤ cap ∧ cap ≤ maxLen := by
  rcases h.2 with ⟨h, rfl⟩ | ⟨g, cap', cur, hv, _, _, h1, h2, _⟩
  · cases h; exact ⟨Nat.le_refl _, by decide⟩
  · cases hv; exact ⟨h1, h2⟩
theorem SR.take {w : World} {ao : Option Addr} {L : List Bs} (h : SR w ao L) (k : Nat) : SR w ao (L.take k) := by
  rcases h with rfl | ⟨g, o, h1, h2, h3⟩
  · exact .inl (by simp)
  · refine .inr ⟨g, o, h1, h2, fun i x hx => h3 i x ?_⟩
    rw [List.getElem?_take] at hx
    split at hx
    · exact hx
    · cases hx
end Go.Proofs.Ytgdejgfmhndbhaa

namespace Go.Proofs.Ytgdejgfmhndbhaa
open Go.RowKit
set_option linter.unusedSimpArgs false
set_option linter.unusedVariables false
theorem rlabels_w (s : Bs) (hm : s.length ≤ 70000) (w : World) : Calls Try.prog 59 #[.string ⟨s.toArray⟩] w (Rets fun r w' =>
    ∃ ao cap, r = .slice ao (cutL s).length cap ∧ w'.ownsRow w.heap.size 9 1 (.slice ao (cutL s).length cap) (cutL s).length (strs (cutL s)) ∧ Upd0 w w') := by
  have hmm : s.length ≤ maxLen := by unfold maxLen; omega
  go_enter Try.func59, Try.ntmps59
  go_wp2_with (first
    | (go_at_call 76; (with_reducible refine (rcut_any s hmm _).use ?_); rintro v w1 ⟨ao, cap, rfl, hr, hu1⟩; have hrh := Lib.hid hr; clear hr)
    | (with_reducible refine wp_serial (by kernel_rfl) (by kernel_rfl) (by repeat with_reducible (first | apply NoBad.then | apply NoBad.inBlock | apply NoBad.jump | exact NoBad.rets)) ?_) | fail)
  all_goals go_returns
  all_goals exact ⟨ao, cap, rfl, hrh.out, (by repeat first | with_reducible (first | exact Upd.refl _ _ | assumption | apply Upd.drew | apply Upd.alloc) | refine Upd0.tr ?_ (by with_reducible assumption) | refine Upd.setCell ?_ (fun h => absurd h (by first | exact Nat.lt_irrefl _ | (simp only []; omega))) _)⟩
end Go.Proofs.Ytgdejgfmhndbhaa

namespace Go.Proofs.Ytgdejgfmhndbhaa
open Go.RowKit
set_option linter.unusedSimpArgs false
set_option linter.unusedVariables false
def OffR (w : World) (e : TypeId) (s : Nat) (v : Value) (n : Nat) (xs : List Value) : Prop :=
  xs.length = n * s ∧ ((v = .slice none 0 0 ∧ n = 0) ∨ ∃ g off cap cur, v = .slice (some ⟨g, off, none⟩) n cap ∧ w.heap[g]? = some (.cells cur e (0, 0)) ∧ n ≤ cap ∧ cap ≤ maxLen ∧ off + cap * s = cur.size ∧ (cur.toList.drop off).take (n * s) = xs)
section
variable {w w' : World} {e : TypeId} {s n : Nat} {v : Value} {xs : List Value}
theorem OffR.nil (w : World) (e : TypeId) (s : Nat) : OffR w e s (.slice none 0 0) 0 [] := ⟨by simp, .inl ⟨rfl, rfl⟩⟩
theorem OffR.kind (h : OffR w e s v n xs) {g : Nat} (hg : v.ownBlock = some g) : ∃ cur, w.heap[g]? = some (.cells cur e (0, 0)) := by
  rcases h.2 with ⟨rfl, _⟩ | ⟨g', off, cap, cur, rfl, hb, _⟩
  · cases hg
  · simp [Value.ownBlock] at hg
    subst hg
    exact ⟨cur, hb⟩
theorem OffR.lt (h : OffR w e s v n xs) {g : Nat} (hg : v.ownBlock = some g) : g < w.heap.size := by
  obtain ⟨cur, hc⟩ := h.kind hg
  exact blk_lt hc
theorem OffR.upd {S : Nat → Prop} (h : OffR w e s v n xs) (k : Upd S w w') (hS : ∀ g, v.ownBlock = some g → ¬ S g) : OffR w' e s v n xs := by
  refine ⟨h.1, ?_⟩
  rcases h.2 with h | ⟨g, off, cap, cur, rfl, hb, r⟩
  · exact .inl h
  · exact .inr ⟨g, off, cap, cur, rfl, k.block (hS g rfl) hb, r⟩
theorem OffR.ext (h : OffR w e s v n xs) (k : Ext w w') : OffR w' e s v n xs := by
  refine ⟨h.1, ?_⟩
  rcases h.2 with h | ⟨g, off, cap, cur, rfl, hb, r⟩
  · exact .inl h
  · exact .inr ⟨g, off, cap, cur, rfl, ext_block k hb, r⟩
theorem OffR.slice (h : OffR w e s v n xs) : ∃ ao cap, v = .slice ao n cap := by
  rcases h.2 with ⟨rfl, rfl⟩ | ⟨g, off, cap, cur, rfl, _⟩ <;> exact ⟨_, _, rfl⟩
theorem OffR.some {ao : Option Addr} {cap : Nat} (h : OffR w e s (.slice ao n cap) n xs) (hn : 0 < n) : ∃ g off, ao = Option.some ⟨g, off, none⟩ := by
  rcases h.2 with ⟨h, rfl⟩ | ⟨g, off, cap, cur, hv, _⟩
  · omega
  · injection hv with h1; exact ⟨g, off, h1⟩
theorem OffR.cell {g off cap : Nat} (h : OffR w e s (.slice (Option.some ⟨g, off, none⟩) n cap) n xs) {j : Nat} {u : Value} (hj : xs[j]? = Option.some u) : w.cell? ⟨g, off + j, none⟩ = Option.some u := by
  rcases h.2 with ⟨h, _⟩ | ⟨g', off', cap', cur, hv, hb, _, _, _, ht⟩
  · cases h
  · cases hv
    rw [blk_cell hb]
    rw [← ht, List.getElem?_take] at hj
    split at hj
    · rw [List.getElem?_drop] at hj
      simpa using hj
    · cases hj
theorem OffR.blk {g off cap : Nat} (h : OffR w e s (.slice (Option.some ⟨g, off, none⟩) n cap) n xs) : ∃ cur, w.heap[g]? = Option.some (.cells cur e (0, 0)) ∧ n ≤ cap ∧ cap ≤ maxLen ∧ off + cap * s = cur.size ∧ (cur.toList.drop off).take (n * s) = xs := by
  rcases h.2 with ⟨h, _⟩ | ⟨g', off', cap', cur, hv, hb, r⟩
  · cases h
  · cases hv
    exact ⟨cur, hb, r⟩
theorem OffR.drop {g off cap k : Nat} (h : OffR w e s (.slice (Option.some ⟨g, off, none⟩) n cap) n xs) (hk : k ≤ n) : OffR w e s (.slice (Option.some ⟨g, off + k * s, none⟩) (n - k) (cap - k)) (n - k) (xs.drop (k * s)) := by
  obtain ⟨cur, hb, h1, h2, h3, h4⟩ := h.blk
  refine ⟨by rw [List.length_drop, h.1, ← Nat.sub_mul], .inr ⟨g, _, _, cur, rfl, hb, by omega, by omega, ?_, ?_⟩⟩
  · rw [← h3, Nat.add_assoc, ← Nat.add_mul]; congr 2; omega
  · rw [← h4, ← List.drop_drop, List.drop_take, ← Nat.sub_mul]
theorem OffR.take {g off cap k : Nat} (h : OffR w e s (.slice (Option.some ⟨g, off, none⟩) n cap) n xs) (hk : k ≤ n) : OffR w e s (.slice (Option.some ⟨g, off, none⟩) k cap) k (xs.take (k * s)) := by
  obtain ⟨cur, hb, h1, h2, h3, h4⟩ := h.blk
  have hm : k * s ≤ n * s := Nat.mul_le_mul_right s hk
  refine ⟨by rw [List.length_take, h.1]; omega, .inr ⟨g, _, _, cur, rfl, hb, by omega, h2, h3, ?_⟩⟩
  rw [← h4, List.take_take, Nat.min_eq_left hm]
theorem OffR.set {g off cap : Nat} (h : OffR w e s (.slice (Option.some ⟨g, off, none⟩) n cap) n xs) (j : Nat) (hj : j < n * s) (u : Value) : OffR (w.setCell ⟨g, off + j, none⟩ u) e s (.slice (Option.some ⟨g, off, none⟩) n cap) n (xs.set j u) := by
  obtain ⟨cur, hb, h1, h2, h3, h4⟩ := h.blk
  refine ⟨by rw [List.length_set, h.1], .inr ⟨g, off, cap, _, rfl, blk_set hb (off + j) u, h1, h2, by simpa using h3, ?_⟩⟩
  rw [Array.toList_setIfInBounds, List.drop_set, if_neg (by omega), List.take_set, h4]
  congr 1
  omega
variable {P : Program}
end
end Go.Proofs.Ytgdejgfmhndbhaa

namespace Go.Proofs.Ytgdejgfmhndbhaa
open Go.RowKit
set_option linter.unusedSimpArgs false
set_option linter.unusedVariables false
end Go.Proofs.Ytgdejgfmhndbhaa
