/-
  Networks: Clear.
-/
import Derived.Test.YtfhaehkofeiobaaNetC
namespace Go.Proofs.Ytfhaehkofeiobaa
open Go.RowKit
set_option linter.unusedSimpArgs false
set_option linter.unusedVariables false

def hitTo (node : Int) (p : Pk) : Bool := p.to == node
theorem clos_any (p : Pk) (q : Nat) (node : Int) (w : World) (hq : w.cell? ⟨q, 0, none⟩ = some (.int .i64 node)) :
    Calls Try.prog 25 #[p.val, .pointer (some ⟨q, 0, none⟩)] w (Rets fun r w' => r = .bool (hitTo node p) ∧ Upd0 w w') := by
  have hl := World.block_lt_of_cell? w _ hq
  simp only [] at hl
  simp only [Pk.val]
  go_enter Try.func25, Try.ntmps25
  go_wp2_with (first | (with_reducible refine wp_serial (by kernel_rfl) (by kernel_rfl) (by (repeat (first | (with_reducible apply NoBad.then) | (with_reducible apply NoBad.inBlock) | (with_reducible exact NoBad.rets))); done) ?_))
  all_goals go_ret
  exact ⟨rfl, (by (repeat (first | exact Upd.refl _ _ | assumption | apply Upd.drew | apply Upd.alloc | (refine Upd.setCell ?_ (fun h => absurd h (by first | exact Nat.lt_irrefl _ | (simp only []; omega))) _))); done)⟩
/-- the cells of packet k of the row -/
theorem pk_cells {w : World} {E : TypeId} {l : List Pk} {n g cap : Nat} (h : w.ownsRow 0 E 3 (.slice (some ⟨g, 0, none⟩) n cap) n (pks l)) {k : Nat} {p : Pk} (hk : l[k]? = some p) :
    w.cell? ⟨g, k * 3, none⟩ = some (.int .i64 p.fr) ∧ w.cell? ⟨g, k * 3 + 1, none⟩ = some (.int .i64 p.to) ∧ w.cell? ⟨g, k * 3 + 2, none⟩ = some (.string p.by_) :=
  ⟨elem_cell pk_len h hk 0 _ (by omega) rfl, elem_cell pk_len h hk 1 _ (by omega) rfl, elem_cell pk_len h hk 2 _ (by omega) rfl⟩
set_option maxHeartbeats 400000 in
theorem index_any (l : List Pk) (g cap q : Nat) (node : Int) (w : World) (hr : w.ownsRow 0 37 3 (.slice (some ⟨g, 0, none⟩) l.length cap) l.length (pks l)) (hl : l.length ≤ 1000) (hq : w.cell? ⟨q, 0, none⟩ = some (.int .i64 node)) :
    Calls Try.prog 26 #[.slice (some ⟨g, 0, none⟩) l.length cap, .func (.func 25) #[] #[.pointer (some ⟨q, 0, none⟩)]] w (Rets fun r w' =>
      (∃ k : Nat, r = .int .i64 (if k < l.length then k else -1) ∧ k ≤ l.length ∧ (∀ j p, j < k → l[j]? = some p → hitTo node p = false) ∧ (∀ p, l[k]? = some p → hitTo node p = true)) ∧ Upd0 w w') := by
  have hrh := Lib.hid hr
  have hqh := Lib.hid hq
  clear hr hq
  go_enter Try.func26, Try.ntmps26
  go_wp2_with (fail)
  go_loopw [5, 8] (fun _ i wr => ∃ k : Nat, k ≤ l.length ∧ i = .int .i64 k ∧ Hid (∀ j p, j < k → l[j]? = some p → hitTo node p = false) ∧ Hid (Upd0 w wr)) (fun _ i _ => l.length - (intOf i).toNat)
  case atStart => exact ⟨0, Nat.zero_le _, rfl, (fun j p h => by omega), Upd.refl _ _⟩
  case round =>
    obtain ⟨k, hk, rfl, hno, hu⟩ := hrel
    by_cases hlt : k < l.length
    · obtain ⟨p, hp⟩ : ∃ p, l[k]? = some p := ⟨l[k], by simp [hlt]⟩
      obtain ⟨e0, e1, e2⟩ := pk_cells (ownsRow_upd hrh.out hu.out (fun _ _ h => h)) hp
      have hph := Lib.hid hp
      clear hp
      cases hb : hitTo node p
      · go_wp2_with (first
          | (with_reducible refine wp_serial (by kernel_rfl) (by kernel_rfl) (by (repeat (first | (with_reducible apply NoBad.then) | (with_reducible apply NoBad.inBlock) | (with_reducible exact NoBad.rets))); done) ?_)
          | (go_at_call 25; refine (clos_any p q node _ (hu.out.cell (fun h => h) hqh.out)).use ?_; rintro v w1 ⟨rfl, hu2⟩; have hu1 := Lib.hid hu2; clear hu2))
        go_roundw
        case rel => exact ⟨k + 1, by omega, by go_num, (fun j p' hj hjp => by
          rcases Nat.lt_succ_iff_lt_or_eq.1 hj with h | rfl
          · exact hno.out j p' h hjp
          · rw [hph.out] at hjp; cases hjp; exact hb), Upd.trans hu.out hu1.out (fun _ _ h => h)⟩
        case measure => simp [intOf]; omega
      · go_wp2_with (first
          | (with_reducible refine wp_serial (by kernel_rfl) (by kernel_rfl) (by (repeat (first | (with_reducible apply NoBad.then) | (with_reducible apply NoBad.inBlock) | (with_reducible exact NoBad.rets))); done) ?_)
          | (go_at_call 25; refine (clos_any p q node _ (hu.out.cell (fun h => h) hqh.out)).use ?_; rintro v w1 ⟨rfl, hu2⟩; have hu1 := Lib.hid hu2; clear hu2))
        go_ret
        exact ⟨⟨k, by rw [if_pos hlt]; rfl, hk, hno.out, fun p' hp' => by rw [hph.out] at hp'; cases hp'; exact hb⟩, Upd.trans hu.out hu1.out (fun _ _ h => h)⟩
    · go_wp2_with (fail)
      go_ret
      exact ⟨⟨k, by rw [if_neg hlt]; rfl, hk, hno.out, fun p hp => by have := (List.getElem?_eq_some_iff.1 hp).1; omega⟩, hu.out⟩

theorem pk_set {w : World} {E : TypeId} {L : List Pk} {n g cap : Nat} (h : w.ownsRow 0 E 3 (.slice (some ⟨g, 0, none⟩) n cap) n (pks L)) {i : Nat} (hi : i < L.length) (p : Pk) :
    (((w.setCell ⟨g, i * 3, none⟩ (.int .i64 p.fr)).setCell ⟨g, i * 3 + 1, none⟩ (.int .i64 p.to)).setCell ⟨g, i * 3 + 2, none⟩ (.string p.by_)).ownsRow 0 E 3 (.slice (some ⟨g, 0, none⟩) n cap) n (pks (L.set i p)) := by
  have h3 := ownsRow_set1 (ownsRow_set1 (ownsRow_set1 h (i * 3) (.int .i64 p.fr)) (i * 3 + 1) (.int .i64 p.to)) (i * 3 + 2) (.string p.by_)
  have e : (((pks L).set (i * 3) (.int .i64 p.fr)).set (i * 3 + 1) (.int .i64 p.to)).set (i * 3 + 2) (.string p.by_) = pks (L.set i p) := by
    rw [show pks (L.set i p) = _ from flat_set pk_len p L i hi]
    have hl : (pks L).length = L.length * 3 := pks_len L
    have hlen : i * 3 + 3 ≤ (pks L).length := by omega
    apply List.ext_getElem?
    intro k
    show _ = ((List.take (i * 3) (pks L) ++ p.cells) ++ List.drop ((i + 1) * 3) (pks L))[k]?
    simp only [List.getElem?_set, List.getElem?_append, List.length_append, List.length_take, Pk.cells, List.length_cons, List.length_nil, List.length_set, List.getElem?_take, List.getElem?_drop]
    have hm : min (i * 3) (pks L).length = i * 3 := by omega
    rw [hm]
    by_cases h1 : k < i * 3
    · rw [if_neg (by omega), if_neg (by omega), if_neg (by omega), if_pos (by omega), if_pos (by omega), if_pos (by omega)]
    · by_cases h2 : k < i * 3 + 3
      · rw [if_pos (show k < i * 3 + (0 + 1 + 1 + 1) by omega), if_neg h1]
        obtain ⟨d, rfl⟩ : ∃ d, k = i * 3 + d := ⟨k - i * 3, by omega⟩
        have hd : d = 0 ∨ d = 1 ∨ d = 2 := by omega
        rcases hd with rfl | rfl | rfl
        · simp; omega
        · simp; omega
        · simp; omega
      · rw [if_neg (by omega), if_neg (by omega), if_neg (by omega), if_neg (by omega)]
        congr 1
        omega
  rw [e] at h3
  exact h3
def keepL (node : Int) (l : List Pk) : List Pk := l.filter fun p => !hitTo node p
theorem keep_snoc_hit {node : Int} {l : List Pk} {k : Nat} {p : Pk} (h : l[k]? = some p) (hh : hitTo node p = true) : keepL node (l.take (k + 1)) = keepL node (l.take k) := by
  unfold keepL
  rw [List.take_add_one, h]; simp [List.filter_append, hh]
theorem keep_snoc_no {node : Int} {l : List Pk} {k : Nat} {p : Pk} (h : l[k]? = some p) (hh : hitTo node p = false) : keepL node (l.take (k + 1)) = keepL node (l.take k) ++ [p] := by
  unfold keepL
  rw [List.take_add_one, h]; simp [List.filter_append, hh]
theorem keep_none {node : Int} {l : List Pk} {k : Nat} (h : ∀ j p, j < k → l[j]? = some p → hitTo node p = false) : keepL node (l.take k) = l.take k := by
  unfold keepL
  rw [List.filter_eq_self]
  intro p hp
  obtain ⟨j, hj, rfl⟩ := List.getElem_of_mem hp
  rw [List.length_take] at hj
  rw [List.getElem_take]
  rw [h j _ (by omega) (List.getElem?_eq_getElem (by omega))]; rfl
/-- the row within DeleteFunc: those kept so far, something, those not yet seen -/
def DfRow (E : TypeId) (g cap : Nat) (node : Int) (l : List Pk) (w wr : World) (i j : Nat) : Prop :=
  ∃ mid : List Pk, wr.ownsRow 0 E 3 (.slice (some ⟨g, 0, none⟩) l.length cap) l.length (pks (keepL node (l.take j) ++ mid ++ l.drop j)) ∧ i = (keepL node (l.take j)).length ∧ i + mid.length = j ∧ 0 < mid.length ∧ Upd (fun k => k = g) w wr
theorem df_hit {E : TypeId} {g cap : Nat} {node : Int} {l : List Pk} {w wr w1 : World} {i j : Nat} {p : Pk} (h : DfRow E g cap node l w wr i j) (hp : l[j]? = some p) (hh : hitTo node p = true) (hu : Upd0 wr w1) : DfRow E g cap node l w w1 i (j + 1) := by
  obtain ⟨mid, h1, h2, h3, h4, h5⟩ := h
  refine ⟨mid ++ [p], ?_, by rw [keep_snoc_hit hp hh]; exact h2, by simp; omega, by simp, Upd.trans h5 hu (fun _ _ h => h.elim)⟩
  rw [keep_snoc_hit hp hh]
  have : l.drop j = p :: l.drop (j + 1) := by
    obtain ⟨hj, rfl⟩ := List.getElem?_eq_some_iff.1 hp
    exact List.drop_eq_getElem_cons hj
  rw [this] at h1
  have h1' := ownsRow_upd h1 hu (fun _ _ h => h)
  simpa using h1'
theorem df_no {E : TypeId} {g cap : Nat} {node : Int} {l : List Pk} {w wr w1 : World} {i j : Nat} {p : Pk} (h : DfRow E g cap node l w wr i j) (hp : l[j]? = some p) (hh : hitTo node p = false) (hu : Upd0 wr w1) :
    DfRow E g cap node l w (((w1.setCell ⟨g, i * 3, none⟩ (.int .i64 p.fr)).setCell ⟨g, i * 3 + 1, none⟩ (.int .i64 p.to)).setCell ⟨g, i * 3 + 2, none⟩ (.string p.by_)) (i + 1) (j + 1) := by
  obtain ⟨mid, h1, h2, h3, h4, h5⟩ := h
  have hd : l.drop j = p :: l.drop (j + 1) := by
    obtain ⟨hj, rfl⟩ := List.getElem?_eq_some_iff.1 hp
    exact List.drop_eq_getElem_cons hj
  rw [hd] at h1
  have h1' := ownsRow_upd h1 hu (fun _ _ h => h)
  match mid, h4 with
  | m :: mid, _ =>
    refine ⟨mid ++ [p], ?_, by rw [keep_snoc_no hp hh]; simp; omega, by simp at h3 ⊢; omega, by simp, ?_⟩
    · have := pk_set h1' (i := i) (by rw [h2]; simp) p
      have e : (keepL node (l.take j) ++ (m :: mid) ++ p :: l.drop (j + 1)).set i p = keepL node (l.take j) ++ p :: (mid ++ p :: l.drop (j + 1)) := by
        rw [List.append_assoc, List.set_append_right _ _ (by omega), h2, Nat.sub_self]; rfl
      rw [e] at this
      rw [keep_snoc_no hp hh]
      simpa using this
    · exact (((Upd.trans h5 hu (fun _ _ h => h.elim)).setCell (fun _ => rfl) _).setCell (fun _ => rfl) _).setCell (fun _ => rfl) _
end Go.Proofs.Ytfhaehkofeiobaa
