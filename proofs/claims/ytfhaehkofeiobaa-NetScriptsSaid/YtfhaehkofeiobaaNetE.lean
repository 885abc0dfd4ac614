/-
  Networks: DeleteFunc, Clear.
-/
import Derived.Test.YtfhaehkofeiobaaNetD
namespace Go.Proofs.Ytfhaehkofeiobaa
open Go.RowKit
set_option linter.unusedSimpArgs false
set_option linter.unusedVariables false

/-- behind the loop: what is left in front, whatever behind it -/
def DfEnd (E : TypeId) (g cap : Nat) (m : List Pk) (w w' : World) : Prop := w'.ownsRow 0 E 3 (.slice (some ⟨g, 0, none⟩) m.length cap) m.length (pks m) ∧ Upd (fun k => k = g) w w'
theorem df_end {E : TypeId} {g cap i j : Nat} {node : Int} {l : List Pk} {w wr : World} (h : DfRow E g cap node l w wr i j) (hj : j = l.length) : ∃ cur : Array Value, wr.heap[g]? = some (.cells cur E (0, 0)) ∧ i < l.length ∧ i < cap ∧ i = (keepL node l).length ∧
    l.length ≤ cap ∧ cur.size = cap * 3 ∧ (∀ zs : List Value, zs.length = (l.length - i) * 3 → DfEnd E g cap (keepL node l) w (wr.setRow g (cur.toList.take (i * 3) ++ zs ++ cur.toList.drop (i * 3 + (l.length - i) * 3)).toArray)) := by
  obtain ⟨mid, h1, h2, h3, h4, h5⟩ := h
  subst hj
  rw [List.take_length] at h1 h2
  rw [List.drop_length, List.append_nil] at h1
  obtain ⟨cur, r1, r2, r3, r4, r5⟩ := ownsRow_blk h1
  have hc : cur.toList.length = cap * 3 := by simpa using r4
  refine ⟨cur, r1, by omega, by omega, h2, r2, r4, fun zs hzs => ⟨?_, h5.setRow (fun _ => rfl) _⟩⟩
  refine ownsRow_mk (setRow_heap wr g cur _ E _ r1) (by omega) r3 ?_ ?_
  · simp only [List.size_toArray, List.length_append, List.length_take, List.length_drop, hc, hzs]
    have : i + (l.length - i) = l.length := by omega
    omega
  · simp only []
    rw [List.append_assoc, List.take_append_of_le_length (by rw [List.length_take, hc]; omega), List.take_take, ← h2, Nat.min_self]
    have e1 : cur.toList.take (i * 3) = (pks (keepL node l ++ mid)).take (i * 3) := by rw [← r5, List.take_take]; congr 1; omega
    rw [e1, pks_app, List.take_append_of_le_length (by rw [pks_len]; omega), List.take_of_length_le (by rw [pks_len]; omega)]
theorem df_start {E : TypeId} {g cap : Nat} {node : Int} {l : List Pk} {w w1 : World} {k : Nat} (hr : w.ownsRow 0 E 3 (.slice (some ⟨g, 0, none⟩) l.length cap) l.length (pks l)) (hu : Upd0 w w1) (hk : k < l.length) (hno : ∀ j p, j < k → l[j]? = some p → hitTo node p = false) (hyes : ∀ p, l[k]? = some p → hitTo node p = true) :
    DfRow E g cap node l w w1 k (k + 1) := by
  have hp : l[k]? = some l[k] := by simp [hk]
  refine ⟨[l[k]], ?_, by rw [keep_snoc_hit hp (hyes _ hp), keep_none hno, List.length_take]; omega, by simp, by simp, hu.mono (fun _ _ h => h.elim)⟩
  rw [keep_snoc_hit hp (hyes _ hp), keep_none hno]
  have : l.take k ++ [l[k]] ++ l.drop (k + 1) = l := by rw [List.append_assoc, List.singleton_append, ← List.drop_eq_getElem_cons hk, List.take_append_drop]
  rw [this]
  exact ownsRow_upd hr hu (fun _ _ h => h)
theorem df_round {E : TypeId} {g cap a b : Nat} {node : Int} {l : List Pk} {w wr : World} {p : Pk} (h : DfRow E g cap node l w wr a b) (hp : l[b]? = some p) : ∃ x0 x1 x2 : Value,
    wr.cell? ⟨g, b * 3, none⟩ = some (.int .i64 p.fr) ∧ wr.cell? ⟨g, b * 3 + 1, none⟩ = some (.int .i64 p.to) ∧ wr.cell? ⟨g, b * 3 + 2, none⟩ = some (.string p.by_) ∧
    wr.cell? ⟨g, a * 3, none⟩ = some x0 ∧ wr.cell? ⟨g, a * 3 + 1, none⟩ = some x1 ∧ wr.cell? ⟨g, a * 3 + 2, none⟩ = some x2 ∧
    wr.frozen? ⟨g, a * 3, none⟩ = false ∧ wr.frozen? ⟨g, a * 3 + 1, none⟩ = false ∧ wr.frozen? ⟨g, a * 3 + 2, none⟩ = false ∧ g < wr.heap.size ∧ Upd (fun k => k = g) w wr := by
  obtain ⟨mid, h1, h2, h3, h4, h5⟩ := h
  have hpb : (keepL node (l.take b) ++ mid ++ l.drop b)[b]? = some p := by
    rw [List.getElem?_append_right (by rw [List.length_append]; omega), List.getElem?_drop, List.length_append, ← h2, h3, Nat.sub_self, Nat.add_zero]
    exact hp
  obtain ⟨e0, e1, e2⟩ := pk_cells h1 hpb
  obtain ⟨p', hp'⟩ : ∃ p', (keepL node (l.take b) ++ mid ++ l.drop b)[a]? = some p' := ⟨_, List.getElem?_eq_getElem (by simp only [List.length_append]; omega)⟩
  obtain ⟨d0, d1, d2⟩ := pk_cells h1 hp'
  obtain ⟨cur, rb, _⟩ := ownsRow_blk h1
  exact ⟨_, _, _, e0, e1, e2, d0, d1, d2, blk_frz rb _, blk_frz rb _, blk_frz rb _, blk_lt rb, h5⟩
theorem keep_all {node : Int} {l : List Pk} {k : Nat} (hk : k = l.length) (hno : ∀ j p, j < k → l[j]? = some p → hitTo node p = false) : keepL node l = l := by
  have := keep_none hno
  rwa [hk, List.take_length] at this
set_option maxHeartbeats 1000000 in
theorem delfunc_any (l : List Pk) (g cap q : Nat) (node : Int) (w : World) (hr : w.ownsRow 0 37 3 (.slice (some ⟨g, 0, none⟩) l.length cap) l.length (pks l)) (hl : l.length ≤ 1000) (hq : w.cell? ⟨q, 0, none⟩ = some (.int .i64 node)) (hqg : ¬ q = g) :
    Calls Try.prog 24 #[.slice (some ⟨g, 0, none⟩) l.length cap, .func (.func 25) #[] #[.pointer (some ⟨q, 0, none⟩)]] w (Rets fun r w' =>
      r = .slice (some ⟨g, 0, none⟩) (keepL node l).length cap ∧ DfEnd 37 g cap (keepL node l) w w') := by
  obtain ⟨i0, hi0, hz0, hz1, hz2⟩ := info_parts info_pk
  have hgl := blk_lt (ownsRow_blk hr).choose_spec.1
  have hrh := Lib.hid hr
  have hqh := Lib.hid hq
  clear hr hq
  go_enter Try.func24, Try.ntmps24
  go_wp2_with (fail)
  refine (index_any l g cap q node _ hrh.out hl hqh.out).use ?_
  rintro v w1 ⟨⟨k, rfl, hk, hno, hyes⟩, hu⟩
  have hnoh := Lib.hid hno
  have hyesh := Lib.hid hyes
  have huh := Lib.hid hu
  clear hno hyes hu
  by_cases hlt : k < l.length
  · rw [if_pos hlt]
    have hne : ((k : Int) == -1) = false := by rw [beq_eq_false_iff_ne]; omega
    go_wp2_with (fail)
    go_loopw [5, 6] (fun i j wr => ∃ a b : Nat, b ≤ l.length ∧ a < b ∧ i = .int .i64 a ∧ j = .int .i64 b ∧ Hid (DfRow 37 g cap node l w wr a b)) (fun _ j _ => l.length - (intOf j).toNat)
    case atStart => exact ⟨k, k + 1, by omega, by omega, rfl, by go_num, df_start hrh.out huh.out hlt hnoh.out hyesh.out⟩
    case round =>
      obtain ⟨a, b, hb, hab, rfl, rfl, hd⟩ := hrel
      by_cases hbl : b < l.length
      · obtain ⟨p, hp⟩ : ∃ p, l[b]? = some p := ⟨l[b], by simp [hbl]⟩
        obtain ⟨x0, x1, x2, e0, e1, e2, d0, d1, d2, f0, f1, f2, hgr, hur⟩ := df_round hd.out hp
        have hph := Lib.hid hp
        have hqr : Hid (wr.cell? ⟨q, 0, none⟩ = some (.int .i64 node)) := hur.cell (p := ⟨q, 0, none⟩) hqg hqh.out
        have hurh := Lib.hid hur
        clear hp hur
        cases hbt : hitTo node p
        all_goals
          go_wp2_with (first
            | (with_reducible refine wp_serial (by kernel_rfl) (by kernel_rfl) (by (repeat (first | (with_reducible apply NoBad.then) | (with_reducible apply NoBad.inBlock) | (with_reducible exact NoBad.rets))); done) ?_)
            | (go_at_call 25; refine (clos_any p q node _ (Upd.cell (S := fun _ => False) (by (repeat (first | exact Upd.refl _ _ | assumption | apply Upd.drew | apply Upd.alloc | (refine Upd.setCell ?_ (fun h => absurd h (by first | exact Nat.lt_irrefl _ | (simp only []; omega))) _))); done) (fun h => h) hqr.out)).use ?_; rintro v w2 ⟨rfl, hu2⟩; obtain ⟨k1, k2, k3⟩ := hu2.rules; simp only [World.size_alloc, World.size_drew] at k1 k2 k3; have hu3 : Upd0 wr w2 := Upd.trans (show Upd0 wr _ from (by (repeat (first | exact Upd.refl _ _ | assumption | apply Upd.drew | apply Upd.alloc | (refine Upd.setCell ?_ (fun h => absurd h (by first | exact Nat.lt_irrefl _ | (simp only []; omega))) _))); done)) hu2 (fun _ _ h => h); have hu4 := Lib.hid hu3; have kg : g < wr.heap.size + 1 := (by omega); clear hu2 hu3 k3))
        · go_roundw
          case rel => exact ⟨a + 1, b + 1, by omega, by omega, by go_num, by go_num, df_no hd.out hph.out hbt hu4.out⟩
          case measure => simp [intOf]; omega
        · go_roundw
          case rel => exact ⟨a, b + 1, by omega, by omega, rfl, by go_num, df_hit hd.out hph.out hbt hu4.out⟩
          case measure => simp [intOf]; omega
      · obtain ⟨cur, r1, r2, r3, r4, r5, r6, r7⟩ := df_end hd.out (by omega)
        have r7h := Lib.hid r7
        have r4h := Lib.hid r4
        have hfit : a * 3 + (l.length - a) * 3 ≤ cur.size := by omega
        clear r7 r4
        go_wp2_with (first
          | (with_reducible refine wp_serial (by kernel_rfl) (by kernel_rfl) (by (repeat (first | (with_reducible apply NoBad.then) | (with_reducible apply NoBad.inBlock) | (with_reducible exact NoBad.rets))); done) ?_)
          | (refine wpList_clear rfl (.tmp 38) 53 rfl 37 i0 _ 3 Try.underlying53 hi0 hz0 rfl rfl g (a * 3) (l.length - a) _ cur r1 ⟨g, a * 3, none⟩ rfl (fun _ => rfl) hfit ?_; intro zs hzs; obtain ⟨C, hC⟩ : ∃ C, C = (cur.toList.take (a * 3) ++ zs ++ cur.toList.drop (a * 3 + (l.length - a) * 3)).toArray := ⟨_, rfl⟩; rw [← hC]; have hCh := Lib.hid hC; have hzh := Lib.hid hzs; clear hC hzs))
        go_ret
        refine ⟨by rw [← r4h.out]; rfl, ?_⟩
        have := r7h.out zs hzh.out
        rw [← hCh.out] at this
        exact this
  · rw [if_neg hlt]
    go_wp2_with (fail)
    go_ret
    have hkl : k = l.length := by omega
    have e := keep_all hkl hnoh.out
    rw [e]
    exact ⟨rfl, ownsRow_upd hrh.out huh.out (fun _ _ h => h), huh.out.mono (fun _ _ h => h.elim)⟩
end Go.Proofs.Ytfhaehkofeiobaa
