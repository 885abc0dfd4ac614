/-
  A name folded: the program's, the document's.
-/
import Derived.Test.YtdjleplefbmjbaaFlC
import Derived.Test.YtdjleplefbmjbaaRdA
namespace Go.Proofs.Ytdjleplefbmjbaa
open Go.RowKit
set_option linter.unusedSimpArgs false
set_option linter.unusedVariables false
def foH (L : List Bs) (k : Nat) : List Bs := (L.take k).map smS ++ L.drop k
theorem foH_zero (L : List Bs) : foH L 0 = L := by simp [foH]
theorem foH_len (L : List Bs) (k : Nat) : (foH L k).length = L.length := by simp [foH]; omega
theorem foH_all (L : List Bs) {k : Nat} (h : L.length ≤ k) : foH L k = L.map smS := by simp [foH, List.take_of_length_le h, List.drop_of_length_le h]
theorem foH_get (L : List Bs) {k : Nat} {x : Bs} (h : L[k]? = some x) : (foH L k)[k]? = some x := by
  have hk := (List.getElem?_eq_some_iff.1 h).1
  have hl : ((L.take k).map smS).length = k := by simp; omega
  simp only [foH]
  rw [List.getElem?_append_right (by omega), hl, Nat.sub_self, List.getElem?_drop, Nat.add_zero, h]
theorem foH_step (L : List Bs) {k : Nat} {x : Bs} (h : L[k]? = some x) : (foH L k).set k (smS x) = foH L (k + 1) := by
  have hk := (List.getElem?_eq_some_iff.1 h).1
  have hx := (List.getElem?_eq_some_iff.1 h).2
  have hl : ((L.take k).map smS).length = k := by simp; omega
  simp only [foH]
  rw [List.set_append_right _ _ (by omega), hl, Nat.sub_self, List.drop_eq_getElem_cons hk, List.set_cons_zero, List.take_succ_eq_append_getElem hk, hx]
  simp
theorem strs_get {L : List Bs} {k : Nat} {x : Bs} (h : L[k]? = some x) : (strs L)[k]? = some (.string ⟨x.toArray⟩) := by simp [strs, h]
theorem strs_set (L : List Bs) (k : Nat) (x : Bs) : (strs L).set k (.string ⟨x.toArray⟩) = strs (L.set k x) := by simp [strs, List.map_set]
theorem strs_len (L : List Bs) : (strs L).length = L.length := by simp [strs]
theorem own_sr {w : World} {B : Nat} {ao : Option Addr} {n cap : Nat} {L : List Bs} (h : w.ownsRow B 9 1 (.slice ao n cap) n (strs L)) (hn : n = L.length) : SR w ao L := by
  cases L with
  | nil => exact .inl rfl
  | cons y t =>
    obtain ⟨g, rfl⟩ := ownsRow_some h (by rw [hn]; simp)
    exact .inr ⟨g, 0, rfl, ownsRow_lt h rfl, fun i x hx => by rw [Nat.zero_add]; exact ownsRow_cell h rfl (strs_get hx)⟩
set_option maxRecDepth 100000 in
set_option maxHeartbeats 1000000 in
theorem fold_w (s : Bs) (hm : s.length ≤ 70000) (w : World) : Calls Try.prog 24 #[.string ⟨s.toArray⟩] w (Rets fun r w' => r = .string ⟨(fold s).toArray⟩ ∧ Upd0 w w') := by
  have hmm : s.length ≤ maxLen := by unfold maxLen; omega
  cases hb : cutB s with
  | false =>
    have hf := Lib.hid (fold_no hb)
    have hbh := Lib.hid hb
    clear hb
    go_enter Try.func24, Try.ntmps24
    go_wp2_with (first
      | (go_at_call 43; refine (cut_any s hmm _).use ?_; rintro v w1 ⟨ao, cap, rfl, hr, hb1⟩; have hu1 := Upd0.of_below hb1; rw [hbh.out]; clear hr)
      | (with_reducible refine wp_serial (by kernel_rfl) (by kernel_rfl) (by (repeat (first | (with_reducible apply NoBad.then) | (with_reducible apply NoBad.inBlock) | (with_reducible exact NoBad.rets))); done) ?_) | fail)
    all_goals go_returns
    all_goals exact ⟨by rw [hf.out]; rfl, (by (repeat (first | (with_reducible exact Upd.refl _ _) | (with_reducible assumption) | (with_reducible apply Upd.drew) | (with_reducible apply Upd.alloc) | (refine Upd0.tr ?_ (by with_reducible assumption)) | (refine Upd.setCell ?_ (fun h => absurd h (by first | exact Nat.lt_irrefl _ | (simp only []; omega))) _))); done)⟩
  | true =>
    obtain ⟨j1, j2⟩ := fold_join hb
    have hl := (lbls_len (cutL s) (lab_jn s _ (cut_lab hb).2).2)
    rw [(lab_jn s _ (cut_lab hb).2).1] at hl
    have hS : jnS ((cutL s).map smS) = fold s ∧ jnC ((cutL s).map smS) = 0 := ⟨j2, by rw [jnC, j1]; rfl⟩
    obtain ⟨L, hL⟩ : ∃ L, cutL s = L := ⟨_, rfl⟩
    rw [hL] at hS hl
    have hx : ∀ (k : Nat) x, L[k]? = some x → x.length ≤ 70000 := by
      intro k x hx
      have := (List.all_eq_true.1 (lab_jn s _ (cut_lab hb).2).2) x (by rw [hL]; exact List.mem_of_getElem? hx)
      have := (lblOk_iff.1 this).2; omega
    have hSh := Lib.hid hS
    have hbh := Lib.hid hb
    have hLh := Lib.hid hL
    have hxh := Lib.hid hx
    clear hb hS hL j1 j2 hx
    go_enter Try.func24, Try.ntmps24
    go_wp2_with (first
      | (go_at_call 43; refine (cut_any s hmm _).use ?_; rintro v w1 ⟨ao, cap, rfl, hr, hb1⟩; have hu1 := Upd0.of_below hb1; rw [hbh.out]; rw [hLh.out] at hr ⊢; have hrh := Lib.hid hr; clear hr)
      | (with_reducible refine wp_serial (by kernel_rfl) (by kernel_rfl) (by (repeat (first | (with_reducible apply NoBad.then) | (with_reducible apply NoBad.inBlock) | (with_reducible exact NoBad.rets))); done) ?_) | fail)
    go_loopw [19] (fun i wr => ∃ k : Nat, k ≤ L.length ∧ i = .int .i64 k ∧ Upd0 w wr ∧ Hid (wr.ownsRow w.heap.size 9 1 (.slice ao L.length cap) L.length (strs (foH L k)))) (fun i _ => L.length - (intOf i).toNat)
    case atStart => exact ⟨0, Nat.zero_le _, rfl, hu1, Lib.hid (by rw [foH_zero]; exact hrh.out)⟩
    case round =>
      obtain ⟨k, hk, rfl, hu, ho⟩ := hrel
      by_cases hlt : k < L.length
      · obtain ⟨g, rfl⟩ := ownsRow_some ho.out (by omega)
        have hgB := (ho.out.lt g rfl).1
        obtain ⟨x, hx⟩ : ∃ x, L[k]? = some x := ⟨L[k], List.getElem?_eq_getElem hlt⟩
        have hc := ownsRow_cell ho.out rfl (strs_get (foH_get L hx))
        have hxl := hxh.out k x hx
        have hst := Lib.hid (foH_step L hx)
        have hxx := Lib.hid hx
        clear hx
        go_wp2_with (first
          | (go_at_call 54; refine (small_w x hxl _).use ?_; rintro v w2 ⟨rfl, hu2⟩; have ho2 := Lib.hid (ownsRow_upd ho.out hu2 (fun _ _ h => h)); obtain ⟨cur, g1, g2, g3, g4, g5⟩ := ownsRow_blk ho2.out; have hf2 : w2.frozen? ⟨g, k, none⟩ = false := blk_frz g1 k; have hc2 := ownsRow_cell ho2.out rfl (strs_get (foH_get L hxx.out)); clear g1 g2 g3 g4 g5)
          | (with_reducible refine wp_serial (by kernel_rfl) (by kernel_rfl) (by (repeat (first | (with_reducible apply NoBad.then) | (with_reducible apply NoBad.inBlock) | (with_reducible exact NoBad.rets))); done) ?_) | fail)
        go_roundw
        case rel => exact ⟨k + 1, by omega, by go_num, Upd.setCell (by (repeat (first | (with_reducible exact Upd.refl _ _) | (with_reducible assumption) | (with_reducible apply Upd.drew) | (with_reducible apply Upd.alloc) | (refine Upd0.tr ?_ (by with_reducible assumption)) | (refine Upd.setCell ?_ (fun h => absurd h (by first | exact Nat.lt_irrefl _ | (simp only []; omega))) _))); done) (fun h => absurd h (by simp only []; omega)) _, Lib.hid (by
          have h3 := ownsRow_set1 (ownsRow_mono ho2.out (fun _ _ => Nat.zero_le _)) k (.string ⟨(smS x).toArray⟩)
          rw [strs_set, hst.out] at h3
          exact ownsRow_mono h3 (fun g' hg' => by cases hg'; exact hgB))⟩
        case measure => simp [intOf]; omega
      · have hsr : SR wr ao (L.map smS) := own_sr (by rw [← foH_all L (k := k) (by omega)]; exact ho.out) (by simp)
        have hj := Lib.hid (join_w ao cap (L.map smS) wr hsr (by simp; omega))
        rw [List.length_map, hSh.out.1, hSh.out.2] at hj
        go_wp2_with (first
          | (go_at_call 32; refine hj.out.use ?_; rintro v w2 ⟨rfl, hu2⟩)
          | (with_reducible refine wp_serial (by kernel_rfl) (by kernel_rfl) (by (repeat (first | (with_reducible apply NoBad.then) | (with_reducible apply NoBad.inBlock) | (with_reducible exact NoBad.rets))); done) ?_) | fail)
        all_goals go_returns
        all_goals exact ⟨rfl, (by (repeat (first | (with_reducible exact Upd.refl _ _) | (with_reducible assumption) | (with_reducible apply Upd.drew) | (with_reducible apply Upd.alloc) | (refine Upd0.tr ?_ (by with_reducible assumption)) | (refine Upd.setCell ?_ (fun h => absurd h (by first | exact Nat.lt_irrefl _ | (simp only []; omega))) _))); done)⟩
set_option maxRecDepth 100000 in
set_option maxHeartbeats 1000000 in
theorem rfold_w (s : Bs) (hm : s.length ≤ 70000) (w : World) : Calls Try.prog 28 #[.string ⟨s.toArray⟩] w (Rets fun r w' => r = .string ⟨(fold s).toArray⟩ ∧ Upd0 w w') := by
  have hmm : s.length ≤ maxLen := by unfold maxLen; omega
  cases hb : cutB s with
  | false =>
    have hf := Lib.hid (fold_no hb)
    have hbh := Lib.hid hb
    clear hb
    go_enter Try.func28, Try.ntmps28
    go_wp2_with (first
      | (go_at_call 47; refine (rcut_any s hmm _).use ?_; rintro v w1 ⟨ao, cap, rfl, hr, hb1⟩; have hu1 := hb1; rw [hbh.out]; clear hr)
      | (with_reducible refine wp_serial (by kernel_rfl) (by kernel_rfl) (by (repeat (first | (with_reducible apply NoBad.then) | (with_reducible apply NoBad.inBlock) | (with_reducible exact NoBad.rets))); done) ?_) | fail)
    all_goals go_returns
    all_goals exact ⟨by rw [hf.out]; rfl, (by (repeat (first | (with_reducible exact Upd.refl _ _) | (with_reducible assumption) | (with_reducible apply Upd.drew) | (with_reducible apply Upd.alloc) | (refine Upd0.tr ?_ (by with_reducible assumption)) | (refine Upd.setCell ?_ (fun h => absurd h (by first | exact Nat.lt_irrefl _ | (simp only []; omega))) _))); done)⟩
  | true =>
    obtain ⟨j1, j2⟩ := fold_join hb
    have hl := (lbls_len (cutL s) (lab_jn s _ (cut_lab hb).2).2)
    rw [(lab_jn s _ (cut_lab hb).2).1] at hl
    have hS : jnS ((cutL s).map smS) = fold s ∧ jnC ((cutL s).map smS) = 0 := ⟨j2, by rw [jnC, j1]; rfl⟩
    obtain ⟨L, hL⟩ : ∃ L, cutL s = L := ⟨_, rfl⟩
    rw [hL] at hS hl
    have hx : ∀ (k : Nat) x, L[k]? = some x → x.length ≤ 70000 := by
      intro k x hx
      have := (List.all_eq_true.1 (lab_jn s _ (cut_lab hb).2).2) x (by rw [hL]; exact List.mem_of_getElem? hx)
      have := (lblOk_iff.1 this).2; omega
    have hSh := Lib.hid hS
    have hbh := Lib.hid hb
    have hLh := Lib.hid hL
    have hxh := Lib.hid hx
    clear hb hS hL j1 j2 hx
    go_enter Try.func28, Try.ntmps28
    go_wp2_with (first
      | (go_at_call 47; refine (rcut_any s hmm _).use ?_; rintro v w1 ⟨ao, cap, rfl, hr, hb1⟩; have hu1 := hb1; rw [hbh.out]; rw [hLh.out] at hr ⊢; have hrh := Lib.hid hr; clear hr)
      | (with_reducible refine wp_serial (by kernel_rfl) (by kernel_rfl) (by (repeat (first | (with_reducible apply NoBad.then) | (with_reducible apply NoBad.inBlock) | (with_reducible exact NoBad.rets))); done) ?_) | fail)
    go_loopw [5] (fun i wr => ∃ k : Nat, k ≤ L.length ∧ i = .int .i64 k ∧ Upd0 w wr ∧ Hid (wr.ownsRow w.heap.size 9 1 (.slice ao L.length cap) L.length (strs (foH L k)))) (fun i _ => L.length - (intOf i).toNat)
    case atStart => exact ⟨0, Nat.zero_le _, rfl, hu1, Lib.hid (by rw [foH_zero]; exact hrh.out)⟩
    case round =>
      obtain ⟨k, hk, rfl, hu, ho⟩ := hrel
      by_cases hlt : k < L.length
      · obtain ⟨g, rfl⟩ := ownsRow_some ho.out (by omega)
        have hgB := (ho.out.lt g rfl).1
        obtain ⟨x, hx⟩ : ∃ x, L[k]? = some x := ⟨L[k], List.getElem?_eq_getElem hlt⟩
        have hc := ownsRow_cell ho.out rfl (strs_get (foH_get L hx))
        have hxl := hxh.out k x hx
        have hst := Lib.hid (foH_step L hx)
        have hxx := Lib.hid hx
        clear hx
        go_wp2_with (first
          | (go_at_call 55; refine (rsmall_w x hxl _).use ?_; rintro v w2 ⟨rfl, hu2⟩; have ho2 := Lib.hid (ownsRow_upd ho.out hu2 (fun _ _ h => h)); obtain ⟨cur, g1, g2, g3, g4, g5⟩ := ownsRow_blk ho2.out; have hf2 : w2.frozen? ⟨g, k, none⟩ = false := blk_frz g1 k; have hc2 := ownsRow_cell ho2.out rfl (strs_get (foH_get L hxx.out)); clear g1 g2 g3 g4 g5)
          | (with_reducible refine wp_serial (by kernel_rfl) (by kernel_rfl) (by (repeat (first | (with_reducible apply NoBad.then) | (with_reducible apply NoBad.inBlock) | (with_reducible exact NoBad.rets))); done) ?_) | fail)
        go_roundw
        case rel => exact ⟨k + 1, by omega, by go_num, Upd.setCell (by (repeat (first | (with_reducible exact Upd.refl _ _) | (with_reducible assumption) | (with_reducible apply Upd.drew) | (with_reducible apply Upd.alloc) | (refine Upd0.tr ?_ (by with_reducible assumption)) | (refine Upd.setCell ?_ (fun h => absurd h (by first | exact Nat.lt_irrefl _ | (simp only []; omega))) _))); done) (fun h => absurd h (by simp only []; omega)) _, Lib.hid (by
          have h3 := ownsRow_set1 (ownsRow_mono ho2.out (fun _ _ => Nat.zero_le _)) k (.string ⟨(smS x).toArray⟩)
          rw [strs_set, hst.out] at h3
          exact ownsRow_mono h3 (fun g' hg' => by cases hg'; exact hgB))⟩
        case measure => simp [intOf]; omega
      · have hsr : SR wr ao (L.map smS) := own_sr (by rw [← foH_all L (k := k) (by omega)]; exact ho.out) (by simp)
        have hj := Lib.hid (rjoin_w ao cap (L.map smS) wr hsr (by simp; omega))
        rw [List.length_map, hSh.out.1, hSh.out.2] at hj
        go_wp2_with (first
          | (go_at_call 33; refine hj.out.use ?_; rintro v w2 ⟨rfl, hu2⟩)
          | (with_reducible refine wp_serial (by kernel_rfl) (by kernel_rfl) (by (repeat (first | (with_reducible apply NoBad.then) | (with_reducible apply NoBad.inBlock) | (with_reducible exact NoBad.rets))); done) ?_) | fail)
        all_goals go_returns
        all_goals exact ⟨rfl, (by (repeat (first | (with_reducible exact Upd.refl _ _) | (with_reducible assumption) | (with_reducible apply Upd.drew) | (with_reducible apply Upd.alloc) | (refine Upd0.tr ?_ (by with_reducible assumption)) | (refine Upd.setCell ?_ (fun h => absurd h (by first | exact Nat.lt_irrefl _ | (simp only []; omega))) _))); done)⟩
end Go.Proofs.Ytdjleplefbmjbaa
