/-
  The document's tables: Done, Waits.
-/
import Derived.Test.YtebnilkcpklnmaaCoD
namespace Go.Proofs.Ytebnilkcpklnmaa
open Go.RowKit Go.Maps
set_option linter.unusedSimpArgs false
set_option linter.unusedVariables false
variable {B : Nat}
def isR (n : Int) (m : TkR) : Bool := isK n m.k
theorem findR_abs {x : Int} {M : List TkR} {L : List Tk} (h : M.map (·.k) = L) : L.find? (isK x) = (M.find? (isR x)).map (·.k) := by
  rw [← h, List.find?_map]
  rfl
theorem isK_iff {n : Int} {k : Tk} : isK n k = true ↔ (k.num : Int) = n := by simp [isK]
theorem find_take {α : Type} {p : α → Bool} {l : List α} {j : Nat} {x : α} (hx : l[j]? = some x) : (l.take (j + 1)).find? p = ((l.take j).find? p).or (if p x then some x else none) := by
  have : l.take (j + 1) = l.take j ++ [x] := by rw [List.take_add_one, hx]; rfl
  rw [this, List.find?_append]
  congr 1
  cases h : p x <;> simp [h]
theorem filter_take {α : Type} {p : α → Bool} {l : List α} {j : Nat} {x : α} (hx : l[j]? = some x) : (l.take (j + 1)).filter p = (l.take j).filter p ++ (if p x then [x] else []) := by
  have : l.take (j + 1) = l.take j ++ [x] := by rw [List.take_add_one, hx]; rfl
  rw [this, List.filter_append]
  congr 1
  cases h : p x <;> simp [h]
def lenR : Option TkR → Int
  | some m => m.k.cs.length
  | none => 0
def csR : Option TkR → List Cl
  | some m => m.k.cs
  | none => []
theorem waits_eq (n : Int) {s : Tb} {M : List TkR} (h : M.map (·.k) = s.L) : waits s n = lenR (M.find? (isR n)) := by
  rw [waits, findR_abs h]
  cases M.find? (isR n) <;> rfl
theorem doneB_eq (n : Int) {s : Tb} {M : List TkR} (h : M.map (·.k) = s.L) : doneB s n = (M.find? (isR n)).isSome := by
  rw [doneB, findR_abs h]
  cases M.find? (isR n) <;> rfl
theorem doneC_eq (n : Int) {s : Tb} {M : List TkR} (h : M.map (·.k) = s.L) : doneC s n = csR (M.find? (isR n)) := by
  rw [doneC, findR_abs h]
  cases M.find? (isR n) <;> rfl
theorem cells_one {m : TkR} {ao : Option Addr} {n c : Nat} (h : m.v = .slice ao n c) : m.cells.all (·.oneCell') = true := by
  simp only [TkR.cells, h]
  rfl
set_option maxRecDepth 100000 in
theorem rwaits_w (t : Nat) (s : Tb) (n : Int) (w : World) (h : Ro B w t s) : Calls Try.prog 25 #[.pointer (some ⟨t, 0, none⟩), .int .i64 n] w (Rets fun r w' => r = .int .i64 (waits s n) ∧ Upd0 w w') := by
  obtain ⟨hs, v, M, hc⟩ := h
  obtain ⟨c0, c1, c2, c3, c4⟩ := cell4 hc.blk
  have hM100 : M.length ≤ 100 := by have := hs.len; have := hs.r2; rw [← hc.abs, List.length_map] at *; omega
  obtain ⟨ao, cap, rfl⟩ := ownsRow_slice hc.row
  rw [waits_eq n hc.abs]
  have hh := Lib.hid hc
  clear hc
  go_enter Try.func25, Try.ntmps25
  go_wp2_with (first | (with_reducible refine wp_serial (by kernel_rfl) (by kernel_rfl) (by (repeat (first | (with_reducible apply NoBad.then) | (with_reducible apply NoBad.inBlock) | (with_reducible exact NoBad.rets))); done) ?_) | fail)
  go_loopw [5] (fun ii wr => ∃ j : Nat, j ≤ M.length ∧ ii = .int .i64 j ∧ w = wr ∧ Hid ((M.take j).find? (isR n) = none)) (fun ii _ => M.length - (intOf ii).toNat)
  case atStart => exact ⟨0, Nat.zero_le _, rfl, rfl, Lib.hid rfl⟩
  case round =>
    obtain ⟨j, hj, rfl, rfl, hno⟩ := hrel
    by_cases hlt : j < M.length
    · obtain ⟨g, rfl⟩ := ownsRow_some hh.out.row (by omega)
      obtain ⟨m, hm⟩ : ∃ m, M[j]? = some m := ⟨M[j], List.getElem?_eq_getElem hlt⟩
      obtain ⟨ak, ck, hv⟩ := ownsRow_slice (hh.out.tsk m (mem_get hm))
      have e0 := elem_cell rk_len hh.out.row hm 0 _ (by omega) rfl
      rw [Nat.add_zero] at e0
      have e3 := elem_cell rk_len hh.out.row hm 3 _ (by omega) rfl
      have hmh := Lib.hid hm
      rw [hv] at e3
      clear hm hv
      by_cases hn : (m.k.num : Int) = n
      · have hf : M.find? (isR n) = some m := by
          have e : M = M.take (j + 1) ++ M.drop (j + 1) := (List.take_append_drop _ _).symm
          rw [e, List.find?_append, find_take hmh.out, hno.out, show isR n m = true from isK_iff.2 hn]
          rfl
        have hfh := Lib.hid hf
        clear hf
        go_wp2_with (first | (with_reducible refine wp_serial (by kernel_rfl) (by kernel_rfl) (by (repeat (first | (with_reducible apply NoBad.then) | (with_reducible apply NoBad.inBlock) | (with_reducible exact NoBad.rets))); done) ?_) | fail)
        all_goals go_returns
        all_goals exact ⟨by rw [hfh.out]; rfl, (by (repeat (first | (with_reducible exact Upd.refl _ _) | (with_reducible assumption) | (with_reducible apply Upd.drew) | (with_reducible apply Upd.alloc) | (refine Upd0.tr ?_ (by with_reducible assumption)) | (refine Upd.setCell ?_ (fun h => absurd h (by first | exact Nat.lt_irrefl _ | (simp only []; omega))) _))); done)⟩
      · have hn' := Lib.hid (show isR n m = false by cases e : isR n m; rfl; exact absurd (isK_iff.1 e) hn)
        go_wp2_with (first | (with_reducible refine wp_serial (by kernel_rfl) (by kernel_rfl) (by (repeat (first | (with_reducible apply NoBad.then) | (with_reducible apply NoBad.inBlock) | (with_reducible exact NoBad.rets))); done) ?_) | fail)
        go_roundw
        case rel => exact ⟨j + 1, by omega, by go_num, by first | rfl | trivial, Lib.hid (by rw [find_take hmh.out, hno.out, hn'.out]; rfl)⟩
        case measure => simp [intOf]; omega
    · have hf : M.find? (isR n) = none := by
        have := hno.out
        rwa [List.take_of_length_le (by omega)] at this
      have hfh := Lib.hid hf
      clear hf
      go_wp2_with (first | (with_reducible refine wp_serial (by kernel_rfl) (by kernel_rfl) (by (repeat (first | (with_reducible apply NoBad.then) | (with_reducible apply NoBad.inBlock) | (with_reducible exact NoBad.rets))); done) ?_) | fail)
      all_goals go_returns
      all_goals exact ⟨by rw [hfh.out]; rfl, (by (repeat (first | (with_reducible exact Upd.refl _ _) | (with_reducible assumption) | (with_reducible apply Upd.drew) | (with_reducible apply Upd.alloc) | (refine Upd0.tr ?_ (by with_reducible assumption)) | (refine Upd.setCell ?_ (fun h => absurd h (by first | exact Nat.lt_irrefl _ | (simp only []; omega))) _))); done)⟩
theorem RoIs.done {w wr : World} {t : Nat} {v vo : Value} {s : Tb} {M : List TkR} (h : RoIs B w t v s M) (hu : Upd0 w wr) (n : Int) {k : Nat} (hk : k = (M.filter fun m => !isR n m).length) (hr : wr.ownsRow w.heap.size 89 4 vo k (rks (M.filter fun m => !isR n m))) :
    RoIs B (wr.setCell ⟨t, 3, none⟩ vo) t vo (doneT s n) (M.filter fun m => !isR n m) ∧ UpdR B w (wr.setCell ⟨t, 3, none⟩ vo) := by
  subst hk
  have ht := blk_lt h.blk
  have hU : Upd (fun b => b = t) w (wr.setCell ⟨t, 3, none⟩ vo) := Upd.setCell (S := fun b => b = t) (p := ⟨t, 3, none⟩) (hu.mono (fun _ _ h => h.elim)) (fun _ => rfl) _
  have hset : Upd (fun b => b = t) wr (wr.setCell ⟨t, 3, none⟩ vo) := (Upd.refl (fun b => b = t) wr).setCell (p := ⟨t, 3, none⟩) (fun _ => rfl) _
  refine ⟨⟨by simpa [doneT] using blk_set (hu.block (fun h => h) h.blk) 3 vo, ?_, ?_, fun m hm => ?_, h.dv.sublist List.filter_sublist, h.lo.1, fun b hb => by have := (hr.lt b hb).1; have := h.lo.1; omega, fun m hm => h.lo.2.2 m (List.mem_filter.1 hm).1⟩, hU.mono fun b _ hb => ⟨by rw [hb]; exact h.lo.1, by rw [hb, h.blk]; rfl⟩⟩
  · refine ownsRow_upd (ownsRow_mono hr (fun _ _ => Nat.zero_le _)) hset fun g hg e => ?_
    have := (hr.lt g hg).1
    omega
  · simp only [doneT]
    rw [← h.abs, List.filter_map]
    rfl
  · refine ownsRow_upd (h.tsk m (List.mem_filter.1 hm).1) hU fun g hg e => ?_
    exact row_ne (h.tsk m (List.mem_filter.1 hm).1) h.blk (by rw [hg, e])
def lv : Option TkR → Value
  | some m => m.v
  | none => .slice none 0 0
set_option maxRecDepth 100000 in
set_option maxHeartbeats 1000000 in
theorem rdone_w (t : Nat) (s : Tb) (n : Int) (w : World) (h : Ro B w t s) : Calls Try.prog 21 #[.pointer (some ⟨t, 0, none⟩), .int .i64 n] w (Rets fun r w' =>
    ∃ v, r = .tuple #[v, .bool (doneB s n)] ∧ w'.ownsRow 0 36 3 v (doneC s n).length (cls (doneC s n)) ∧ UpdR B w w' ∧ Ro B w' t (doneT s n)) := by
  obtain ⟨hs, v, M, hc⟩ := h
  have hblk := Lib.hid hc.blk
  have hM100 : M.length ≤ 100 := by have := hs.len; have := hs.r2; rw [← hc.abs, List.length_map] at *; omega
  obtain ⟨ao, cap, rfl⟩ := ownsRow_slice hc.row
  rw [doneB_eq n hc.abs, doneC_eq n hc.abs]
  have hh := Lib.hid hc
  obtain ⟨i1, z1, hi1, hx0, hx3, hx1, hx2⟩ := info_rtk'
  clear hc
  go_enter Try.func21, Try.ntmps21
  go_wp2_with (first | (with_reducible refine wp_serial (by kernel_rfl) (by kernel_rfl) (by (repeat (first | (with_reducible apply NoBad.then) | (with_reducible apply NoBad.inBlock) | (with_reducible exact NoBad.rets))); done) ?_) | fail)
  go_loopw [6, 7, 8, 9] (fun vo vl vb ii wr => ∃ (j : Nat) (k : Nat), j ≤ M.length ∧ ii = .int .i64 j ∧ k ≤ j ∧ Upd0 w wr ∧ vl = lv ((M.take j).find? (isR n)) ∧ vb = .bool ((M.take j).find? (isR n)).isSome ∧ Hid (k = ((M.take j).filter fun m => !isR n m).length) ∧
    Hid (wr.ownsRow w.heap.size 89 4 vo k (rks ((M.take j).filter fun m => !isR n m)))) (fun _ _ _ ii _ => M.length - (intOf ii).toNat)
  case atStart => exact ⟨0, 0, Nat.zero_le _, rfl, Nat.le_refl _, Upd.refl _ _, rfl, rfl, Lib.hid rfl, Lib.hid ⟨rfl, .inl ⟨rfl, rfl⟩⟩⟩
  case round =>
    obtain ⟨j, k, hj, rfl, hkj, hu, rfl, rfl, hk, ho⟩ := hrel
    have hR := Lib.hid (hh.out.to0 hu)
    obtain ⟨c0, c1, c2, c3, c4⟩ := cell4 hR.out.blk
    by_cases hlt : j < M.length
    · obtain ⟨g, rfl⟩ := ownsRow_some hR.out.row (by omega)
      obtain ⟨m, hm⟩ : ∃ m, M[j]? = some m := ⟨M[j], List.getElem?_eq_getElem hlt⟩
      have e0 := elem_cell rk_len hR.out.row hm 0 _ (by omega) rfl
      rw [Nat.add_zero] at e0
      have e1 := elem_cell rk_len hR.out.row hm 1 _ (by omega) rfl
      have e2 := elem_cell rk_len hR.out.row hm 2 _ (by omega) rfl
      have e3 := elem_cell rk_len hR.out.row hm 3 _ (by omega) rfl
      have hmh := Lib.hid hm
      obtain ⟨ak, ck, hv⟩ := ownsRow_slice (hR.out.tsk m (mem_get hm))
      have hone := Lib.hid (cells_one hv)
      rw [hv] at e3
      have hvh := Lib.hid hv
      clear hm hv
      by_cases hn : (m.k.num : Int) = n
      · have hn' : isR n m = true := isK_iff.2 hn
        have hno : (M.take j).find? (isR n) = none := by
          rw [List.find?_eq_none]
          intro x hx hxn
          obtain ⟨i, hi⟩ := List.getElem?_of_mem hx
          rw [List.getElem?_take] at hi
          split at hi
          · rename_i hij
            have hab : ∀ (i : Nat) (m : TkR), M[i]? = some m → s.L[i]? = some m.k := fun i m hm => by rw [← hh.out.abs, List.getElem?_map, hm]; rfl
            have := pw_get hs.asc hij (hab i x hi) (hab j m hmh.out)
            have := isK_iff.1 hxn
            omega
          · cases hi
        have hf1 := Lib.hid (show (M.take (j + 1)).find? (isR n) = some m by rw [find_take hmh.out, hno, hn']; rfl)
        have hf2 := Lib.hid (show (M.take (j + 1)).filter (fun m => !isR n m) = (M.take j).filter (fun m => !isR n m) by rw [filter_take hmh.out, hn']; simp)
        clear hn' hno
        go_wp2_with (first | (with_reducible refine wp_serial (by kernel_rfl) (by kernel_rfl) (by (repeat (first | (with_reducible apply NoBad.then) | (with_reducible apply NoBad.inBlock) | (with_reducible exact NoBad.rets))); done) ?_) | fail)
        go_roundw
        case rel => exact ⟨j + 1, k, by omega, by go_num, by omega, (by (repeat (first | (with_reducible exact Upd.refl _ _) | (with_reducible assumption) | (with_reducible apply Upd.drew) | (with_reducible apply Upd.alloc) | (refine Upd0.tr ?_ (by with_reducible assumption)) | (refine Upd.setCell ?_ (fun h => absurd h (by first | exact Nat.lt_irrefl _ | (simp only []; omega))) _))); done), by rw [hf1.out]; exact hvh.out.symm, by rw [hf1.out]; rfl, Lib.hid (by rw [hf2.out]; exact hk.out), Lib.hid (by rw [hf2.out]; exact ho.out)⟩
        case measure => simp [intOf]; omega
      · have hn' : isR n m = false := by cases e : isR n m; rfl; exact absurd (isK_iff.1 e) hn
        have hf1 := Lib.hid (show (M.take (j + 1)).find? (isR n) = (M.take j).find? (isR n) by rw [find_take hmh.out, hn']; simp)
        have hf2 := Lib.hid (show (M.take (j + 1)).filter (fun m => !isR n m) = (M.take j).filter (fun m => !isR n m) ++ [m] by rw [filter_take hmh.out, hn']; simp)
        clear hn'
        have ho0 := Lib.hid (ownsRow_mono ho.out (fun _ _ => Nat.zero_le _) : wr.ownsRow 0 _ _ _ _ _)
        have hz := hu.size
        go_wp2_with (first
          | (at_builtin; (refine wpList_app (w := wr) (by (repeat (first | exact Ext.refl _ | assumption | apply Ext.drew | apply Ext.alloc)); done) rfl (.tmp 37) (.tmp 45) 29 rfl 89 i1 _ 4 56 Try.underlying29 hi1 hx0 hx1 hx2 hx3 (by decide) _ _ _ ho0.out rfl _ _ _ m.cells rfl rfl (by have := alloc_last wr (.cells m.cells.toArray 89 (0, 0)) wr.heap.size rfl; simp only [TkR.cells, hvh.out] at this ⊢; exact this) hone.out (by omega) (by omega) ?_; intro ao' cap' w6 hr6 hu6 hf6; have hr6h := Lib.hid hr6; have hu6h := Lib.hid hu6; have hf6h := Lib.hid hf6; clear hr6 hu6 hf6))
          | (with_reducible refine wp_serial (by kernel_rfl) (by kernel_rfl) (by (repeat (first | (with_reducible apply NoBad.then) | (with_reducible apply NoBad.inBlock) | (with_reducible exact NoBad.rets))); done) ?_) | fail)
        go_roundw
        case rel => 
          have hfr : ∀ g, (Value.slice ao' (k + 1) cap').ownBlock = some g → w.heap.size ≤ g := fun g hg => by
            rcases hf6h.out g hg with e | e
            · exact (ho.out.lt g e).1
            · simp at e; omega
          refine ⟨j + 1, k + 1, by omega, by go_num, by omega, ?_, by rw [hf1.out], by rw [hf1.out], Lib.hid (by rw [hf2.out, List.length_append, ← hk.out]; rfl), Lib.hid (by rw [hf2.out]; simpa [rks] using ownsRow_mono hr6h.out hfr)⟩
          refine Upd.trans (S := fun _ => False) (hu.tr (by (repeat (first | (with_reducible exact Upd.refl _ _) | (with_reducible assumption) | (with_reducible apply Upd.drew) | (with_reducible apply Upd.alloc) | (refine Upd0.tr ?_ (by with_reducible assumption)) | (refine Upd.setCell ?_ (fun h => absurd h (by first | exact Nat.lt_irrefl _ | (simp only []; omega))) _))); done)) hu6h.out fun b hb e => ?_
          have := (ho.out.lt b e).1
          omega
        case measure => simp [intOf]; omega
    · have hje : j = M.length := by omega
      subst hje
      have hd := Lib.hid (hh.out.done hu n (k := k) (by have := hk.out; rwa [List.take_length] at this) (by have := ho.out; rwa [List.take_length] at this))
      obtain ⟨ao2, cap2, rfl⟩ := ownsRow_slice ho.out
      obtain ⟨fo, hfo⟩ : ∃ fo, M.find? (isR n) = fo := ⟨_, rfl⟩
      rw [List.take_length, hfo]
      have hfoh := Lib.hid hfo
      clear hfo
      go_wp2_with (first | (with_reducible refine wp_serial (by kernel_rfl) (by kernel_rfl) (by (repeat (first | (with_reducible apply NoBad.then) | (with_reducible apply NoBad.inBlock) | (with_reducible exact NoBad.rets))); done) ?_) | fail)
      all_goals go_returns
      obtain ⟨a1, a2⟩ := hd.out
      refine ⟨lv fo, by rw [hfoh.out]; rfl, ?_, a2, hs.done n, _, _, a1⟩
      rw [hfoh.out]
      cases fo with
      | none => exact ⟨rfl, .inl ⟨rfl, rfl⟩⟩
      | some m =>
        have hm := hR.out.tsk m (List.mem_of_find?_eq_some hfoh.out)
        exact ownsRow_upd hm ((Upd.refl (fun b => b = t) wr).setCell (p := ⟨t, 3, none⟩) (fun _ => rfl) _) (fun g hg e => row_ne hm hR.out.blk (show m.v.ownBlock = some t from by rw [← e]; exact hg))
end Go.Proofs.Ytebnilkcpklnmaa
