/-
  The document's tables: Ask, of a question that a task has.
-/
import Derived.Test.YtebnilkcpklnmaaCoD
namespace Go.Proofs.Ytebnilkcpklnmaa
open Go.RowKit Go.Maps
set_option linter.unusedSimpArgs false
set_option linter.unusedVariables false
variable {B : Nat}
theorem rks_set {k : Tk} {vk v' : Value} {c : Cl} : ∀ {M : List TkR} {i : Nat}, M[i]? = some ⟨k, vk⟩ → rks (M.set i ⟨k.add c, v'⟩) = (rks M).set (i * 4 + 3) v'
  | [], i, h => by simp at h
  | m :: M, 0, h => by
    simp only [List.getElem?_cons_zero, Option.some.injEq] at h
    subst h
    rfl
  | m :: M, i + 1, h => by
    have ih := rks_set (M := M) (i := i) (c := c) (v' := v') (by simpa using h)
    simp only [rks] at ih
    rw [List.set_cons_succ]
    simp only [rks, List.flatMap_cons]
    rw [ih, List.set_append_right _ _ (by simp [rk_len]; omega), rk_len]
    congr 2
    omega
theorem _root_.Go.Proofs.Ytebnilkcpklnmaa.Upd.rows {w W w6 : World} {vk v : Value} {n n' : Nat} {xs ys : List Value} (hu : Upd (fun k => vk.ownBlock = some k) W w6) (hk : w.ownsRow 0 36 3 vk n xs) (h : w.ownsRow 0 89 4 v n' ys) (h0 : Upd0 w W) : w6.ownsRow 0 89 4 v n' ys := by
  refine ownsRow_upd (ownsRow_upd h h0 (fun _ _ h => h)) hu fun g hg e => ?_
  obtain ⟨cur, hc⟩ := kind_row h hg
  exact row_ne hk hc e
theorem add_cells {w : World} {M : List TkR} {n g cap i : Nat} {m : TkR} (h : w.ownsRow 0 89 4 (.slice (some ⟨g, 0, none⟩) n cap) n (rks M)) (hi : M[i]? = some m) :
    w.cell? ⟨g, i * 4, none⟩ = some (.int .i64 m.k.num) ∧ w.cell? ⟨g, i * 4 + 3, none⟩ = some m.v ∧ ∀ j, w.frozen? ⟨g, j, none⟩ = false := by
  obtain ⟨cur, hc⟩ := kind_row h (g := g) rfl
  exact ⟨elem_cell rk_len h hi 0 _ (by omega) rfl, elem_cell rk_len h hi 3 _ (by omega) rfl, fun j => blk_frz hc j⟩
theorem RoIs.add {w W w6 : World} {t : Nat} {s : Tb} {M : List TkR} {g n cap : Nat} (h : RoIs B w t (.slice (some ⟨g, 0, none⟩) n cap) s M) {i : Nat} {k : Tk} {v v' : Value} (hi : M[i]? = some ⟨k, v⟩) {c : Cl} (h0 : Upd0 w W) (hu : Upd (fun b => v.ownBlock = some b) W w6)
    (hr : w6.ownsRow 0 36 3 v' (k.cs.length + 1) (cls k.cs ++ c.cells)) (hf : Fresh W v v') :
    RoIs B (w6.setCell ⟨g, i * 4 + 3, none⟩ v') t (.slice (some ⟨g, 0, none⟩) n cap) { s with L := s.L.set i (k.add c) } (M.set i ⟨k.add c, v'⟩) ∧ UpdR B w (w6.setCell ⟨g, i * 4 + 3, none⟩ v') := by
  have hm := h.tsk _ (mem_get hi)
  have hrow := h.row
  obtain ⟨rc, hrb⟩ := kind_row hrow (g := g) rfl
  have hz := h0.size
  have hn : n = M.length := by
    rcases hrow.2 with ⟨e, _⟩ | ⟨_, _, _, e, _⟩
    · cases e
    · injection e
  subst hn
  have hvg : v.ownBlock ≠ some g := fun e => row_ne hm hrb e
  have hU : Upd (fun b => b = g ∨ v.ownBlock = some b) w (w6.setCell ⟨g, i * 4 + 3, none⟩ v') := Upd.setCell ((h0.mono (fun _ _ h => h.elim)).trans hu (fun _ _ h => .inr h)) (fun _ => .inl rfl) _
  have hv'g : v'.ownBlock ≠ some g := fun e => by
    rcases hf g e with e | e
    · exact hvg e
    · have := blk_lt hrb; omega
  have hset : Upd (fun b => b = g) w6 (w6.setCell ⟨g, i * 4 + 3, none⟩ v') := (Upd.refl (fun b => b = g) w6).setCell (p := ⟨g, i * 4 + 3, none⟩) (fun _ => rfl) _
  have htg : ¬ (t = g ∨ v.ownBlock = some t) := by
    rintro (e | e)
    · rw [e] at h; exact row_ne hrow h.blk rfl
    · exact row_ne hm h.blk e
  have hns : ∀ (j : Nat) (m : TkR), M[j]? = some m → j ≠ i → ∀ b, m.v.ownBlock = some b → ¬ (b = g ∨ v.ownBlock = some b) := fun j m hj hji b hb => by
    rintro (e | e)
    · exact row_ne (h.tsk m (mem_get hj)) hrb (by rw [hb, e])
    · rcases Nat.lt_or_gt_of_ne hji with hij | hij
      · exact pw_get h.dv hij hj hi b hb e
      · exact pw_get h.dv hij hi hj b e hb
  have hBt := h.lo.1
  have htl := blk_lt h.blk
  have hB' : ∀ b, v'.ownBlock = some b → B ≤ b := fun b hb => by
    rcases hf b hb with e | e
    · exact h.lo.2.2 _ (mem_get hi) b e
    · omega
  refine ⟨⟨hU.block htg h.blk, ?_, by rw [List.map_set, h.abs], fun m hmm => ?_, ?_, h.lo.1, h.lo.2.1, fun m hmm => ?_⟩, hU.mono fun n hn hs => ?_⟩
  · have h6 := hu.rows hm hrow h0
    have := ownsRow_set1 h6 (i * 4 + 3) v'
    rw [rks_set hi, List.length_set]
    exact this
  · obtain ⟨j, hj⟩ := List.getElem?_of_mem hmm
    by_cases hji : j = i
    · subst hji
      rw [List.getElem?_set_self (get_lt hi)] at hj
      injection hj with hj
      subst hj
      have := ownsRow_upd hr hset (fun b hb e => hv'g (by rw [hb, e]))
      simpa [Tk.add, cls_app, cls_one] using this
    · rw [List.getElem?_set_ne (fun e => hji e.symm)] at hj
      exact ownsRow_upd (h.tsk m (mem_get hj)) hU (hns j m hj hji)
  · refine pw_set h.dv (get_lt hi) (fun j a hj ha b hb hb' => ?_) (fun j a hj ha b hb hb' => ?_)
    all_goals
      have hlt := ownsRow_lt (h.tsk a (mem_get ha)) (by assumption : a.v.ownBlock = some b)
      rcases hf b (by assumption) with e | e
      · exact hns j a ha (by omega) b (by assumption) (.inr e)
      · omega
  · rcases List.mem_or_eq_of_mem_set hmm with hmm | rfl
    · exact h.lo.2.2 m hmm
    · exact hB'
  · rcases hs with rfl | hs
    · exact ⟨h.lo.2.1 _ rfl, by rw [hrb]; rfl⟩
    · obtain ⟨cur, hc⟩ := kind_row hm hs
      exact ⟨h.lo.2.2 _ (mem_get hi) n hs, by rw [hc]; rfl⟩
set_option maxRecDepth 100000 in
set_option maxHeartbeats 2000000 in
theorem rask_hit (t : Nat) (v : Value) (s : Tb) (M : List TkR) (q : Bs) (ty : Int) (c : Cl) (hq : q.length ≤ 70000) (hn : c.nm.length ≤ maxLen) (w : World) (h : RoIs B w t v s M) (hs : s.ok) (hl : s.last ≤ 1000000) (hok : okQ q c = true) {i : Nat} {k : Tk} (hk : lookK (fold q) ty s.L = some (i, k)) :
    Calls Try.prog 19 #[.pointer (some ⟨t, 0, none⟩), .agg #[.string ⟨q.toArray⟩, .int .i64 ty], c.val] w (Rets fun r w' =>
      (s.most ≤ k.cs.length ∧ r = .tuple #[.int .i64 0, .bool false, .int .i64 4] ∧ Upd0 w w') ∨
      ((k.cs.length : Int) < s.most ∧ r = .tuple #[.int .i64 k.num, .bool false, .int .i64 0] ∧ UpdR B w w' ∧ Ro B w' t { s with L := s.L.set i (k.add c) })) := by
  have hqm : q.length ≤ maxLen := by unfold maxLen; omega
  have hb1 : cutB q = true := by simp [okQ] at hok; exact hok.1
  have hb2 : cutB c.nm = true := by simp [okQ] at hok; exact hok.2
  have hc1 := Lib.hid (show checkC q = 0 by rw [checkC, hb1]; rfl)
  have hc2 := Lib.hid (show checkC c.nm = 0 by rw [checkC, hb2]; rfl)
  obtain ⟨F, hF⟩ : ∃ F, fold q = F := ⟨_, rfl⟩
  rw [hF] at hk
  have hFh := Lib.hid hF
  have hlen : M.length = s.L.length := by rw [← h.abs]; simp
  have hM100 : M.length ≤ 100 := by have := hs.len; have := hs.r2; omega
  have hlenh := Lib.hid hlen
  obtain ⟨h1, h2, h3⟩ := lookK_some hk
  have hmiss := Lib.hid (show ∀ (j : Nat) m, j < i → M[j]? = some m → hitK F ty m.k = false from fun j m hj hm => h3 j m.k hj (by rw [← h.abs, List.getElem?_map, hm]; rfl))
  obtain ⟨vk, hMi⟩ : ∃ vk, M[i]? = some ⟨k, vk⟩ := by
    have h4 : (M.map (·.k))[i]? = some k := by rw [h.abs]; exact h1
    rw [List.getElem?_map] at h4
    obtain ⟨m, hm, rfl⟩ := Option.map_eq_some_iff.1 h4
    exact ⟨m.v, hm⟩
  obtain ⟨ak, ck, hvk⟩ := ownsRow_slice (h.tsk _ (mem_get hMi))
  simp only [] at hvk
  subst hvk
  have hcl : (k.cs.length : Int) ≤ 100 := by have := hs.cs k (mem_get h1); have := hs.m2; omega
  have hiM := get_lt hMi
  obtain ⟨f1, f2⟩ := hitK_iff.1 h2
  have h1 := Lib.hid h1
  have hMi := Lib.hid hMi
  obtain ⟨i0, hi0, hz0, hz1, hz2⟩ := info_parts info_rcl
  obtain ⟨ao, cap, rfl⟩ := ownsRow_slice h.row
  have hh := Lib.hid h
  have hblk := Lib.hid h.blk
  have ht := blk_lt h.blk
  have tk0 : True := trivial
  obtain ⟨node, id, nm⟩ := c
  simp only [Cl.val] at hb2 hc2 hn ⊢
  clear h hF hlen hok hk h3 h2
  go_enter Try.func19, Try.ntmps19
  go_upto_region 3 with (first
    | (go_at_call 42; have _t := tk0; (with_reducible refine (rcheck_any q hqm _).use ?_); rintro v w1 ⟨rfl, hu1⟩; rw [hc1.out]; have z0 := Lib.hid (hu1.block (fun h => h) (blk_alloc (alloc_last w _ w.heap.size rfl))); have z1 := Lib.hid (hu1.block (fun h => h) (alloc_last _ _ (w.heap.size + 1) (by simp))); obtain ⟨d0, d1, d2, d3⟩ := cell3 z1.out; have y1 : w.heap.size + 2 ≤ w1.heap.size := (by have := hu1.size; simpa using this); clear tk0 _t)
    | (go_at_call 42; (with_reducible refine (rcheck_any nm hn _).use ?_); rintro v w2 ⟨rfl, hu2⟩; rw [hc2.out]; have x0 := Lib.hid (hu2.block (fun h => h) z0.out); have x1 := Lib.hid (hu2.block (fun h => h) z1.out); obtain ⟨e0, e1, e2⟩ := cell2 x0.out; have y2 := hu2.size)
    | (with_reducible refine wp_serial (by kernel_rfl) (by kernel_rfl) (by (repeat (first | (with_reducible apply NoBad.then) | (with_reducible apply NoBad.inBlock) | (with_reducible exact NoBad.rets))); done) ?_) | fail)
  go_cut [9] from 21 (fun p wx => ∃ bx, p = .pointer (some ⟨bx, 0, none⟩) ∧ w.heap.size + 2 ≤ bx ∧ Upd0 w wx ∧ Hid (wx.heap[w.heap.size + 1]? = some (.cells #[.int .i64 node, .int .i64 id, .string ⟨nm.toArray⟩] 36 (0, 0))) ∧ Hid (wx.heap[bx]? = some (.cells #[.string ⟨F.toArray⟩, .int .i64 ty] 34 (0, 0))))
  case first =>
    go_wp2_with (first
      | (with_reducible refine wp_serial6 0 [] 6 2 [0, 1, 3, 4, 6] [5, 7] [0, 1, 3, 4] [5, 6, 7] [_, _, _, _, _] _ [_, _] [_, _, _, _] [_, _, _] (by kernel_rfl) (by decide +kernel) rfl rfl rfl rfl rfl ⟨Nat.zero_le _, fun s hs => absurd hs List.not_mem_nil⟩ (by (repeat (first | (with_reducible apply NoBad.then) | (with_reducible apply NoBad.inBlock) | (with_reducible exact NoBad.rets))); done) ?_ ?_)
      | (go_at_call 26; (with_reducible refine (rfold_w q hq _).use ?_); rintro v w3 ⟨rfl, hu3⟩; rw [hFh.out]; obtain ⟨f0, f1, f2⟩ := cell2 (hu3.block (fun h => h) (alloc_at (w := w2) _ rfl rfl)))
      | (go_at_call 26; (with_reducible refine (rfold_w q hq _).use ?_); rintro v w3 ⟨rfl, hu3⟩; rw [hFh.out])
      | (refine And.intro hu3.ext ?_)
      | fail)
    all_goals go_meet
    · exact ⟨_, rfl, by omega, (by (repeat (first | (with_reducible exact Upd.refl _ _) | (with_reducible assumption) | (with_reducible apply Upd.drew) | (with_reducible apply Upd.alloc) | (refine Upd0.tr ?_ (by with_reducible assumption)) | (refine Upd.setCell ?_ (fun h => absurd h (by first | exact Nat.lt_irrefl _ | (simp only []; omega))) _))); done), Lib.hid ((blk_set_other (by omega) _ _).trans ((blk_set_other (by omega) _ _).trans (hu3.block (fun h => h) (blk_alloc x1.out)))), Lib.hid (by simpa using blk_set (blk_set (hu3.block (fun h => h) (alloc_at (w := w2) _ rfl rfl)) 0 (.string ⟨F.toArray⟩)) 1 (.int .i64 ty))⟩
    · have y3 : w2.heap.size ≤ w3.heap.size := hu3.size
      exact ⟨_, rfl, by omega, (by (repeat (first | (with_reducible exact Upd.refl _ _) | (with_reducible assumption) | (with_reducible apply Upd.drew) | (with_reducible apply Upd.alloc) | (refine Upd0.tr ?_ (by with_reducible assumption)) | (refine Upd.setCell ?_ (fun h => absurd h (by first | exact Nat.lt_irrefl _ | (simp only []; omega))) _))); done), Lib.hid (blk_alloc (hu3.block (fun h => h) x1.out)), Lib.hid (alloc_last _ _ _ rfl)⟩
  case rest =>
    obtain ⟨bx, rfl, hbx, hu0, b1, bb⟩ := hcut
    go_wp2_with (first | (with_reducible refine wp_serial (by kernel_rfl) (by kernel_rfl) (by (repeat (first | (with_reducible apply NoBad.then) | (with_reducible apply NoBad.inBlock) | (with_reducible exact NoBad.rets))); done) ?_) | fail)
    go_loopw [10] (fun ii wr => ∃ j : Nat, j ≤ i ∧ ii = .int .i64 j ∧ Upd0 w wr ∧ w.heap.size + 2 ≤ wr.heap.size ∧ Hid (wr.heap[w.heap.size + 1]? = some (.cells #[.int .i64 node, .int .i64 id, .string ⟨nm.toArray⟩] 36 (0, 0))) ∧ Hid (wr.heap[bx]? = some (.cells #[.string ⟨F.toArray⟩, .int .i64 ty] 34 (0, 0)))) (fun ii _ => i - (intOf ii).toNat)
    case atStart => exact ⟨0, Nat.zero_le _, rfl, hu0, by have := blk_lt b1.out; omega, b1, bb⟩
    case round =>
      obtain ⟨j, hj, rfl, hu, hsz, r1, rb⟩ := hrel
      clear b1 bb hu0
      have hR := Lib.hid (hh.out.to0 hu)
      have hb := hR.out.blk
      obtain ⟨c0, c1, c2, c3, c4⟩ := cell4 hb
      obtain ⟨q0, q1, q2⟩ := cell2 rb.out
      obtain ⟨p0, p1, p2, p3⟩ := cell3 r1.out
      obtain ⟨g, rfl⟩ := ownsRow_some hR.out.row (by omega)
      by_cases hlt : j < i
      · obtain ⟨m, hm⟩ : ∃ m, M[j]? = some m := ⟨M[j]'(by omega), List.getElem?_eq_getElem (by omega)⟩
        have e0 := elem_cell rk_len hR.out.row hm 0 _ (by omega) rfl
        have e1 := elem_cell rk_len hR.out.row hm 1 _ (by omega) rfl
        have e2 := elem_cell rk_len hR.out.row hm 2 _ (by omega) rfl
        have hn0 := hmiss.out j m hlt hm
        have hd : ¬ m.k.q = F ∨ (m.k.q = F ∧ ¬ m.k.ty = ty) := by
          by_cases e1 : m.k.q = F
          · exact .inr ⟨e1, fun e2 => by rw [hitK_iff.2 ⟨e1, e2⟩] at hn0; cases hn0⟩
          · exact .inl e1
        have hjM : j < M.length := by omega
        clear hn0 hb hm
        rcases hd with f1 | ⟨f1, f2⟩
        all_goals
          go_wp2_with (first | (with_reducible refine wp_serial (by kernel_rfl) (by kernel_rfl) (by (repeat (first | (with_reducible apply NoBad.then) | (with_reducible apply NoBad.inBlock) | (with_reducible exact NoBad.rets))); done) ?_) | fail)
          go_roundw
          case rel => exact ⟨j + 1, by omega, by go_num, (by (repeat (first | (with_reducible exact Upd.refl _ _) | (with_reducible assumption) | (with_reducible apply Upd.drew) | (with_reducible apply Upd.alloc) | (refine Upd0.tr ?_ (by with_reducible assumption)) | (refine Upd.setCell ?_ (fun h => absurd h (by first | exact Nat.lt_irrefl _ | (simp only []; omega))) _))); done), hsz, r1, rb⟩
          case measure => simp [intOf]; omega
      · have hje : j = i := by omega
        subst hje
        have e0 := elem_cell rk_len hR.out.row hMi.out 0 _ (by omega) rfl
        have e1 := elem_cell rk_len hR.out.row hMi.out 1 _ (by omega) rfl
        have e2 := elem_cell rk_len hR.out.row hMi.out 2 _ (by omega) rfl
        have e3 := elem_cell rk_len hR.out.row hMi.out 3 _ (by omega) rfl
        simp only [] at e0 e1 e2 e3
        have hrow := Lib.hid (show wr.ownsRow 0 36 3 (.slice ak k.cs.length ck) k.cs.length (cls k.cs) from hR.out.tsk _ (mem_get hMi.out))
        obtain ⟨rc, rblk⟩ := kind_row hR.out.row (g := g) rfl
        have rblk := Lib.hid rblk
        have hgt : ¬ g = t := fun e => row_ne hR.out.row hR.out.blk (by rw [e]; rfl)
        have htg : ¬ t = g := fun e => hgt e.symm
        have hgl := blk_lt rblk.out
        have hta : ¬ t = wr.heap.size := fun e => by have := blk_lt hb; omega
        have hta' : ¬ wr.heap.size = t := fun e => hta e.symm
        have htl : t < wr.heap.size := blk_lt hb
        have ctl : ∀ o, (wr.alloc o).cell? ⟨t, 3, none⟩ = some (.slice (some ⟨g, 0, none⟩) M.length cap) := fun o => by rw [blk_cell (blk_alloc hb)]; rfl
        have tkS : True := trivial
        have hbh := Lib.hid hb
        clear hb
        go_wp2_with (first
          | (have _t := tkS; clear tkS _t; (with_reducible refine wp_serial4 0 [] 3 [14, 15] [[0, 1, 2, 4, 5, 6, 7, 8, 9, 10, 11, 12, 13, 3, 14, 15, 16, 17, 18], [0, 1, 2, 4, 5, 6, 7, 8, 9, 10, 11, 12, 13, 14, 3, 15, 16, 17, 18], [0, 1, 2, 4, 5, 6, 7, 8, 9, 10, 11, 12, 13, 14, 15, 3, 16, 17, 18]] [[_, _, _, _, _, _, _, _, _, _, _, _, _, _, _, _, _, _, _], [_, _, _, _, _, _, _, _, _, _, _, _, _, _, _, _, _, _, _], [_, _, _, _, _, _, _, _, _, _, _, _, _, _, _, _, _, _, _]] (by kernel_rfl) (by decide +kernel) rfl ⟨Nat.zero_le _, fun s hs => absurd hs List.not_mem_nil⟩ (by (repeat (first | (with_reducible apply NoBad.then) | (with_reducible apply NoBad.inBlock) | (with_reducible exact NoBad.rets))); done) ?_); (refine (And.intro ?_ (And.intro ?_ (And.intro ?_ trivial)))))
          | (show Go.wpList _ _ _ (Go.Oper.mk _ (Go.Op.call { callee := Go.Callee.builtin Go.Builtin.append, args := _, argTypes := _ }) _ _ _ _ :: _) _ _; refine wpList_app (w := wr) (by (repeat (first | exact Ext.refl _ | assumption | apply Ext.drew | apply Ext.alloc)); done) rfl (.tmp 72) (.tmp 74) 48 rfl 36 i0 _ 3 32 Try.underlying48 hi0 hz0 hz1 hz2 rfl (by decide) _ _ _ hrow.out rfl _ _ _ [.int .i64 node, .int .i64 id, .string ⟨nm.toArray⟩] rfl rfl (alloc_at (w := wr) _ rfl rfl) rfl (by omega) (by omega) ?_; intro ao' cap' w6 hr6 hu6 hf6; obtain ⟨x0, x1, x2, x3, x4⟩ := cell4 (hu6.block (fun h => row_ne hrow.out hbh.out h) (ext_block (w := wr) (by (repeat (first | exact Ext.refl _ | assumption | apply Ext.drew | apply Ext.alloc)); done) hbh.out)); obtain ⟨y0, y3, y4⟩ := add_cells (hu6.rows hrow.out hR.out.row (by (repeat (first | (with_reducible exact Upd.refl _ _) | (with_reducible assumption) | (with_reducible apply Upd.drew) | (with_reducible apply Upd.alloc) | (refine Upd0.tr ?_ (by with_reducible assumption)) | (refine Upd.setCell ?_ (fun h => absurd h (by first | exact Nat.lt_irrefl _ | (simp only []; omega))) _))); done)) hMi.out; simp only [] at y0 y3; have hr6h := Lib.hid hr6; have hu6h := Lib.hid hu6; have hf6h := Lib.hid hf6; clear hr6 hu6 hf6)
          | (with_reducible refine wp_serial (by kernel_rfl) (by kernel_rfl) (by (repeat (first | (with_reducible apply NoBad.then) | (with_reducible apply NoBad.inBlock) | (with_reducible exact NoBad.rets))); done) ?_) | fail)
        all_goals go_returns
        · first | exact .inl ⟨by assumption, rfl, (by (repeat (first | (with_reducible exact Upd.refl _ _) | (with_reducible assumption) | (with_reducible apply Upd.drew) | (with_reducible apply Upd.alloc) | (refine Upd0.tr ?_ (by with_reducible assumption)) | (refine Upd.setCell ?_ (fun h => absurd h (by first | exact Nat.lt_irrefl _ | (simp only []; omega))) _))); done)⟩ | exact .inl ⟨rfl, (by (repeat (first | (with_reducible exact Upd.refl _ _) | (with_reducible assumption) | (with_reducible apply Upd.drew) | (with_reducible apply Upd.alloc) | (refine Upd0.tr ?_ (by with_reducible assumption)) | (refine Upd.setCell ?_ (fun h => absurd h (by first | exact Nat.lt_irrefl _ | (simp only []; omega))) _))); done)⟩ | exact ⟨rfl, (by (repeat (first | (with_reducible exact Upd.refl _ _) | (with_reducible assumption) | (with_reducible apply Upd.drew) | (with_reducible apply Upd.alloc) | (refine Upd0.tr ?_ (by with_reducible assumption)) | (refine Upd.setCell ?_ (fun h => absurd h (by first | exact Nat.lt_irrefl _ | (simp only []; omega))) _))); done)⟩
        all_goals
          have hadd := hR.out.add hMi.out (c := ⟨node, id, nm⟩) (by (repeat (first | (with_reducible exact Upd.refl _ _) | (with_reducible assumption) | (with_reducible apply Upd.drew) | (with_reducible apply Upd.alloc) | (refine Upd0.tr ?_ (by with_reducible assumption)) | (refine Upd.setCell ?_ (fun h => absurd h (by first | exact Nat.lt_irrefl _ | (simp only []; omega))) _))); done) hu6h.out hr6h.out hf6h.out
          have hlt : (k.cs.length : Int) < s.most := by assumption
          have hfin : UpdR B w _ ∧ Ro B _ t _ := ⟨(UpdR.of0 hu).tr hadd.2, hs.set h1.out hlt, _, _, hadd.1⟩
          first | exact .inr ⟨hlt, rfl, hfin⟩ | exact .inr ⟨rfl, hfin⟩ | exact ⟨rfl, hfin⟩
theorem rask_w (t : Nat) (s : Tb) (q : Bs) (ty : Int) (c : Cl) (hq : q.length ≤ 70000) (hn : c.nm.length ≤ maxLen) (w : World) (h : Ro B w t s) (hl : s.last ≤ 1000000) :
    Calls Try.prog 19 #[.pointer (some ⟨t, 0, none⟩), .agg #[.string ⟨q.toArray⟩, .int .i64 ty], c.val] w (Rets fun r w' => r = resV (ask s q ty c).1 ∧ UpdR B w w' ∧ Ro B w' t (ask s q ty c).2) := by
  have hqm : q.length ≤ maxLen := by unfold maxLen; omega
  obtain ⟨hs, v, M, hc⟩ := h
  cases hok : okQ q c with
  | false =>
    have e : ask s q ty c = ((0, false, 1), s) := by rw [ask, hok]; rfl
    rw [e]
    have : Calls Try.prog 19 #[.pointer (some ⟨t, 0, none⟩), .agg #[.string ⟨q.toArray⟩, .int .i64 ty], c.val] w (Rets fun r w' => r = .tuple #[.int .i64 0, .bool false, .int .i64 1] ∧ Upd0 w w') := by
      cases hb : cutB q with
      | false => exact rask_bad1 _ q ty c hqm hb w
      | true => exact rask_bad2 _ q ty c hqm hn hb (by simpa [okQ, hb] using hok) w
    refine this.use ?_
    rintro v1 w' ⟨rfl, hu⟩
    exact ⟨rfl, UpdR.of0 hu, hs, v, M, hc.to0 hu⟩
  | true =>
    cases hk : lookK (fold q) ty s.L with
    | none =>
      refine (rask_miss t v s M q ty c hq hn w hc hs hl hok hk).use ?_
      rintro v1 w' (⟨h1, rfl, hu⟩ | ⟨h1, rfl, hu, hco⟩)
      · have e : ask s q ty c = ((0, false, 4), s) := by rw [ask, hok, hk]; simp [h1]
        rw [e]
        exact ⟨rfl, UpdR.of0 hu, hs, v, M, hc.to0 hu⟩
      · have e : ask s q ty c = ((((s.last + 1 : Nat) : Int), true, 0), { s with last := s.last + 1, L := s.L ++ [⟨s.last + 1, fold q, ty, [c]⟩] }) := by rw [ask, hok, hk]; simp [Int.not_le.2 h1]
        rw [e]
        exact ⟨rfl, hu, hco⟩
    | some p =>
      obtain ⟨i, k⟩ := p
      refine (rask_hit t v s M q ty c hq hn w hc hs hl hok hk).use ?_
      rintro v1 w' (⟨h1, rfl, hu⟩ | ⟨h1, rfl, hu, hco⟩)
      · have e : ask s q ty c = ((0, false, 4), s) := by rw [ask, hok, hk]; simp [h1]
        rw [e]
        exact ⟨rfl, UpdR.of0 hu, hs, v, M, hc.to0 hu⟩
      · have e : ask s q ty c = (((k.num : Int), false, 0), { s with L := s.L.set i (k.add c) }) := by rw [ask, hok, hk]; simp [Int.not_le.2 h1]
        rw [e]
        exact ⟨rfl, hu, hco⟩
end Go.Proofs.Ytebnilkcpklnmaa
