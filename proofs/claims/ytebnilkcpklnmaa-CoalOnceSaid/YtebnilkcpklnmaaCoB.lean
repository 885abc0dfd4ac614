/-
  The program's tables: Ask, of a question that a task has.
-/
import Derived.Test.YtebnilkcpklnmaaCoA
namespace Go.Proofs.Ytebnilkcpklnmaa
open Go.RowKit Go.Maps
set_option linter.unusedSimpArgs false
set_option linter.unusedVariables false
variable {B : Nat}
theorem alloc_at {w W : World} (o : Obj) {n : Nat} (hW : W.heap = (w.alloc o).heap) (h : n = w.heap.size) : W.heap[n]? = some o := by rw [hW]; exact alloc_last w o n h
theorem hit_facts {w : World} {t bm : Nat} {s : Tb} {M : List TkM} (h : CoIs B w t bm s M) (hs : s.ok) {x : Bs} {ty : Int} {i : Nat} {k : Tk} (hk : lookK x ty s.L = some (i, k)) :
    ∃ g ao cap, M[i]? = some ⟨k, g, .slice ao k.cs.length cap⟩ ∧ (∀ m ∈ M, hitK x ty m.k = true → m = ⟨k, g, .slice ao k.cs.length cap⟩) ∧ (∀ m ∈ M, m.k.num = k.num → m = ⟨k, g, .slice ao k.cs.length cap⟩) ∧ hitK x ty k = true := by
  obtain ⟨h1, h2, h3⟩ := lookK_some hk
  have h4 : (M.map (·.k))[i]? = some k := by rw [h.abs]; exact h1
  rw [List.getElem?_map] at h4
  obtain ⟨m, hm, rfl⟩ := Option.map_eq_some_iff.1 h4
  obtain ⟨ao, cap, hv⟩ := ownsRow_slice (h.tsk m (mem_get hm)).row
  have hme : m = ⟨m.k, m.g, .slice ao m.k.cs.length cap⟩ := by rw [← hv]
  have hL : ∀ (j : Nat) (m' : TkM), M[j]? = some m' → s.L[j]? = some m'.k := fun j m' hj => by rw [← h.abs, List.getElem?_map, hj]; rfl
  refine ⟨m.g, ao, cap, by rw [← hme]; exact hm, fun m' hm' hh => ?_, fun m' hm' hh => ?_, h2⟩
  · rw [← hme]
    obtain ⟨j, hj⟩ := List.getElem?_of_mem hm'
    rcases Nat.lt_trichotomy i j with hij | rfl | hij
    · have := pw_get hs.one hij h1 (hL j m' hj)
      obtain ⟨e1, e2⟩ := hitK_iff.1 hh
      obtain ⟨e3, e4⟩ := hitK_iff.1 h2
      rw [hitK_iff.2 ⟨e1.trans e3.symm, e2.trans e4.symm⟩] at this
      cases this
    · rw [hj] at hm; injection hm
    · have := h3 j m'.k hij (hL j m' hj)
      rw [this] at hh; cases hh
  · rw [← hme]
    obtain ⟨j, hj⟩ := List.getElem?_of_mem hm'
    rcases Nat.lt_trichotomy i j with hij | rfl | hij
    · have := pw_get hs.asc hij h1 (hL j m' hj); omega
    · rw [hj] at hm; injection hm
    · have := pw_get hs.asc hij (hL j m' hj) h1; omega
theorem has_of {M : List (Nat × Nat)} {p : Nat × Nat} (h : p ∈ M) : Maps.has (dm M) (.int .i64 p.1) = true := by
  rw [dm_has, List.any_eq_true]
  exact ⟨p, h, by simp [isN]⟩
theorem row_ne {w : World} {e e' : TypeId} {s : Nat} {v : Value} {n : Nat} {xs : List Value} (h : w.ownsRow 0 e s v n xs) {g : Nat} {c : Array Value} {f : Nat × Nat} (hg : w.heap[g]? = some (.cells c e' f)) (hv : v.ownBlock = some g) (hne : e' ≠ e := by decide) : False := by
  obtain ⟨cur, hc⟩ := kind_row h hv
  rw [hg] at hc
  injection hc with hc
  injection hc with _ h2 _
  exact hne h2
theorem CoIs.add {w W w6 : World} {t bm : Nat} {s : Tb} {M : List TkM} (h : CoIs B w t bm s M) {i : Nat} {k : Tk} {g : Nat} {v v' : Value} (hi : M[i]? = some ⟨k, g, v⟩) {c : Cl} (h0 : Upd0 w W) (hu : Upd (fun b => v.ownBlock = some b) W w6)
    (hr : w6.ownsRow 0 42 3 v' (k.cs.length + 1) (cls k.cs ++ c.cells)) (hf : Fresh W v v') :
    CoIs B (w6.setCell ⟨g, 2, none⟩ v') t bm { s with L := s.L.set i (k.add c) } (M.set i ⟨k.add c, g, v'⟩) ∧ UpdP B w (w6.setCell ⟨g, 2, none⟩ v') := by
  have hm := h.tsk _ (mem_get hi)
  have hgl := blk_lt hm.blk
  have hz := h0.size
  have hvg : v.ownBlock ≠ some g := fun e => row_ne hm.row hm.blk e
  have hU : Upd (fun n => n = g ∨ v.ownBlock = some n) w (w6.setCell ⟨g, 2, none⟩ v') :=
    Upd.setCell (((h0.mono (fun _ _ h => h.elim)).trans hu (fun _ _ h => .inr h))) (fun _ => .inl rfl) _
  have hv'g : v'.ownBlock ≠ some g := fun e => by
    rcases hf g e with e | e
    · exact hvg e
    · have : g < w.heap.size := hgl
      omega
  have hset : Upd (fun n => n = g) w6 (w6.setCell ⟨g, 2, none⟩ v') := (Upd.refl (fun n => n = g) w6).setCell (p := ⟨g, 2, none⟩) (fun _ => rfl) _
  have hns : ∀ (j : Nat) (m : TkM), M[j]? = some m → j ≠ i → ¬ (m.g = g ∨ v.ownBlock = some m.g) ∧ ∀ b, m.v.ownBlock = some b → ¬ (b = g ∨ v.ownBlock = some b) := fun j m hj hji => by
    have hmj := h.tsk m (mem_get hj)
    refine ⟨?_, fun b hb => ?_⟩
    · rintro (e | e)
      · rcases Nat.lt_or_gt_of_ne hji with hij | hij
        · exact pw_get h.dg hij hj hi e
        · exact pw_get h.dg hij hi hj e.symm
      · exact row_ne hm.row hmj.blk e
    · rintro (e | e)
      · exact row_ne hmj.row hm.blk (by rw [hb, e])
      · rcases Nat.lt_or_gt_of_ne hji with hij | hij
        · exact pw_get h.dv hij hj hi b hb e
        · exact pw_get h.dv hij hi hj b e hb
  have htb : ¬ (t = g ∨ v.ownBlock = some t) := by
    rintro (e | e)
    · have := hm.blk; rw [← e, h.blk] at this; cases this
    · exact row_ne hm.row h.blk e
  have hbm : ¬ (bm = g ∨ v.ownBlock = some bm) := by
    obtain ⟨es, cl, he⟩ := h.own.blk
    rintro (e | e)
    · have := hm.blk; rw [← e, he] at this; cases this
    · obtain ⟨cur, hc⟩ := kind_row hm.row e
      rw [he] at hc; cases hc
  have hBt := h.lo.1
  have htl := blk_lt h.blk
  have hB' : ∀ b, v'.ownBlock = some b → B ≤ b := fun b hb => by
    rcases hf b hb with e | e
    · exact (h.lo.2.2 _ (mem_get hi)).2 b e
    · omega
  refine ⟨⟨hU.block htb h.blk, ?_, ?_, fun m hmm => ?_, ?_, ?_, h.lo.1, h.lo.2.1, fun m hmm => ?_⟩, hU.mono fun n hn hs => ?_⟩
  · have e : (M.set i ⟨k.add c, g, v'⟩).map TkM.ids = M.map TkM.ids := by
      rw [List.map_set]
      show (M.map TkM.ids).set i (TkM.ids ⟨k, g, v⟩) = _
      have : (M.map TkM.ids)[i]? = some (TkM.ids ⟨k, g, v⟩) := by rw [List.getElem?_map, hi]; rfl
      obtain ⟨hl, he⟩ := List.getElem?_eq_some_iff.1 this
      rw [← he, List.set_getElem_self]
    rw [e]
    exact h.own.to (hU.keep bm h.own.lt hbm)
  · rw [List.map_set, h.abs]
  · obtain ⟨j, hj⟩ := List.getElem?_of_mem hmm
    by_cases hji : j = i
    · subst hji
      rw [List.getElem?_set_self (get_lt hi)] at hj
      injection hj with hj
      subst hj
      refine ⟨?_, ?_⟩
      · have hb6 : w6.heap[g]? = _ := hu.block (fun e => hvg e) (h0.block (fun h => h) hm.blk)
        simpa [Tk.add] using blk_set hb6 2 v'
      · have := ownsRow_upd hr hset (fun b hb e => hv'g (by rw [hb, e]))
        simpa [Tk.add, cls_app, cls_one] using this
    · rw [List.getElem?_set_ne (fun e => hji e.symm)] at hj
      obtain ⟨h1, h2⟩ := hns j m hj hji
      exact (h.tsk m (mem_get hj)).to hU h1 h2
  · exact pw_set h.dg (get_lt hi) (fun j a hj ha => by have := pw_get h.dg hj ha hi; exact this) (fun j a hj ha => by have := pw_get h.dg hj hi ha; exact this)
  · refine pw_set h.dv (get_lt hi) (fun j a hj ha b hb hb' => ?_) (fun j a hj ha b hb hb' => ?_)
    all_goals
      have hlt := ownsRow_lt (h.tsk a (mem_get ha)).row (by assumption : a.v.ownBlock = some b)
      rcases hf b (by assumption) with e | e
      · exact (hns j a ha (by omega)).2 b (by assumption) (.inr e)
      · omega
  · rcases List.mem_or_eq_of_mem_set hmm with hmm | rfl
    · exact h.lo.2.2 m hmm
    · exact ⟨(h.lo.2.2 _ (mem_get hi)).1, hB'⟩
  · rcases hs with rfl | hs
    · exact ⟨(h.lo.2.2 _ (mem_get hi)).1, by rw [hm.blk]; rfl⟩
    · obtain ⟨cur, hc⟩ := kind_row hm.row hs
      exact ⟨(h.lo.2.2 _ (mem_get hi)).2 n hs, by rw [hc]; rfl⟩
set_option maxRecDepth 100000 in
set_option maxHeartbeats 2000000 in
theorem ask_hit (t bm : Nat) (s : Tb) (M : List TkM) (q : Bs) (ty : Int) (c : Cl) (hq : q.length ≤ 70000) (hn : c.nm.length ≤ maxLen) (w : World) (h : CoIs B w t bm s M) (hs : s.ok) (hl : s.last ≤ 1000000) (hok : okQ q c = true) {i : Nat} {k : Tk} (hk : lookK (fold q) ty s.L = some (i, k)) :
    Calls Try.prog 17 #[.pointer (some ⟨t, 0, none⟩), .agg #[.string ⟨q.toArray⟩, .int .i64 ty], c.val] w (Rets fun r w' =>
      (s.most ≤ k.cs.length ∧ r = .tuple #[.int .i64 0, .bool false, .int .i64 4] ∧ Upd0 w w') ∨
      ((k.cs.length : Int) < s.most ∧ r = .tuple #[.int .i64 k.num, .bool false, .int .i64 0] ∧ UpdP B w w' ∧ Co B w' t { s with L := s.L.set i (k.add c) })) := by
  have hqm : q.length ≤ maxLen := by unfold maxLen; omega
  have hb1 : cutB q = true := by simp [okQ] at hok; exact hok.1
  have hb2 : cutB c.nm = true := by simp [okQ] at hok; exact hok.2
  have hc1 := Lib.hid (show checkC q = 0 by rw [checkC, hb1]; rfl)
  have hc2 := Lib.hid (show checkC c.nm = 0 by rw [checkC, hb2]; rfl)
  obtain ⟨F, hF⟩ : ∃ F, fold q = F := ⟨_, rfl⟩
  rw [hF] at hk
  have hFh := Lib.hid hF
  have hlen : M.length = s.L.length := by rw [← h.abs]; simp
  have hh := Lib.hid h
  have hlenh := Lib.hid hlen
  obtain ⟨i0, hi0, hz0, hz1, hz2⟩ := info_parts info_cl
  obtain ⟨g, ao, cap, hMi, huq, hnq, hhit⟩ := hit_facts h hs hk
  have hMi := Lib.hid hMi
  have hki := Lib.hid (lookK_some hk).1
  have hcl : (k.cs.length : Int) ≤ 100 := by have := hs.cs k (mem_get (lookK_some hk).1); have := hs.m2; omega
  have hblk := Lib.hid h.blk
  have ht := blk_lt h.blk
  have hbm := h.own.lt
  have tk0 : True := trivial
  obtain ⟨node, id, nm⟩ := c
  simp only [Cl.val] at hb2 hc2 hn ⊢
  clear h hF hlen hok hk
  have hlk0 := has_of (List.mem_map_of_mem (f := TkM.ids) (mem_get hMi.out))
  simp only [TkM.ids] at hlk0
  have huq := Lib.hid huq
  have hnq := Lib.hid hnq
  have hhit := Lib.hid hhit
  go_enter Try.func17, Try.ntmps17
  go_wp2_with (first
    | (go_at_call 40; have _t := tk0; (with_reducible refine (check_any q hqm _).use ?_); rintro v w1 ⟨rfl, hu1⟩; rw [hc1.out]; have z0 := Lib.hid (hu1.block (fun h => h) (blk_alloc (alloc_last w _ w.heap.size rfl))); have z1 := Lib.hid (hu1.block (fun h => h) (alloc_last _ _ (w.heap.size + 1) (by simp))); obtain ⟨d0, d1, d2, d3⟩ := cell3 z1.out; have y1 : w.heap.size + 2 ≤ w1.heap.size := (by have := hu1.size; simpa using this); clear tk0 _t)
    | (go_at_call 40; (with_reducible refine (check_any nm hn _).use ?_); rintro v w2 ⟨rfl, hu2⟩; rw [hc2.out]; have x0 := Lib.hid (hu2.block (fun h => h) z0.out); have x1 := Lib.hid (hu2.block (fun h => h) z1.out); obtain ⟨e0, e1, e2⟩ := cell2 x0.out; have y2 := hu2.size)
    | (go_at_call 41; (with_reducible refine (fold_w q hq _).use ?_); rintro v w3 ⟨rfl, hu3⟩; rw [hFh.out]; have v0 := Lib.hid (hu3.block (fun h => h) x0.out); have v1 := Lib.hid (hu3.block (fun h => h) x1.out); obtain ⟨f0, f1, f2⟩ := cell2 v0.out; have hu03 := Lib.hid (show Upd0 w w3 from (by (repeat (first | (with_reducible exact Upd.refl _ _) | (with_reducible assumption) | (with_reducible apply Upd.drew) | (with_reducible apply Upd.alloc) | (refine Upd0.tr ?_ (by with_reducible assumption)) | (refine Upd.setCell ?_ (fun h => absurd h (by first | exact Nat.lt_irrefl _ | (simp only []; omega))) _))); done)); obtain ⟨g0, g1, g2, g3, g4⟩ := cell4 (hu03.out.block (fun h => h) hblk.out); have y3 := hu3.size; have y03 := hu03.out.size)
    | (at_range; refine wpList_rangeM _ rfl _ 81 rfl 3 85 Try.underlying3 Try.underlying81 bm (M.map TkM.ids) rfl ((hh.out.to0 (Upd.setCell hu03.out (fun h => absurd h (by simp only []; omega)) _)).own) ?_; intro w4 r hr hrg hg4 hs4)
    | (with_reducible refine wp_serial (by kernel_rfl) (by kernel_rfl) (by (repeat (first | (with_reducible apply NoBad.then) | (with_reducible apply NoBad.inBlock) | (with_reducible exact NoBad.rets))); done) ?_) | fail)
  have hr2 : w.heap.size + 2 ≤ r := by simp at hr; omega
  have hu4 : Upd0 w w4 := (Upd.setCell hu03.out (fun h => absurd h (by simp only []; omega)) _).grown hg4 (fun _ h => by cases h)
  have k0 := Lib.hid (show w4.heap[w.heap.size]? = some (.cells #[.string ⟨F.toArray⟩, .int .i64 ty] 34 (0, 0)) from (hg4.block _ (by simp; omega) (by simp)).trans (by simpa using blk_set v0.out 0 (.string ⟨F.toArray⟩)))
  have k1 := Lib.hid (show w4.heap[w.heap.size + 1]? = some (.cells #[.int .i64 node, .int .i64 id, .string ⟨nm.toArray⟩] 42 (0, 0)) from (hg4.block _ (by simp; omega) (by simp)).trans ((blk_set_other (by omega) _ _).trans v1.out))
  have hrg := Lib.hid hrg
  have hs4' : w.heap.size + 2 ≤ w4.heap.size := by simp at hs4; omega
  clear hr hg4 hs4
  go_frame
  go_loopw [9, 10] (fun _ _ wr => ∃ left cnt, RangesM Try.prog 3 wr bm r (M.map TkM.ids) left cnt ∧ (∀ kl, left kl = true → Maps.has (dm (M.map TkM.ids)) kl = true) ∧ left (.int .i64 k.num) = true ∧ Upd0 w wr ∧ w.heap.size + 2 ≤ wr.heap.size ∧
    Hid (wr.heap[w.heap.size]? = some (.cells #[.string ⟨F.toArray⟩, .int .i64 ty] 34 (0, 0))) ∧ Hid (wr.heap[w.heap.size + 1]? = some (.cells #[.int .i64 node, .int .i64 id, .string ⟨nm.toArray⟩] 42 (0, 0)))) (fun _ _ wr => wr.rangeLeft bm r)
  case atStart => exact ⟨_, _, hrg.out, fun _ h => h, hlk0, hu4, hs4', k0, k1⟩
  case round =>
    obtain ⟨left, cnt, hrg5, hlf, hlk, hu, hsz, b0, b1⟩ := hrel
    clear hrg hs4' hu4 k0 k1
    have hb := hu.block (fun h => h) hblk.out
    obtain ⟨c0, c1, c2, c3, c4⟩ := cell4 hb
    obtain ⟨q0, q1, q2⟩ := cell2 b0.out
    obtain ⟨p0, p1, p2, p3⟩ := cell3 b1.out
    go_wp2_with (first | (at_next; refine wpList_nextT M TkM.ids _ rfl _ rfl 3 Try.underlying3 bm r left cnt rfl hrg5 hlf ?_ ?_) | (with_reducible refine wp_serial (by kernel_rfl) (by kernel_rfl) (by (repeat (first | (with_reducible apply NoBad.then) | (with_reducible apply NoBad.inBlock) | (with_reducible exact NoBad.rets))); done) ?_) | fail)
    · intro _ hl0
      rw [hl0] at hlk
      cases hlk
    · intro m w5 cnt5 hm hlm hrg6 hlt hg5 hs5 hen
      have hu5 : Upd0 w w5 := hu.grown hg5 (fun k h => by cases h; intro; omega)
      have h5 := hh.out.to0 hu5
      obtain ⟨t0, t1, t2, t3, t4⟩ := cell4 (hu5.block (fun h => h) hblk.out)
      obtain ⟨m0, m1, m2, m3⟩ := cell3 (show w5.heap[m.ids.2]? = _ from (h5.tsk m hm).blk)
      obtain ⟨n0, n1, n2⟩ := cell2 (show w5.heap[w.heap.size]? = _ from (hg5.block _ (by omega) (by simp; omega)).trans b0.out)
      have n5 := Lib.hid (show w5.heap[w.heap.size + 1]? = _ from (hg5.block _ (by omega) (by simp; omega)).trans b1.out)
      have hs5' : w.heap.size + 2 ≤ w5.heap.size := by omega
      by_cases hq0 : m.k.q = F ∧ m.k.ty = ty
      · obtain rfl := huq.out m hm (hitK_iff.2 hq0)
        obtain ⟨e1, e2⟩ := hq0
        have hrow := Lib.hid (show w5.ownsRow 0 42 3 (.slice ao k.cs.length cap) k.cs.length (cls k.cs) from (h5.tsk _ hm).row)
        have hgl := blk_lt (h5.tsk _ hm).blk
        have h5h := Lib.hid h5
        have hfr := Lib.hid (m3 2)
        obtain ⟨o0, o1, o2, o3⟩ := cell3 n5.out
        clear h5
        simp only [TkM.ids] at m0 m1 m2 m3 e1 e2 hgl hen hrg6 hfr
        go_wp2_with (first
          | (at_builtin; (refine wpList_app (w := w5) (by (repeat (first | exact Ext.refl _ | assumption | apply Ext.drew | apply Ext.alloc)); done) rfl (.tmp 43) (.tmp 45) 45 rfl 42 i0 _ 3 32 Try.underlying45 hi0 hz0 hz1 hz2 rfl (by decide) _ _ _ hrow.out rfl _ _ _ [.int .i64 node, .int .i64 id, .string ⟨nm.toArray⟩] rfl rfl (alloc_at (w := w5) _ rfl hs5.symm) rfl (by omega) (by omega) ?_; intro ao' cap' w6 hr6 hu6 hf6; obtain ⟨x4, x5, x6, x7⟩ := cell3 (hu6.block (fun h => row_ne hrow.out (h5h.out.tsk _ hm).blk h) (ext_block (w := w5) (by (repeat (first | exact Ext.refl _ | assumption | apply Ext.drew | apply Ext.alloc)); done) (h5h.out.tsk _ hm).blk)); simp only [] at x4 x5 x6 x7; have hr6h := Lib.hid hr6; have hu6h := Lib.hid hu6; have hf6h := Lib.hid hf6; clear hr6 hu6 hf6))
          | (with_reducible refine wp_serial (by kernel_rfl) (by kernel_rfl) (by (repeat (first | (with_reducible apply NoBad.then) | (with_reducible apply NoBad.inBlock) | (with_reducible exact NoBad.rets))); done) ?_) | fail)
        · go_returns
          first | exact .inl ⟨by assumption, rfl, (by (repeat (first | (with_reducible exact Upd.refl _ _) | (with_reducible assumption) | (with_reducible apply Upd.drew) | (with_reducible apply Upd.alloc) | (refine Upd0.tr ?_ (by with_reducible assumption)) | (refine Upd.setCell ?_ (fun h => absurd h (by first | exact Nat.lt_irrefl _ | (simp only []; omega))) _))); done)⟩ | exact .inl ⟨rfl, (by (repeat (first | (with_reducible exact Upd.refl _ _) | (with_reducible assumption) | (with_reducible apply Upd.drew) | (with_reducible apply Upd.alloc) | (refine Upd0.tr ?_ (by with_reducible assumption)) | (refine Upd.setCell ?_ (fun h => absurd h (by first | exact Nat.lt_irrefl _ | (simp only []; omega))) _))); done)⟩ | exact ⟨rfl, (by (repeat (first | (with_reducible exact Upd.refl _ _) | (with_reducible assumption) | (with_reducible apply Upd.drew) | (with_reducible apply Upd.alloc) | (refine Upd0.tr ?_ (by with_reducible assumption)) | (refine Upd.setCell ?_ (fun h => absurd h (by first | exact Nat.lt_irrefl _ | (simp only []; omega))) _))); done)⟩
        · go_returns
          have hadd := h5h.out.add hMi.out (c := ⟨node, id, nm⟩) (by (repeat (first | (with_reducible exact Upd.refl _ _) | (with_reducible assumption) | (with_reducible apply Upd.drew) | (with_reducible apply Upd.alloc) | (refine Upd0.tr ?_ (by with_reducible assumption)) | (refine Upd.setCell ?_ (fun h => absurd h (by first | exact Nat.lt_irrefl _ | (simp only []; omega))) _))); done) hu6h.out hr6h.out hf6h.out
          have hlt : (k.cs.length : Int) < s.most := by assumption
          have hfin : UpdP B w _ ∧ Co B _ t _ := ⟨(UpdP.of0 hu5).tr hadd.2, hs.set hki.out hlt, bm, _, hadd.1⟩
          first | exact .inr ⟨hlt, rfl, hfin⟩ | exact .inr ⟨rfl, hfin⟩ | exact ⟨rfl, hfin⟩
      · have hn0 : hitK F ty m.k = false := by
          cases e : hitK F ty m.k
          · rfl
          · exact absurd (hitK_iff.1 e) hq0
        have hd : ¬ m.k.q = F ∨ (m.k.q = F ∧ ¬ m.k.ty = ty) := by
          by_cases e1 : m.k.q = F
          · exact .inr ⟨e1, fun e2 => hq0 ⟨e1, e2⟩⟩
          · exact .inl e1
        have hne : ((Lit.int .i64 k.num).sameKey (.int .i64 (m.ids.1))) = false := by
          simp only [Lit.sameKey, decide_eq_false_iff_not]
          rintro ⟨_, e⟩
          have := hnq.out m hm (by simp only [TkM.ids] at e; omega)
          rw [this] at hn0
          exact absurd (hhit.out) (by simp only [] at hn0 ⊢; rw [hn0]; simp)
        clear hq0 hn0
        rcases hd with e1 | ⟨e1, e2⟩
        all_goals
          go_wp2_with (first
            | (with_reducible refine wp_serial (by kernel_rfl) (by kernel_rfl) (by (repeat (first | (with_reducible apply NoBad.then) | (with_reducible apply NoBad.inBlock) | (with_reducible exact NoBad.rets))); done) ?_) | fail)
          go_roundw
          case rel => exact ⟨_, cnt5, hrg6.drew, fun kl hkl => hlf kl (by simp only [Bool.and_eq_true] at hkl; exact hkl.1), by rw [hlk, hne]; rfl, hu5.drew, hs5', Lib.hid ((hg5.block _ (by omega) (by simp; omega)).trans b0.out), n5⟩
          case measure => rw [World.ranges.left_eq hrg6.drew, World.ranges.left_eq hrg5]; exact hlt
end Go.Proofs.Ytebnilkcpklnmaa
