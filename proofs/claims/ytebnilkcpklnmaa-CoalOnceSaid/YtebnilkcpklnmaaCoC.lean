/-
  The program's tables: Ask whole; New, Done, Waits, Len.
-/
import Derived.Test.YtebnilkcpklnmaaCoB
namespace Go.Proofs.Ytebnilkcpklnmaa
open Go.RowKit Go.Maps
set_option linter.unusedSimpArgs false
set_option linter.unusedVariables false
variable {B : Nat}
def resV (r : Int × Bool × Int) : Value := .tuple #[.int .i64 r.1, .bool r.2.1, .int .i64 r.2.2]
theorem ask_nil (q c : Value) (w : World) : Calls Try.prog 17 #[.pointer none, q, c] w (Rets fun r w' => r = resV (0, false, 1) ∧ Upd0 w w') := by
  go_enter Try.func17, Try.ntmps17
  go_wp2_with (first | (with_reducible refine wp_serial (by kernel_rfl) (by kernel_rfl) (by (repeat (first | (with_reducible apply NoBad.then) | (with_reducible apply NoBad.inBlock) | (with_reducible exact NoBad.rets))); done) ?_) | fail)
  all_goals go_returns
  all_goals exact ⟨rfl, (by (repeat (first | (with_reducible exact Upd.refl _ _) | (with_reducible assumption) | (with_reducible apply Upd.drew) | (with_reducible apply Upd.alloc) | (refine Upd0.tr ?_ (by with_reducible assumption)) | (refine Upd.setCell ?_ (fun h => absurd h (by first | exact Nat.lt_irrefl _ | (simp only []; omega))) _))); done)⟩
theorem ask_bad2 (t : Nat) (q : Bs) (ty : Int) (c : Cl) (hq : q.length ≤ maxLen) (hn : c.nm.length ≤ maxLen) (hb : cutB q = true) (hb2 : cutB c.nm = false) (w : World) :
    Calls Try.prog 17 #[.pointer (some ⟨t, 0, none⟩), .agg #[.string ⟨q.toArray⟩, .int .i64 ty], c.val] w (Rets fun r w' => r = .tuple #[.int .i64 0, .bool false, .int .i64 1] ∧ Upd0 w w') := by
  have hc := Lib.hid (show checkC q = 0 by rw [checkC, hb]; rfl)
  have hc2 := Lib.hid (show checkC c.nm = 1 by rw [checkC, hb2]; rfl)
  obtain ⟨node, id, nm⟩ := c
  have tk0 : True := trivial
  simp only [Cl.val] at hn hc2 ⊢
  go_enter Try.func17, Try.ntmps17
  go_wp2_with (first
    | (go_at_call 40; have _t := tk0; (with_reducible refine (check_any q hq _).use ?_); rintro v w1 ⟨rfl, hu1⟩; rw [hc.out]; obtain ⟨d0, d1, d2, d3⟩ := cell3 (hu1.block (fun h => h) (alloc_last _ _ (w.heap.size + 1) (by simp))); clear tk0 _t)
    | (go_at_call 40; (with_reducible refine (check_any nm hn _).use ?_); rintro v w2 ⟨rfl, hu2⟩; rw [hc2.out])
    | (with_reducible refine wp_serial (by kernel_rfl) (by kernel_rfl) (by (repeat (first | (with_reducible apply NoBad.then) | (with_reducible apply NoBad.inBlock) | (with_reducible exact NoBad.rets))); done) ?_) | fail)
  all_goals go_returns
  all_goals exact ⟨rfl, (by (repeat (first | (with_reducible exact Upd.refl _ _) | (with_reducible assumption) | (with_reducible apply Upd.drew) | (with_reducible apply Upd.alloc) | (refine Upd0.tr ?_ (by with_reducible assumption)) | (refine Upd.setCell ?_ (fun h => absurd h (by first | exact Nat.lt_irrefl _ | (simp only []; omega))) _))); done)⟩
theorem ask_w (t : Nat) (s : Tb) (q : Bs) (ty : Int) (c : Cl) (hq : q.length ≤ 70000) (hn : c.nm.length ≤ maxLen) (w : World) (h : Co B w t s) (hl : s.last ≤ 1000000) :
    Calls Try.prog 17 #[.pointer (some ⟨t, 0, none⟩), .agg #[.string ⟨q.toArray⟩, .int .i64 ty], c.val] w (Rets fun r w' => r = resV (ask s q ty c).1 ∧ UpdP B w w' ∧ Co B w' t (ask s q ty c).2) := by
  have hqm : q.length ≤ maxLen := by unfold maxLen; omega
  obtain ⟨hs, bm, M, hc⟩ := h
  cases hok : okQ q c with
  | false =>
    have e : ask s q ty c = ((0, false, 1), s) := by rw [ask, hok]; rfl
    rw [e]
    have : Calls Try.prog 17 #[.pointer (some ⟨t, 0, none⟩), .agg #[.string ⟨q.toArray⟩, .int .i64 ty], c.val] w (Rets fun r w' => r = .tuple #[.int .i64 0, .bool false, .int .i64 1] ∧ Upd0 w w') := by
      cases hb : cutB q with
      | false => exact ask_bad1 _ q ty c hqm ⟨_, rfl⟩ hb w
      | true => exact ask_bad2 t q ty c hqm hn hb (by simpa [okQ, hb] using hok) w
    refine this.use ?_
    rintro v w' ⟨rfl, hu⟩
    exact ⟨rfl, UpdP.of0 hu, hs, bm, M, hc.to0 hu⟩
  | true =>
    cases hk : lookK (fold q) ty s.L with
    | none =>
      refine (ask_miss t bm s M q ty c hq hn w hc hs hl hok hk).use ?_
      rintro v w' (⟨h1, rfl, hu⟩ | ⟨h1, rfl, hu, hco⟩)
      · have e : ask s q ty c = ((0, false, 4), s) := by rw [ask, hok, hk]; simp [h1]
        rw [e]
        exact ⟨rfl, UpdP.of0 hu, hs, bm, M, hc.to0 hu⟩
      · have e : ask s q ty c = ((((s.last + 1 : Nat) : Int), true, 0), { s with last := s.last + 1, L := s.L ++ [⟨s.last + 1, fold q, ty, [c]⟩] }) := by rw [ask, hok, hk]; simp [Int.not_le.2 h1]
        rw [e]
        exact ⟨rfl, hu, hco⟩
    | some p =>
      obtain ⟨i, k⟩ := p
      refine (ask_hit t bm s M q ty c hq hn w hc hs hl hok hk).use ?_
      rintro v w' (⟨h1, rfl, hu⟩ | ⟨h1, rfl, hu, hco⟩)
      · have e : ask s q ty c = ((0, false, 4), s) := by rw [ask, hok, hk]; simp [h1]
        rw [e]
        exact ⟨rfl, UpdP.of0 hu, hs, bm, M, hc.to0 hu⟩
      · have e : ask s q ty c = (((k.num : Int), false, 0), { s with L := s.L.set i (k.add c) }) := by rw [ask, hok, hk]; simp [Int.not_le.2 h1]
        rw [e]
        exact ⟨rfl, hu, hco⟩
theorem within_w (n : Int) (w : World) : Calls Try.prog 39 #[.int .i64 n] w (Rets fun v w' => v = .bool (decide (1 ≤ n) && decide (n ≤ 100)) ∧ w = w') := by
  go_enter Try.func39, Try.ntmps39
  go_wp2
  all_goals go_ret
  · have h : 1 ≤ n := by assumption
    exact ⟨by simp [h], rfl⟩
  · have h : n < 1 := by assumption
    exact ⟨by simp; omega, rfl⟩
def roomB (n : Int) : Bool := decide (1 ≤ n) && decide (n ≤ 100)
theorem new_no (r m : Int) (hb : (roomB r && roomB m) = false) (w : World) : Calls Try.prog 14 #[.int .i64 r, .int .i64 m] w (Rets fun v w' => v = .tuple #[.pointer none, .int .i64 1] ∧ Upd0 w w') := by
  have hd : roomB r = false ∨ (roomB r = true ∧ roomB m = false) := by
    cases h : roomB r
    · exact .inl rfl
    · exact .inr ⟨rfl, by simpa [h] using hb⟩
  clear hb
  unfold roomB at hd
  have tk0 : True := trivial
  rcases hd with e1 | ⟨e1, e2⟩
  · have e1 := Lib.hid e1
    go_enter Try.func14, Try.ntmps14
    go_wp2_with (first
      | (go_at_call 39; (with_reducible refine (within_w r _).use ?_); rintro v w1 ⟨rfl, rfl⟩; rw [e1.out])
      | (with_reducible refine wp_serial (by kernel_rfl) (by kernel_rfl) (by (repeat (first | (with_reducible apply NoBad.then) | (with_reducible apply NoBad.inBlock) | (with_reducible exact NoBad.rets))); done) ?_) | fail)
    all_goals go_returns
    all_goals exact ⟨rfl, (by (repeat (first | (with_reducible exact Upd.refl _ _) | (with_reducible assumption) | (with_reducible apply Upd.drew) | (with_reducible apply Upd.alloc) | (refine Upd0.tr ?_ (by with_reducible assumption)) | (refine Upd.setCell ?_ (fun h => absurd h (by first | exact Nat.lt_irrefl _ | (simp only []; omega))) _))); done)⟩
  · have e1 := Lib.hid e1
    have e2 := Lib.hid e2
    go_enter Try.func14, Try.ntmps14
    go_wp2_with (first
      | (go_at_call 39; have _t := tk0; (with_reducible refine (within_w r _).use ?_); rintro v w1 ⟨rfl, rfl⟩; rw [e1.out]; clear tk0 _t)
      | (go_at_call 39; (with_reducible refine (within_w m _).use ?_); rintro v w1 ⟨rfl, rfl⟩; rw [e2.out])
      | (with_reducible refine wp_serial (by kernel_rfl) (by kernel_rfl) (by (repeat (first | (with_reducible apply NoBad.then) | (with_reducible apply NoBad.inBlock) | (with_reducible exact NoBad.rets))); done) ?_) | fail)
    all_goals go_returns
    all_goals exact ⟨rfl, (by (repeat (first | (with_reducible exact Upd.refl _ _) | (with_reducible assumption) | (with_reducible apply Upd.drew) | (with_reducible apply Upd.alloc) | (refine Upd0.tr ?_ (by with_reducible assumption)) | (refine Upd.setCell ?_ (fun h => absurd h (by first | exact Nat.lt_irrefl _ | (simp only []; omega))) _))); done)⟩
theorem co_new (w : World) (hB : B ≤ w.heap.size) {r m : Int} (h1 : 1 ≤ r) (h2 : r ≤ 100) (h3 : 1 ≤ m) (h4 : m ≤ 100) :
    Co B ((w.alloc (.map #[] 0)).alloc (.cells #[.int .i64 r, .int .i64 m, .int .i64 0, .map (some w.heap.size)] 83 (0, 0))) (w.heap.size + 1) ⟨r, m, 0, []⟩ :=
  ⟨Tb.ok.empty h1 h2 h3 h4, w.heap.size, [], alloc_last _ _ _ (by simp), (show OwnsM Try.prog 3 _ w.heap.size [] from World.ownsMap.alloc (World.ownsMap_made w Try.prog 3 RP) _), rfl, by simp, List.Pairwise.nil, List.Pairwise.nil, by omega, by omega, by simp⟩
theorem new_w (r m : Int) (hr : roomB r = true) (hm : roomB m = true) (w : World) (hB : B ≤ w.heap.size) : Calls Try.prog 14 #[.int .i64 r, .int .i64 m] w (Rets fun v w' => ∃ t, v = .tuple #[.pointer (some ⟨t, 0, none⟩), .int .i64 0] ∧ w.heap.size ≤ t ∧ Upd0 w w' ∧ Co B w' t ⟨r, m, 0, []⟩) := by
  have a1 := hr
  have a2 := hm
  simp only [roomB, Bool.and_eq_true, decide_eq_true_eq] at a1 a2
  unfold roomB at hr hm
  have e1 := Lib.hid hr
  have e2 := Lib.hid hm
  clear hr hm
  have hmm := @run_makeMap Try.prog
  have tk0 : True := trivial
  go_enter Try.func14, Try.ntmps14
  go_wp2_with (first
    | (go_at_call 39; have _t := tk0; (with_reducible refine (within_w r _).use ?_); rintro v w1 ⟨rfl, rfl⟩; rw [e1.out]; clear tk0 _t)
    | (go_at_call 39; (with_reducible refine (within_w m _).use ?_); rintro v w1 ⟨rfl, rfl⟩; rw [e2.out])
    | (with_reducible refine wp_serial (by kernel_rfl) (by kernel_rfl) (by (repeat (first | (with_reducible apply NoBad.then) | (with_reducible apply NoBad.inBlock) | (with_reducible exact NoBad.rets))); done) ?_) | fail)
  all_goals go_returns
  exact ⟨_, rfl, by omega, (by (repeat (first | (with_reducible exact Upd.refl _ _) | (with_reducible assumption) | (with_reducible apply Upd.drew) | (with_reducible apply Upd.alloc) | (refine Upd0.tr ?_ (by with_reducible assumption)) | (refine Upd.setCell ?_ (fun h => absurd h (by first | exact Nat.lt_irrefl _ | (simp only []; omega))) _))); done), co_new w hB a1.1 a1.2 a2.1 a2.2⟩
theorem len_nil (w : World) : Calls Try.prog 23 #[.pointer none] w (Rets fun r w' => r = .int .i64 0 ∧ Upd0 w w') := by
  go_enter Try.func23, Try.ntmps23
  go_wp2_with (first | (with_reducible refine wp_serial (by kernel_rfl) (by kernel_rfl) (by (repeat (first | (with_reducible apply NoBad.then) | (with_reducible apply NoBad.inBlock) | (with_reducible exact NoBad.rets))); done) ?_) | fail)
  all_goals go_returns
  all_goals exact ⟨rfl, (by (repeat (first | (with_reducible exact Upd.refl _ _) | (with_reducible assumption) | (with_reducible apply Upd.drew) | (with_reducible apply Upd.alloc) | (refine Upd0.tr ?_ (by with_reducible assumption)) | (refine Upd.setCell ?_ (fun h => absurd h (by first | exact Nat.lt_irrefl _ | (simp only []; omega))) _))); done)⟩
theorem len_w (t : Nat) (s : Tb) (w : World) (h : Co B w t s) : Calls Try.prog 23 #[.pointer (some ⟨t, 0, none⟩)] w (Rets fun r w' => r = .int .i64 s.L.length ∧ Upd0 w w') := by
  obtain ⟨hs, bm, M, hc⟩ := h
  obtain ⟨c0, c1, c2, c3, c4⟩ := cell4 hc.blk
  have hown := hc.own
  have hlen : ((M.map TkM.ids).length : Int) = s.L.length := by rw [← hc.abs]; simp
  clear hc
  go_enter Try.func23, Try.ntmps23
  go_wp2_with (first
    | (at_len; refine wpList_lenM _ rfl _ 81 rfl 3 85 Try.underlying81 bm (M.map TkM.ids) rfl hown (s.L.length) hlen ?_)
    | (with_reducible refine wp_serial (by kernel_rfl) (by kernel_rfl) (by (repeat (first | (with_reducible apply NoBad.then) | (with_reducible apply NoBad.inBlock) | (with_reducible exact NoBad.rets))); done) ?_) | fail)
  all_goals go_returns
  all_goals exact ⟨rfl, (by (repeat (first | (with_reducible exact Upd.refl _ _) | (with_reducible assumption) | (with_reducible apply Upd.drew) | (with_reducible apply Upd.alloc) | (refine Upd0.tr ?_ (by with_reducible assumption)) | (refine Upd.setCell ?_ (fun h => absurd h (by first | exact Nat.lt_irrefl _ | (simp only []; omega))) _))); done)⟩
theorem atN_ids (x : Int) (M : List TkM) : atN (M.map TkM.ids) x = (M.find? fun m => isK x m.k).map (·.g) := by
  unfold atN
  rw [List.find?_map]
  have e : isN x ∘ TkM.ids = fun m => isK x m.k := rfl
  rw [e]
  cases M.find? fun m => isK x m.k <;> rfl
theorem find_abs {x : Int} {M : List TkM} {L : List Tk} (h : M.map (·.k) = L) : L.find? (isK x) = (M.find? fun m => isK x m.k).map (·.k) := by
  rw [← h, List.find?_map]
  rfl
theorem zeroT (w : World) : (zeroValue 85).run Try.prog w = .ok (.pointer none) w := by kernel_rfl
theorem waits_nil (n : Value) (w : World) : Calls Try.prog 24 #[.pointer none, n] w (Rets fun r w' => r = .int .i64 0 ∧ Upd0 w w') := by
  go_enter Try.func24, Try.ntmps24
  go_wp2_with (first | (with_reducible refine wp_serial (by kernel_rfl) (by kernel_rfl) (by (repeat (first | (with_reducible apply NoBad.then) | (with_reducible apply NoBad.inBlock) | (with_reducible exact NoBad.rets))); done) ?_) | fail)
  all_goals go_returns
  all_goals exact ⟨rfl, (by (repeat (first | (with_reducible exact Upd.refl _ _) | (with_reducible assumption) | (with_reducible apply Upd.drew) | (with_reducible apply Upd.alloc) | (refine Upd0.tr ?_ (by with_reducible assumption)) | (refine Upd.setCell ?_ (fun h => absurd h (by first | exact Nat.lt_irrefl _ | (simp only []; omega))) _))); done)⟩
set_option maxRecDepth 100000 in
theorem waits_w (t : Nat) (s : Tb) (n : Int) (hn : (Lit.int .i64 n).wf = true) (w : World) (h : Co B w t s) : Calls Try.prog 24 #[.pointer (some ⟨t, 0, none⟩), .int .i64 n] w (Rets fun r w' => r = .int .i64 (waits s n) ∧ Upd0 w w') := by
  obtain ⟨hs, bm, M, hc⟩ := h
  obtain ⟨c0, c1, c2, c3, c4⟩ := cell4 hc.blk
  have hown := hc.own
  have hat := Lib.hid (atN_ids n M)
  have hf := find_abs (x := n) hc.abs
  unfold waits
  rw [hf]
  clear hf
  cases hm : M.find? fun m => isK n m.k with
  | none =>
    have hrun := look_run Try.underlying3 Try.underlying81 (zeroT w) hown hn
    rw [show atN (M.map TkM.ids) n = none by rw [hat.out, hm]; rfl] at hrun
    simp only [mkP] at hrun
    clear hc hat hm hown
    go_enter Try.func24, Try.ntmps24
    go_wp2_with (first | (with_reducible refine wp_serial (by kernel_rfl) (by kernel_rfl) (by (repeat (first | (with_reducible apply NoBad.then) | (with_reducible apply NoBad.inBlock) | (with_reducible exact NoBad.rets))); done) ?_) | fail)
    all_goals go_returns
    all_goals exact ⟨rfl, (by (repeat (first | (with_reducible exact Upd.refl _ _) | (with_reducible assumption) | (with_reducible apply Upd.drew) | (with_reducible apply Upd.alloc) | (refine Upd0.tr ?_ (by with_reducible assumption)) | (refine Upd.setCell ?_ (fun h => absurd h (by first | exact Nat.lt_irrefl _ | (simp only []; omega))) _))); done)⟩
  | some m =>
    have hrun := look_run Try.underlying3 Try.underlying81 (zeroT w) hown hn
    rw [show atN (M.map TkM.ids) n = some m.g by rw [hat.out, hm]; rfl] at hrun
    have ht := hc.tsk m (List.mem_of_find?_eq_some hm)
    obtain ⟨k, g, v⟩ := m
    obtain ⟨ao, cap, hv⟩ := ownsRow_slice ht.row
    obtain ⟨m0, m1, m2, m3⟩ := cell3 ht.blk
    simp only [Option.map_some, mkP] at m0 m1 m2 m3 hrun hv ⊢
    subst hv
    clear hc hat hm ht hown
    go_enter Try.func24, Try.ntmps24
    go_wp2_with (first | (with_reducible refine wp_serial (by kernel_rfl) (by kernel_rfl) (by (repeat (first | (with_reducible apply NoBad.then) | (with_reducible apply NoBad.inBlock) | (with_reducible exact NoBad.rets))); done) ?_) | fail)
    all_goals go_returns
    all_goals exact ⟨rfl, (by (repeat (first | (with_reducible exact Upd.refl _ _) | (with_reducible assumption) | (with_reducible apply Upd.drew) | (with_reducible apply Upd.alloc) | (refine Upd0.tr ?_ (by with_reducible assumption)) | (refine Upd.setCell ?_ (fun h => absurd h (by first | exact Nat.lt_irrefl _ | (simp only []; omega))) _))); done)⟩
theorem done_nil (n : Value) (w : World) : Calls Try.prog 20 #[.pointer none, n] w (Rets fun r w' => r = .tuple #[.slice none 0 0, .bool false] ∧ Upd0 w w') := by
  go_enter Try.func20, Try.ntmps20
  go_wp2_with (first | (with_reducible refine wp_serial (by kernel_rfl) (by kernel_rfl) (by (repeat (first | (with_reducible apply NoBad.then) | (with_reducible apply NoBad.inBlock) | (with_reducible exact NoBad.rets))); done) ?_) | fail)
  all_goals go_returns
  all_goals exact ⟨rfl, (by (repeat (first | (with_reducible exact Upd.refl _ _) | (with_reducible assumption) | (with_reducible apply Upd.drew) | (with_reducible apply Upd.alloc) | (refine Upd0.tr ?_ (by with_reducible assumption)) | (refine Upd.setCell ?_ (fun h => absurd h (by first | exact Nat.lt_irrefl _ | (simp only []; omega))) _))); done)⟩
theorem CoIs.done {w w' : World} {t bm : Nat} {s : Tb} {M : List TkM} (h : CoIs B w t bm s M) (n : Int) (ho : OwnsM Try.prog 3 w' bm ((M.map TkM.ids).filter fun p => !isN n p)) (hturn : w.mapTurned w' bm) :
    CoIs B w' t bm (doneT s n) (M.filter fun m => !isK n m.k) ∧ UpdP B w w' := by
  have hgr := hturn.grown
  obtain ⟨es, cl, he⟩ := h.own.blk
  have hU : Upd (fun b => b = bm) w w' := Upd.grown (Upd.refl _ w) hgr (fun k hk _ => by cases hk; rfl)
  have ht : ¬ t = bm := fun e => by have := h.blk; rw [e, he] at this; cases this
  refine ⟨⟨hU.block ht h.blk, ?_, ?_, fun m hm => ?_, h.dg.sublist List.filter_sublist, h.dv.sublist List.filter_sublist, h.lo.1, h.lo.2.1, fun m hm => h.lo.2.2 m (List.mem_filter.1 hm).1⟩, hU.mono fun b _ hb => ⟨by rw [hb]; exact h.lo.2.1, by rw [hb, he]; rfl⟩⟩
  · rw [List.filter_map] at ho
    exact ho
  · simp only [doneT]
    rw [← h.abs, List.filter_map]
    rfl
  · have hm' := h.tsk m (List.mem_filter.1 hm).1
    refine hm'.to hU (fun e => ?_) (fun g hg e => ?_)
    · have := hm'.blk; rw [e, he] at this; cases this
    · obtain ⟨cur, hc⟩ := kind_row hm'.row hg
      rw [e, he] at hc; cases hc
set_option maxRecDepth 100000 in
theorem done_w (t : Nat) (s : Tb) (n : Int) (hn : (Lit.int .i64 n).wf = true) (w : World) (h : Co B w t s) : Calls Try.prog 20 #[.pointer (some ⟨t, 0, none⟩), .int .i64 n] w (Rets fun r w' =>
    ∃ v, r = .tuple #[v, .bool (doneB s n)] ∧ w'.ownsRow 0 42 3 v (doneC s n).length (cls (doneC s n)) ∧ UpdP B w w' ∧ Co B w' t (doneT s n)) := by
  obtain ⟨hs, bm, M, hc⟩ := h
  obtain ⟨c0, c1, c2, c3, c4⟩ := cell4 hc.blk
  have hown := hc.own
  have hat := Lib.hid (atN_ids n M)
  have hf := find_abs (x := n) hc.abs
  have hrun := look_run Try.underlying3 Try.underlying81 (zeroT w) hown hn
  unfold doneB doneC
  rw [hf]
  cases hm : M.find? fun m => isK n m.k with
  | none =>
    have hT : doneT s n = s := by
      have : s.L.filter (fun k => !isK n k) = s.L := by
        rw [List.filter_eq_self]
        intro k hk
        rw [hm] at hf
        have := List.find?_eq_none.1 hf k hk
        simpa using this
      rw [doneT, this]
    rw [hT]
    rw [show atN (M.map TkM.ids) n = none by rw [hat.out, hm]; rfl] at hrun
    simp only [mkP] at hrun
    have hch := Lib.hid hc
    clear hc hat hm hown hf hT
    go_enter Try.func20, Try.ntmps20
    go_wp2_with (first | (with_reducible refine wp_serial (by kernel_rfl) (by kernel_rfl) (by (repeat (first | (with_reducible apply NoBad.then) | (with_reducible apply NoBad.inBlock) | (with_reducible exact NoBad.rets))); done) ?_) | fail)
    all_goals go_returns
    exact ⟨_, rfl, ⟨rfl, .inl ⟨rfl, rfl⟩⟩, UpdP.of0 (by (repeat (first | (with_reducible exact Upd.refl _ _) | (with_reducible assumption) | (with_reducible apply Upd.drew) | (with_reducible apply Upd.alloc) | (refine Upd0.tr ?_ (by with_reducible assumption)) | (refine Upd.setCell ?_ (fun h => absurd h (by first | exact Nat.lt_irrefl _ | (simp only []; omega))) _))); done), hs, bm, M, hch.out.to0 (by (repeat (first | (with_reducible exact Upd.refl _ _) | (with_reducible assumption) | (with_reducible apply Upd.drew) | (with_reducible apply Upd.alloc) | (refine Upd0.tr ?_ (by with_reducible assumption)) | (refine Upd.setCell ?_ (fun h => absurd h (by first | exact Nat.lt_irrefl _ | (simp only []; omega))) _))); done)⟩
  | some m =>
    rw [show atN (M.map TkM.ids) n = some m.g by rw [hat.out, hm]; rfl] at hrun
    have hd := Lib.hid (fun w' ho ht => hc.done (w' := w') n ho ht)
    have ht := hc.tsk m (List.mem_of_find?_eq_some hm)
    have hbt : m.g ≠ bm := fun e => by obtain ⟨es, cl, he⟩ := hown.blk; have := ht.blk; rw [e, he] at this; cases this
    have hvb : ∀ g, m.v.ownBlock = some g → g ≠ bm := fun g hg e => by
      obtain ⟨es, cl, he⟩ := hown.blk
      obtain ⟨cur, hcu⟩ := kind_row ht.row hg
      rw [e, he] at hcu; cases hcu
    obtain ⟨k, g, v⟩ := m
    obtain ⟨m0, m1, m2, m3⟩ := cell3 ht.blk
    have hrow := Lib.hid ht.row
    have hvb := Lib.hid hvb
    simp only [Option.map_some, mkP, Option.isSome_some] at m0 m1 m2 m3 hrun hrow hvb ⊢
    clear hc hat hm ht hf
    go_enter Try.func20, Try.ntmps20
    go_wp2_with (first
      | (at_delete; refine wpList_delM _ rfl _ _ 81 3 rfl 85 Try.underlying3 Try.underlying81 bm (M.map TkM.ids) rfl hown n rfl hn ?_; intro w6 hown6 hturn6; have ho6 := Lib.hid hown6; have ht6 := Lib.hid hturn6; clear hown6 hturn6)
      | (with_reducible refine wp_serial (by kernel_rfl) (by kernel_rfl) (by (repeat (first | (with_reducible apply NoBad.then) | (with_reducible apply NoBad.inBlock) | (with_reducible exact NoBad.rets))); done) ?_) | fail)
    all_goals go_returns
    obtain ⟨a1, a2⟩ := hd.out _ ho6.out ht6.out
    exact ⟨_, rfl, ownsRow_upd hrow.out (Upd.grown (S := fun b => b = bm) (Upd.refl _ w) ht6.out.grown (fun k hk _ => by cases hk; rfl)) (fun g hg e => hvb.out g hg e), a2, hs.done n, bm, _, a1⟩
end Go.Proofs.Ytebnilkcpklnmaa
