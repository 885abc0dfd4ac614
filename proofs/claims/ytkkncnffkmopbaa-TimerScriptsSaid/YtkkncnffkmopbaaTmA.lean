/-
  The program's queue in memory: New, Set, Stop, Len.
-/
import Derived.Test.YtkkncnffkmopbaaTmM
import Derived.Test.YtkkncnffkmopbaaMem2
import Derived.Test.YtkkncnffkmopbaaTmS
import Derived.Test.YtkkncnffkmopbaaSer3
import Derived.RegionTactic
import Derived.BigRegion
namespace Go.Proofs.Ytkkncnffkmopbaa
open Go.RowKit Go.Maps
set_option linter.unusedSimpArgs false
set_option linter.unusedVariables false
structure Qu (w : World) (t bm : Nat) (room : Int) (L : List Tm) : Prop where
  blk : w.heap[t]? = some (.cells #[.int .i64 room, .map (some bm)] 51 (0, 0))
  own : OwnsT w bm L
  srt : Srt L
  r1 : 1 ≤ room
  r2 : room ≤ 1000
  len : (L.length : Int) ≤ room
  wf : ∀ x ∈ L, x.n.length ≤ 300 ∧ 0 ≤ x.a ∧ x.a ≤ 1099511627776
section
variable {w w' : World} {t bm : Nat} {room : Int} {L : List Tm}
theorem Qu.ne (h : Qu w t bm room L) : bm ≠ t := fun e => by
  obtain ⟨es, cl, he⟩ := h.own.blk
  rw [e, h.blk] at he; cases he
theorem Qu.to {S : Nat → Prop} (h : Qu w t bm room L) (k : Upd S w w') (ht : ¬ S t) (hb : ¬ S bm) : Qu w' t bm room L :=
  ⟨k.block ht h.blk, h.own.to (k.keep bm h.own.lt hb), h.srt, h.r1, h.r2, h.len, h.wf⟩
theorem Qu.up (h : Qu w t bm room L) (k : Upd0 w w') : Qu w' t bm room L := h.to k (fun h => h) (fun h => h)
theorem Qu.cells (h : Qu w t bm room L) : w.cell? ⟨t, 0, none⟩ = some (.int .i64 room) ∧ w.cell? ⟨t, 1, none⟩ = some (.map (some bm)) := ⟨by rw [blk_cell h.blk]; rfl, by rw [blk_cell h.blk]; rfl⟩
/-- behind a write of the map -/
theorem Qu.turn {L' : List Tm} (h : Qu w t bm room L) (k : Upd0 w w') {w'' : World} (ho : OwnsT w'' bm L') (hg : w'.mapTurned w'' bm) (hs : Srt L') (hl : (L'.length : Int) ≤ room) (hw : ∀ x ∈ L', x.n.length ≤ 300 ∧ 0 ≤ x.a ∧ x.a ≤ 1099511627776) :
    Upd (fun b => b = bm) w w'' ∧ Qu w'' t bm room L' := by
  have h1 : Upd (fun b => b = bm) w w'' := Upd.grown (k.mono (fun _ _ h => h.elim)) hg.grown (fun _ h _ => by cases h; rfl)
  exact ⟨h1, h1.block (fun e => h.ne e.symm) h.blk, ho, hs, h.r1, h.r2, hl, hw⟩
end
theorem UpdT.fin {w0 w w' : World} {bm : Nat} (h : Upd0 w0 w) (hb : w0.heap.size ≤ bm) (k : Upd (fun b => b = bm) w w') : Upd0 w0 w' := Upd.trans h k fun n hn hs => by omega
def argT (x : Bs) (a : Int) : Bool := decide (a < 0) || decide (1099511627776 < a) || decide (300 < x.length)
def setC (room : Int) (L : List Tm) (x : Bs) (a : Int) : Int := if argT x a then 1 else if hasL L x = false ∧ room ≤ L.length then 4 else 0
def setT (room : Int) (L : List Tm) (x : Bs) (a : Int) : List Tm := if argT x a then L else if hasL L x = false ∧ room ≤ L.length then L else setL L x a
theorem stopL_len (L : List Tm) (x : Bs) : (stopL L x).length ≤ L.length := List.length_filter_le _ _
theorem setL_len (L : List Tm) (x : Bs) (a : Int) : (setL L x a).length = (stopL L x).length + 1 := by rw [(setL_perm L x a).length_eq]; rfl
theorem stopL_has {L : List Tm} {x : Bs} (h : hasL L x = true) : (stopL L x).length < L.length := by
  obtain ⟨t, ht, hx⟩ := List.any_eq_true.1 h
  exact List.length_filter_lt_length_iff_exists.2 ⟨t, ht, by simpa using hx⟩
theorem timer_no (room : Int) (h : room < 1 ∨ 1000 < room) (w : World) : Calls Try.prog 8 #[.int .i64 room] w (Rets fun r w' => r = .tuple #[.pointer none, .int .i64 1] ∧ Upd0 w w') := by
  rcases Int.lt_or_le room 1 with h1 | h1
  · go_enter Try.func8, Try.ntmps8
    go_wp2_with (first | (with_reducible refine wp_serial (by kernel_rfl) (by kernel_rfl) (by (repeat (first | (with_reducible apply NoBad.then) | (with_reducible apply NoBad.inBlock) | (with_reducible apply NoBad.jump) | (with_reducible exact NoBad.rets))); done) ?_) | fail)
    all_goals go_returns
    all_goals exact ⟨rfl, (by (repeat (first | (with_reducible exact Upd.refl _ _) | (with_reducible assumption) | (with_reducible apply Upd.drew) | (with_reducible apply Upd.alloc) | (refine Upd0.tr ?_ (by with_reducible assumption)) | (refine Upd.setCell ?_ (fun h => absurd h (by first | exact Nat.lt_irrefl _ | (simp only []; omega))) _))); done)⟩
  · have h2 : 1000 < room := by omega
    clear h
    go_enter Try.func8, Try.ntmps8
    go_wp2_with (first | (with_reducible refine wp_serial (by kernel_rfl) (by kernel_rfl) (by (repeat (first | (with_reducible apply NoBad.then) | (with_reducible apply NoBad.inBlock) | (with_reducible apply NoBad.jump) | (with_reducible exact NoBad.rets))); done) ?_) | fail)
    all_goals go_returns
    all_goals exact ⟨rfl, (by (repeat (first | (with_reducible exact Upd.refl _ _) | (with_reducible assumption) | (with_reducible apply Upd.drew) | (with_reducible apply Upd.alloc) | (refine Upd0.tr ?_ (by with_reducible assumption)) | (refine Upd.setCell ?_ (fun h => absurd h (by first | exact Nat.lt_irrefl _ | (simp only []; omega))) _))); done)⟩
theorem timer_new (room : Int) (h1 : 1 ≤ room) (h2 : room ≤ 1000) (w : World) : Calls Try.prog 8 #[.int .i64 room] w (Rets fun r w' => ∃ t bm, r = .tuple #[.pointer (some ⟨t, 0, none⟩), .int .i64 0] ∧ w.heap.size ≤ t ∧ w.heap.size ≤ bm ∧ Upd0 w w' ∧ Qu w' t bm room []) := by
  have hmm := @run_makeMap Try.prog
  go_enter Try.func8, Try.ntmps8
  go_wp2_with (first | (with_reducible refine wp_serial (by kernel_rfl) (by kernel_rfl) (by (repeat (first | (with_reducible apply NoBad.then) | (with_reducible apply NoBad.inBlock) | (with_reducible apply NoBad.jump) | (with_reducible exact NoBad.rets))); done) ?_) | fail)
  all_goals go_returns
  all_goals exact ⟨w.heap.size + 1, w.heap.size, rfl, by omega, Nat.le_refl _, (by (repeat (first | (with_reducible exact Upd.refl _ _) | (with_reducible assumption) | (with_reducible apply Upd.drew) | (with_reducible apply Upd.alloc) | (refine Upd0.tr ?_ (by with_reducible assumption)) | (refine Upd.setCell ?_ (fun h => absurd h (by first | exact Nat.lt_irrefl _ | (simp only []; omega))) _))); done), ⟨alloc_last _ _ _ (by simp), (ownsT_new w).to (Below.heap_alloc _ _ _ (by simp)), ⟨List.Pairwise.nil, List.Pairwise.nil⟩, h1, h2, by simp; omega, fun x hx => by cases hx⟩⟩
set_option maxRecDepth 100000 in
theorem set_nil (x : Bs) (a : Int) (w : World) : Calls Try.prog 10 #[.pointer none, .string ⟨x.toArray⟩, .int .i64 a] w (Rets fun r w' => r = .int .i64 1 ∧ Upd0 w w') := by
  go_enter Try.func10, Try.ntmps10
  go_wp2_with (first | (with_reducible refine wp_serial (by kernel_rfl) (by kernel_rfl) (by (repeat (first | (with_reducible apply NoBad.then) | (with_reducible apply NoBad.inBlock) | (with_reducible apply NoBad.jump) | (with_reducible exact NoBad.rets))); done) ?_) | fail)
  all_goals go_returns
  all_goals exact ⟨rfl, (by (repeat (first | (with_reducible exact Upd.refl _ _) | (with_reducible assumption) | (with_reducible apply Upd.drew) | (with_reducible apply Upd.alloc) | (refine Upd0.tr ?_ (by with_reducible assumption)) | (refine Upd.setCell ?_ (fun h => absurd h (by first | exact Nat.lt_irrefl _ | (simp only []; omega))) _))); done)⟩
theorem stop_nil (x : Bs) (w : World) : Calls Try.prog 12 #[.pointer none, .string ⟨x.toArray⟩] w (Rets fun r w' => r = .bool false ∧ Upd0 w w') := by
  go_enter Try.func12, Try.ntmps12
  go_wp2_with (first | (with_reducible refine wp_serial (by kernel_rfl) (by kernel_rfl) (by (repeat (first | (with_reducible apply NoBad.then) | (with_reducible apply NoBad.inBlock) | (with_reducible apply NoBad.jump) | (with_reducible exact NoBad.rets))); done) ?_) | fail)
  all_goals go_returns
  all_goals exact ⟨rfl, (by (repeat (first | (with_reducible exact Upd.refl _ _) | (with_reducible assumption) | (with_reducible apply Upd.drew) | (with_reducible apply Upd.alloc) | (refine Upd0.tr ?_ (by with_reducible assumption)) | (refine Upd.setCell ?_ (fun h => absurd h (by first | exact Nat.lt_irrefl _ | (simp only []; omega))) _))); done)⟩
theorem qlen_nil (w : World) : Calls Try.prog 18 #[.pointer none] w (Rets fun r w' => r = .int .i64 0 ∧ Upd0 w w') := by
  go_enter Try.func18, Try.ntmps18
  go_wp2_with (first | (with_reducible refine wp_serial (by kernel_rfl) (by kernel_rfl) (by (repeat (first | (with_reducible apply NoBad.then) | (with_reducible apply NoBad.inBlock) | (with_reducible apply NoBad.jump) | (with_reducible exact NoBad.rets))); done) ?_) | fail)
  all_goals go_returns
  all_goals exact ⟨rfl, (by (repeat (first | (with_reducible exact Upd.refl _ _) | (with_reducible assumption) | (with_reducible apply Upd.drew) | (with_reducible apply Upd.alloc) | (refine Upd0.tr ?_ (by with_reducible assumption)) | (refine Upd.setCell ?_ (fun h => absurd h (by first | exact Nat.lt_irrefl _ | (simp only []; omega))) _))); done)⟩
set_option maxRecDepth 100000 in
set_option maxHeartbeats 2000000 in
theorem set_w (t bm : Nat) (room : Int) (L : List Tm) (x : Bs) (a : Int) (hx : x.length ≤ maxLen) (w : World) (h : Qu w t bm room L) : Calls Try.prog 10 #[.pointer (some ⟨t, 0, none⟩), .string ⟨x.toArray⟩, .int .i64 a] w (Rets fun r w' =>
    r = .int .i64 (setC room L x a) ∧ Upd (fun b => b = bm) w w' ∧ Qu w' t bm room (setT room L x a)) := by
  by_cases harg : argT x a = true
  · have hc := Lib.hid (show setC room L x a = 1 ∧ setT room L x a = L from ⟨by rw [setC, if_pos harg], by rw [setT, if_pos harg]⟩)
    simp only [argT, Bool.or_eq_true, decide_eq_true_eq] at harg
    have hcase : a < 0 ∨ (¬ a < 0 ∧ 1099511627776 < a) ∨ (¬ a < 0 ∧ ¬ 1099511627776 < a ∧ 300 < x.length) := by omega
    have hh := Lib.hid h
    clear harg h
    rcases hcase with h1 | ⟨h1, h2⟩ | ⟨h1, h2, h3⟩
    all_goals
      go_enter Try.func10, Try.ntmps10
      go_wp2_with (first | (with_reducible refine wp_serial (by kernel_rfl) (by kernel_rfl) (by (repeat (first | (with_reducible apply NoBad.then) | (with_reducible apply NoBad.inBlock) | (with_reducible apply NoBad.jump) | (with_reducible exact NoBad.rets))); done) ?_) | fail)
      all_goals go_returns
      all_goals
        exact ⟨by rw [hc.out.1]; rfl, Upd.mono (S := fun _ => False) (by (repeat (first | (with_reducible exact Upd.refl _ _) | (with_reducible assumption) | (with_reducible apply Upd.drew) | (with_reducible apply Upd.alloc) | (refine Upd0.tr ?_ (by with_reducible assumption)) | (refine Upd.setCell ?_ (fun h => absurd h (by first | exact Nat.lt_irrefl _ | (simp only []; omega))) _))); done) (fun _ _ h => h.elim), by rw [hc.out.2]; exact hh.out.up (by (repeat (first | (with_reducible exact Upd.refl _ _) | (with_reducible assumption) | (with_reducible apply Upd.drew) | (with_reducible apply Upd.alloc) | (refine Upd0.tr ?_ (by with_reducible assumption)) | (refine Upd.setCell ?_ (fun h => absurd h (by first | exact Nat.lt_irrefl _ | (simp only []; omega))) _))); done)⟩
  · have hx3 : x.length ≤ 300 := by simp only [argT, Bool.or_eq_true, decide_eq_true_eq] at harg; omega
    have ha0 : ¬ a < 0 := by simp only [argT, Bool.or_eq_true, decide_eq_true_eq] at harg; omega
    have ha1 : ¬ 1099511627776 < a := by simp only [argT, Bool.or_eq_true, decide_eq_true_eq] at harg; omega
    obtain ⟨c0, c1⟩ := h.cells
    have hl := lenT_run h.own
    have hld := lenT_run (w := w.drew) (h.own.to rfl)
    obtain ⟨b, hb⟩ : ∃ b, hasL L x = b := ⟨_, rfl⟩
    obtain ⟨c, hc⟩ : ∃ c, atT L x = c := ⟨_, rfl⟩
    have hwf : (Lit.int .i64 a).wf = true := by simp [Lit.wf, IntKind.min, IntKind.max, IntKind.bits, IntKind.signed]; omega
    have hh := Lib.hid h
    have hbh := Lib.hid hb
    have hch := Lib.hid hc
    have hL := h.len
    have hr2 := h.r2
    have hargh := Lib.hid harg
    clear h hb hc harg
    have hset : b = true ∨ (L.length : Int) < room → setC room L x a = 0 ∧ setT room L x a = setL L x a := fun hd => by
      have hn : ¬ (hasL L x = false ∧ room ≤ L.length) := by rw [hbh.out]; rintro ⟨h1, h2⟩; rcases hd with h3 | h3; rw [h1] at h3; cases h3; omega
      exact ⟨by rw [setC, if_neg hargh.out, if_neg hn], by rw [setT, if_neg hargh.out, if_neg hn]⟩
    have hfin : b = true ∨ (L.length : Int) < room → ∀ w' w'', Upd0 w w' → OwnsT w'' bm (setL L x a) → w'.mapTurned w'' bm → Upd (fun b => b = bm) w w'' ∧ Qu w'' t bm room (setL L x a) := fun hd w' w'' hu ho hg =>
      hh.out.turn hu ho hg (hh.out.srt.set x a) (by
        rw [setL_len]
        have := stopL_len L x
        rcases hd with h1 | h1
        · have := stopL_has (hbh.out.trans h1); omega
        · omega) (fun y hy => by
        rcases List.mem_cons.1 ((setL_perm L x a).mem_iff.1 hy) with rfl | hy
        · exact ⟨hx3, (show (0 : Int) ≤ a by omega), (show a ≤ 1099511627776 by omega)⟩
        · exact hh.out.wf y (List.mem_filter.1 hy).1)
    have hseth := Lib.hid hset
    have hfinh := Lib.hid hfin
    clear hset hfin
    rcases Int.lt_or_le L.length room with hlr | hlr
    · cases b
      all_goals
        go_enter Try.func10, Try.ntmps10
        go_wp2_with (first
          | (at_lookup; refine wpList_lookokT _ rfl _ _ rfl bm L rfl (OwnsT.to hh.out.own rfl) hh.out.srt.2 x rfl hx c hch.out _ hbh.out ?_)
          | fail)
        go_region
        all_goals go_wp2_with (first
          | (at_mapUpdate; refine wpList_putT _ rfl _ _ _ rfl bm L rfl (OwnsT.to hh.out.own rfl) (by unfold maxLen; omega) x rfl hx a rfl hwf ?_; intro w6 ho6 hg6; obtain ⟨u6, q6⟩ := hfinh.out (.inr hlr) _ _ (by first | exact Upd.refl _ _ | exact (Upd.refl _ _).drew | exact (Upd.refl _ _).drew.drew) ho6 hg6; have q6h := Lib.hid q6; clear ho6 hg6 q6)
          | fail)
        all_goals go_returns
        all_goals exact ⟨by rw [(hseth.out (.inr hlr)).1]; rfl, u6, by rw [(hseth.out (.inr hlr)).2]; exact q6h.out⟩
    · cases b
      · have hno := Lib.hid (show setC room L x a = 4 ∧ setT room L x a = L from ⟨by rw [setC, if_neg hargh.out, if_pos ⟨hbh.out, hlr⟩], by rw [setT, if_neg hargh.out, if_pos ⟨hbh.out, hlr⟩]⟩)
        go_enter Try.func10, Try.ntmps10
        go_wp2_with (first
          | (at_lookup; refine wpList_lookokT _ rfl _ _ rfl bm L rfl (OwnsT.to hh.out.own rfl) hh.out.srt.2 x rfl hx c hch.out _ hbh.out ?_)
          | fail)
        go_region
        all_goals go_wp2_with (first
          | fail)
        all_goals go_returns
        all_goals
          exact ⟨by rw [hno.out.1]; rfl, Upd.mono (S := fun _ => False) (by (repeat (first | (with_reducible exact Upd.refl _ _) | (with_reducible assumption) | (with_reducible apply Upd.drew) | (with_reducible apply Upd.alloc) | (refine Upd0.tr ?_ (by with_reducible assumption)) | (refine Upd.setCell ?_ (fun h => absurd h (by first | exact Nat.lt_irrefl _ | (simp only []; omega))) _))); done) (fun _ _ h => h.elim), by rw [hno.out.2]; exact hh.out.up (by (repeat (first | (with_reducible exact Upd.refl _ _) | (with_reducible assumption) | (with_reducible apply Upd.drew) | (with_reducible apply Upd.alloc) | (refine Upd0.tr ?_ (by with_reducible assumption)) | (refine Upd.setCell ?_ (fun h => absurd h (by first | exact Nat.lt_irrefl _ | (simp only []; omega))) _))); done)⟩
      · go_enter Try.func10, Try.ntmps10
        go_wp2_with (first
          | (at_lookup; refine wpList_lookokT _ rfl _ _ rfl bm L rfl (OwnsT.to hh.out.own rfl) hh.out.srt.2 x rfl hx c hch.out _ hbh.out ?_)
          | fail)
        go_region
        all_goals go_wp2_with (first
          | (at_mapUpdate; refine wpList_putT _ rfl _ _ _ rfl bm L rfl (OwnsT.to hh.out.own rfl) (by unfold maxLen; omega) x rfl hx a rfl hwf ?_; intro w6 ho6 hg6; obtain ⟨u6, q6⟩ := hfinh.out (.inl (by first | rfl | trivial)) _ _ (by first | exact Upd.refl _ _ | exact (Upd.refl _ _).drew | exact (Upd.refl _ _).drew.drew) ho6 hg6; have q6h := Lib.hid q6; clear ho6 hg6 q6)
          | fail)
        all_goals go_returns
        all_goals exact ⟨by rw [(hseth.out (.inl (by first | rfl | trivial))).1]; rfl, u6, by rw [(hseth.out (.inl (by first | rfl | trivial))).2]; exact q6h.out⟩
set_option maxRecDepth 100000 in
theorem stop_w (t bm : Nat) (room : Int) (L : List Tm) (x : Bs) (hx : x.length ≤ maxLen) (w : World) (h : Qu w t bm room L) : Calls Try.prog 12 #[.pointer (some ⟨t, 0, none⟩), .string ⟨x.toArray⟩] w (Rets fun r w' =>
    r = .bool (hasL L x) ∧ Upd (fun b => b = bm) w w' ∧ Qu w' t bm room (stopL L x)) := by
  obtain ⟨c0, c1⟩ := h.cells
  obtain ⟨b, hb⟩ : ∃ b, hasL L x = b := ⟨_, rfl⟩
  obtain ⟨c, hc⟩ : ∃ c, atT L x = c := ⟨_, rfl⟩
  rw [hb]
  have hh := Lib.hid h
  have hbh := Lib.hid hb
  have hch := Lib.hid hc
  have hfin : ∀ w' w'', Upd0 w w' → OwnsT w'' bm (stopL L x) → w'.mapTurned w'' bm → Upd (fun b => b = bm) w w'' ∧ Qu w'' t bm room (stopL L x) := fun w' w'' hu ho hg =>
    hh.out.turn hu ho hg (hh.out.srt.stop x) (by have := stopL_len L x; have := hh.out.len; omega) (fun y hy => hh.out.wf y (List.mem_filter.1 hy).1)
  have hfinh := Lib.hid hfin
  clear h hb hc hfin
  go_enter Try.func12, Try.ntmps12
  go_wp2_with (first
    | (at_lookup; refine wpList_lookokT _ rfl _ _ rfl bm L rfl (OwnsT.to hh.out.own rfl) hh.out.srt.2 x rfl hx c hch.out _ hbh.out ?_)
    | (at_delete; refine wpList_delT _ rfl _ _ rfl bm L rfl (OwnsT.to hh.out.own rfl) x rfl hx ?_; intro w6 ho6 hg6; obtain ⟨u6, q6⟩ := hfinh.out _ _ (by first | exact Upd.refl _ _ | exact (Upd.refl _ _).drew | exact (Upd.refl _ _).drew.drew) ho6 hg6; have q6h := Lib.hid q6; clear ho6 hg6 q6)
    | (with_reducible refine wp_serial (by kernel_rfl) (by kernel_rfl) (by (repeat (first | (with_reducible apply NoBad.then) | (with_reducible apply NoBad.inBlock) | (with_reducible apply NoBad.jump) | (with_reducible exact NoBad.rets))); done) ?_) | fail)
  all_goals go_returns
  all_goals exact ⟨rfl, u6, q6h.out⟩
theorem qlen_w (t bm : Nat) (room : Int) (L : List Tm) (w : World) (h : Qu w t bm room L) : Calls Try.prog 18 #[.pointer (some ⟨t, 0, none⟩)] w (Rets fun r w' => r = .int .i64 L.length ∧ Upd0 w w') := by
  obtain ⟨c0, c1⟩ := h.cells
  have hh := Lib.hid h
  clear h
  go_enter Try.func18, Try.ntmps18
  go_wp2_with (first
    | (at_len; refine wpList_lenT _ rfl _ rfl bm L rfl (OwnsT.to hh.out.own rfl) _ rfl ?_)
    | (with_reducible refine wp_serial (by kernel_rfl) (by kernel_rfl) (by (repeat (first | (with_reducible apply NoBad.then) | (with_reducible apply NoBad.inBlock) | (with_reducible apply NoBad.jump) | (with_reducible exact NoBad.rets))); done) ?_) | fail)
  all_goals go_returns
  all_goals exact ⟨rfl, (by (repeat (first | (with_reducible exact Upd.refl _ _) | (with_reducible assumption) | (with_reducible apply Upd.drew) | (with_reducible apply Upd.alloc) | (refine Upd0.tr ?_ (by with_reducible assumption)) | (refine Upd.setCell ?_ (fun h => absurd h (by first | exact Nat.lt_irrefl _ | (simp only []; omega))) _))); done)⟩
end Go.Proofs.Ytkkncnffkmopbaa
