/-
  The program's queue: Next, Due; a queue that is none.
-/
import Derived.Test.YtkkncnffkmopbaaTmN
namespace Go.Proofs.Ytkkncnffkmopbaa
open Go.RowKit Go.Maps
set_option linter.unusedSimpArgs false
set_option linter.unusedVariables false
theorem names_nil (now : Int) (w : World) : Calls Try.prog 21 #[.pointer none, .int .i64 now] w (Rets fun r w' => r = .slice none 0 0 ∧ Upd0 w w') := by
  go_enter Try.func21, Try.ntmps21
  go_wp2_with (first | (with_reducible refine wp_serial (by kernel_rfl) (by kernel_rfl) (by (repeat (first | (with_reducible apply NoBad.then) | (with_reducible apply NoBad.inBlock) | (with_reducible apply NoBad.jump) | (with_reducible exact NoBad.rets))); done) ?_) | fail)
  all_goals go_returns
  all_goals exact ⟨rfl, (by (repeat (first | (with_reducible exact Upd.refl _ _) | (with_reducible assumption) | (with_reducible apply Upd.drew) | (with_reducible apply Upd.alloc) | (refine Upd0.tr ?_ (by with_reducible assumption)) | (refine Upd.setCell ?_ (fun h => absurd h (by first | exact Nat.lt_irrefl _ | (simp only []; omega))) _))); done)⟩
theorem next_nil (w : World) : Calls Try.prog 17 #[.pointer none] w (Rets fun r w' => r = .tuple #[.string ⟨#[]⟩, .int .i64 0, .bool false] ∧ Upd0 w w') := by
  go_enter Try.func17, Try.ntmps17
  go_wp2_with (first
    | (go_at_call 21; (with_reducible refine (names_nil _ _).use ?_); rintro v w1 ⟨rfl, hu1⟩)
    | (with_reducible refine wp_serial (by kernel_rfl) (by kernel_rfl) (by (repeat (first | (with_reducible apply NoBad.then) | (with_reducible apply NoBad.inBlock) | (with_reducible apply NoBad.jump) | (with_reducible exact NoBad.rets))); done) ?_) | fail)
  all_goals go_returns
  all_goals exact ⟨rfl, (by (repeat (first | (with_reducible exact Upd.refl _ _) | (with_reducible assumption) | (with_reducible apply Upd.drew) | (with_reducible apply Upd.alloc) | (refine Upd0.tr ?_ (by with_reducible assumption)) | (refine Upd.setCell ?_ (fun h => absurd h (by first | exact Nat.lt_irrefl _ | (simp only []; omega))) _))); done)⟩
theorem due_nil (now : Int) (w : World) : Calls Try.prog 14 #[.pointer none, .int .i64 now] w (Rets fun r w' => r = .slice none 0 0 ∧ Upd0 w w') := by
  go_enter Try.func14, Try.ntmps14
  go_wp2_with (first
    | (go_at_call 21; (with_reducible refine (names_nil _ _).use ?_); rintro v w1 ⟨rfl, hu1⟩)
    | (with_reducible refine wp_serial (by kernel_rfl) (by kernel_rfl) (by (repeat (first | (with_reducible apply NoBad.then) | (with_reducible apply NoBad.inBlock) | (with_reducible apply NoBad.jump) | (with_reducible exact NoBad.rets))); done) ?_) | fail)
  go_loopw [7, 13] (fun _ ii wr => ii = .int .i64 0 ∧ w1 = wr) (fun _ _ _ => 0)
  case atStart => exact ⟨rfl, rfl⟩
  case round =>
    obtain ⟨rfl, rfl⟩ := hrel
    go_wp2_with (first | (with_reducible refine wp_serial (by kernel_rfl) (by kernel_rfl) (by (repeat (first | (with_reducible apply NoBad.then) | (with_reducible apply NoBad.inBlock) | (with_reducible apply NoBad.jump) | (with_reducible exact NoBad.rets))); done) ?_) | fail)
    all_goals go_returns
    all_goals exact ⟨rfl, (by (repeat (first | (with_reducible exact Upd.refl _ _) | (with_reducible assumption) | (with_reducible apply Upd.drew) | (with_reducible apply Upd.alloc) | (refine Upd0.tr ?_ (by with_reducible assumption)) | (refine Upd.setCell ?_ (fun h => absurd h (by first | exact Nat.lt_irrefl _ | (simp only []; omega))) _))); done)⟩
/-- the first one due -/
def nextV : List Tm → Value
  | [] => .tuple #[.string ⟨#[]⟩, .int .i64 0, .bool false]
  | x :: _ => .tuple #[.string ⟨x.n.toArray⟩, .int .i64 x.a, .bool true]
set_option maxRecDepth 100000 in
theorem next_w (t bm : Nat) (room : Int) (L : List Tm) (w : World) (h : Qu w t bm room L) : Calls Try.prog 17 #[.pointer (some ⟨t, 0, none⟩)] w (Rets fun r w' => r = nextV L ∧ Upd0 w w') := by
  have hall : dueN L 1099511627776 = L.map (·.n) := by
    rw [dueN_eq h.srt, List.filter_eq_self.2]
    intro x hx
    exact decide_eq_true (h.wf x hx).2.2
  have hh := Lib.hid h
  have hc := names_w t bm room L 1099511627776 w h
  rw [hall, List.length_map] at hc
  have hch := Lib.hid hc
  clear h hall hc
  cases L with
  | nil =>
    go_enter Try.func17, Try.ntmps17
    go_wp2_with (first
      | (go_at_call 21; (with_reducible refine (hch.out).use ?_); rintro v w1 ⟨ao, cap, rfl, hs1, hu1⟩)
      | (with_reducible refine wp_serial (by kernel_rfl) (by kernel_rfl) (by (repeat (first | (with_reducible apply NoBad.then) | (with_reducible apply NoBad.inBlock) | (with_reducible apply NoBad.jump) | (with_reducible exact NoBad.rets))); done) ?_) | fail)
    all_goals go_returns
    all_goals exact ⟨rfl, (by (repeat (first | (with_reducible exact Upd.refl _ _) | (with_reducible assumption) | (with_reducible apply Upd.drew) | (with_reducible apply Upd.alloc) | (refine Upd0.tr ?_ (by with_reducible assumption)) | (refine Upd.setCell ?_ (fun h => absurd h (by first | exact Nat.lt_irrefl _ | (simp only []; omega))) _))); done)⟩
  | cons x L =>
    have hat := Lib.hid (show atT (x :: L) x.n = x.a from atT_mem hh.out.srt.2 (List.mem_cons_self ..))
    have hxl := (hh.out.wf x (List.mem_cons_self ..)).1
    have hxm : x.n.length ≤ maxLen := by unfold maxLen; omega
    obtain ⟨nm, at_⟩ := x
    simp only [] at hat hxm
    simp only [nextV]
    go_enter Try.func17, Try.ntmps17
    go_wp2_with (first
      | (go_at_call 21; (with_reducible refine (hch.out).use ?_); rintro v w1 ⟨ao, cap, rfl, hs1, hu1⟩; obtain ⟨g, o, rfl, hg, hcs⟩ := hs1.some (k := 0) (by simp); have hc0 := hcs 0 nm rfl; rw [Nat.add_zero] at hc0; have hq1 := Lib.hid (hh.out.up hu1); obtain ⟨c0, c1⟩ := hq1.out.cells; clear hcs hs1)
      | (at_lookup; refine wpList_lookT _ rfl _ _ rfl bm _ rfl (OwnsT.to hq1.out.own rfl) hh.out.srt.2 nm rfl hxm at_ hat.out ?_)
      | (with_reducible refine wp_serial (by kernel_rfl) (by kernel_rfl) (by (repeat (first | (with_reducible apply NoBad.then) | (with_reducible apply NoBad.inBlock) | (with_reducible apply NoBad.jump) | (with_reducible exact NoBad.rets))); done) ?_) | fail)
    all_goals go_returns
    all_goals exact ⟨rfl, (by (repeat (first | (with_reducible exact Upd.refl _ _) | (with_reducible assumption) | (with_reducible apply Upd.drew) | (with_reducible apply Upd.alloc) | (refine Upd0.tr ?_ (by with_reducible assumption)) | (refine Upd.setCell ?_ (fun h => absurd h (by first | exact Nat.lt_irrefl _ | (simp only []; omega))) _))); done)⟩
theorem sr_upd {S : Nat → Prop} {w w' : World} {ao : Option Addr} {L : List Bs} (h : SR w ao L) (k : Upd S w w') (hS : ∀ g, ao.map (·.block) = some g → ¬ S g) : SR w' ao L := by
  rcases h with rfl | ⟨g, o, rfl, h2, h3⟩
  · exact .inl rfl
  · exact .inr ⟨g, o, rfl, Nat.lt_of_lt_of_le h2 k.size, fun i x hx => k.cell (hS g rfl) (h3 i x hx)⟩
/-- a map's block holds no texts -/
theorem sr_ne {w : World} {ao : Option Addr} {L : List Bs} (h : SR w ao L) (hL : 0 < L.length) {b : Nat} {es : Array MapEntry} {cl : Nat} (hb : w.heap[b]? = some (.map es cl)) : ∀ g, ao.map (·.block) = some g → ¬ g = b := by
  obtain ⟨g, o, rfl, hg, hc⟩ := h.some hL
  intro g' hg' e
  cases hg'
  obtain ⟨x, hx⟩ : ∃ x, L[0]? = some x := ⟨L[0], List.getElem?_eq_getElem hL⟩
  have := hc 0 x hx
  simp only [World.cell?] at this
  rw [show g = b from e, hb] at this
  cases this
theorem goL_take {L : List Tm} {N : List Bs} {k : Nat} {x : Bs} (hx : N[k]? = some x) : goL L (N.take (k + 1)) = stopL (goL L (N.take k)) x := by
  have hk := (List.getElem?_eq_some_iff.1 hx).1
  have e : N.take (k + 1) = N.take k ++ [x] := by rw [List.take_succ_eq_append_getElem hk]; congr 2; exact (List.getElem?_eq_some_iff.1 hx).2
  rw [e, goL_app]; rfl
theorem goL_sub (L : List Tm) (ns : List Bs) : (goL L ns).Sublist L := by rw [goL_filter]; exact List.filter_sublist
theorem Qu.sub {w w' w'' : World} {t bm : Nat} {room : Int} {L L' : List Tm} (h : Qu w t bm room L) (hk : L'.Sublist L) (k : Upd (fun b => b = bm) w w') (ho : OwnsT w' bm L') : Qu w' t bm room L' :=
  ⟨k.block (fun e => h.ne e.symm) h.blk, ho, h.srt.sub hk, h.r1, h.r2, by have := hk.length_le; have := h.len; omega, fun x hx => h.wf x (hk.subset hx)⟩
set_option maxRecDepth 100000 in
set_option maxHeartbeats 1000000 in
theorem due_w (t bm : Nat) (room : Int) (L : List Tm) (now : Int) (w : World) (h : Qu w t bm room L) : Calls Try.prog 14 #[.pointer (some ⟨t, 0, none⟩), .int .i64 now] w (Rets fun r w' =>
    ∃ ao cap, r = .slice ao (dueN L now).length cap ∧ SR w' ao (dueN L now) ∧ Upd (fun b => b = bm) w w' ∧ Qu w' t bm room (dueL L now)) := by
  obtain ⟨N, hN⟩ : ∃ N, dueN L now = N := ⟨_, rfl⟩
  have hc := names_w t bm room L now w h
  have hgo := goL_due h.srt now
  have hmem : ∀ x ∈ N, x.length ≤ maxLen := fun x hx => by
    rw [← hN, dueN_eq h.srt] at hx
    obtain ⟨tm, htm, rfl⟩ := List.mem_map.1 hx
    have := (h.wf tm (List.mem_filter.1 htm).1).1
    unfold maxLen; omega
  have hNl : N.length ≤ 1000 := by
    rw [← hN, dueN_eq h.srt, List.length_map]
    have := List.length_filter_le (fun t => decide (t.a ≤ now)) L
    have := h.len
    have := h.r2
    omega
  rw [hN] at hc hgo ⊢
  have hch := Lib.hid hc
  have hgoh := Lib.hid hgo
  have hmemh := Lib.hid hmem
  have hh := Lib.hid h
  clear h hc hgo hmem hN
  go_enter Try.func14, Try.ntmps14
  go_wp2_with (first
    | (go_at_call 21; (with_reducible refine (hch.out).use ?_); rintro v w1 ⟨ao, cap, rfl, hs1, hu1⟩; have hs1h := Lib.hid hs1; clear hs1)
    | (with_reducible refine wp_serial (by kernel_rfl) (by kernel_rfl) (by (repeat (first | (with_reducible apply NoBad.then) | (with_reducible apply NoBad.inBlock) | (with_reducible apply NoBad.jump) | (with_reducible exact NoBad.rets))); done) ?_) | fail)
  go_loopw [7, 13] (fun _ ii wr => ∃ k : Nat, k ≤ N.length ∧ ii = .int .i64 k ∧ Upd (fun b => b = bm) w1 wr ∧ Hid (OwnsT wr bm (goL L (N.take k)))) (fun _ ii _ => N.length - (intOf ii).toNat)
  case atStart => exact ⟨0, Nat.zero_le _, rfl, Upd.refl _ _, Lib.hid (hh.out.up hu1).own⟩
  case round =>
    obtain ⟨k, hk, rfl, hu, ho⟩ := hrel
    have huw : Upd (fun b => b = bm) w wr := Upd.trans (hu1.mono (fun _ _ h => h.elim)) hu (fun _ _ h => h)
    have hQ := Lib.hid (hh.out.sub (w'' := w) (goL_sub _ _) huw ho.out)
    by_cases hlt : k < N.length
    · obtain ⟨es, cl, hmap⟩ := (hh.out.up hu1).own.blk
      have hsr := sr_upd hs1h.out hu (sr_ne hs1h.out (by omega) hmap)
      obtain ⟨g, o, rfl, hg, hcs⟩ := hsr.some hlt
      obtain ⟨x, hx⟩ : ∃ x, N[k]? = some x := ⟨N[k], List.getElem?_eq_getElem hlt⟩
      have hcx := hcs k x hx
      have hxm := hmemh.out x (List.mem_of_getElem? hx)
      have hxh := Lib.hid hx
      obtain ⟨c0, c1⟩ := hQ.out.cells
      clear hcs hx hmap hsr
      go_wp2_with (first
        | (at_delete; refine wpList_delT _ rfl _ _ rfl bm _ rfl (OwnsT.to ho.out rfl) x rfl hxm ?_; intro w6 ho6 hg6; have hu6 : Upd (fun b => b = bm) wr w6 := Upd.grown (Upd.refl _ _) hg6.grown (fun _ h _ => by cases h; rfl); have ho6h := Lib.hid ho6; clear ho6 hg6)
        | (with_reducible refine wp_serial (by kernel_rfl) (by kernel_rfl) (by (repeat (first | (with_reducible apply NoBad.then) | (with_reducible apply NoBad.inBlock) | (with_reducible apply NoBad.jump) | (with_reducible exact NoBad.rets))); done) ?_) | fail)
      go_roundw
      case rel => exact ⟨k + 1, by omega, by go_num, Upd.trans hu hu6 (fun _ _ h => h), Lib.hid (by rw [goL_take hxh.out]; exact ho6h.out)⟩
      case measure => simp [intOf]; omega
    · have hkN : k = N.length := by omega
      subst hkN
      rw [List.take_length, hgoh.out] at hQ
      go_wp2_with (first | (with_reducible refine wp_serial (by kernel_rfl) (by kernel_rfl) (by (repeat (first | (with_reducible apply NoBad.then) | (with_reducible apply NoBad.inBlock) | (with_reducible apply NoBad.jump) | (with_reducible exact NoBad.rets))); done) ?_) | fail)
      all_goals go_returns
      all_goals
        refine ⟨ao, cap, rfl, ?_, huw, hQ.out⟩
        by_cases h0 : N.length = 0
        · exact .inl (List.eq_nil_of_length_eq_zero h0)
        · obtain ⟨es, cl, hmap⟩ := (hh.out.up hu1).own.blk
          exact sr_upd hs1h.out hu (sr_ne hs1h.out (by omega) hmap)
end Go.Proofs.Ytkkncnffkmopbaa
