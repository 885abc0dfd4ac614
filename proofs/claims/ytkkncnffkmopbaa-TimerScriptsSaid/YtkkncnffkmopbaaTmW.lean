/-
  Operations on timers in a slice that came in; the walk of TimerOrder.
-/
import Derived.Test.YtkkncnffkmopbaaTmO
namespace Go.Proofs.Ytkkncnffkmopbaa
open Go.RowKit Go.Maps
set_option linter.unusedSimpArgs false
set_option linter.unusedVariables false
/-- a slice of operations that came in -/
def OptR (w : World) (ao : Option Addr) (xs : List OpT) : Prop := xs = [] ∨ ∃ g o, ao = some ⟨g, o, none⟩ ∧ g < w.heap.size ∧ ∀ (i : Nat) x, xs[i]? = some x → w.cell? ⟨g, o + i * 3, none⟩ = some (.int .i64 x.dO) ∧ w.cell? ⟨g, o + i * 3 + 1, none⟩ = some (.string ⟨x.nm.toArray⟩) ∧ w.cell? ⟨g, o + i * 3 + 2, none⟩ = some (.int .i64 x.at_) ∧ x.nm.length ≤ maxLen
theorem OptR.some {w : World} {ao : Option Addr} {xs : List OpT} (h : OptR w ao xs) {i : Nat} {x : OpT} (hk : xs[i]? = some x) : ∃ g o, ao = some ⟨g, o, none⟩ ∧ g < w.heap.size ∧ w.cell? ⟨g, o + i * 3, none⟩ = some (.int .i64 x.dO) ∧ w.cell? ⟨g, o + i * 3 + 1, none⟩ = some (.string ⟨x.nm.toArray⟩) ∧ w.cell? ⟨g, o + i * 3 + 2, none⟩ = some (.int .i64 x.at_) ∧ x.nm.length ≤ maxLen := by
  rcases h with rfl | ⟨g, o, h1, h2, h3⟩
  · simp at hk
  · exact ⟨g, o, h1, h2, h3 i x hk⟩
theorem setT_len (room : Int) (L : List Tm) (x : Bs) (a : Int) : (setT room L x a).length ≤ L.length + 1 := by
  unfold setT
  split
  · omega
  · split
    · omega
    · rw [setL_len]; have := stopL_len L x; omega
theorem stop_head {x : Tm} {L : List Tm} (h : Srt (x :: L)) : hasL (x :: L) x.n = true ∧ stopL (x :: L) x.n = L := by
  refine ⟨by simp [hasL], ?_⟩
  have h2 := (List.pairwise_cons.1 h.2).1
  unfold stopL
  rw [List.filter_cons]
  simp only [beq_self_eq_true, Bool.not_true, Bool.false_eq_true, if_false]
  rw [List.filter_eq_self]
  intro y hy
  have := h2 y hy
  simpa using Ne.symm this
theorem stophead_w (t bm : Nat) (room : Int) (x : Tm) (L : List Tm) (w : World) (h : Qu w t bm room (x :: L)) : Calls Try.prog 12 #[.pointer (some ⟨t, 0, none⟩), .string ⟨x.n.toArray⟩] w (Rets fun r w' =>
    r = .bool true ∧ Upd (fun b => b = bm) w w' ∧ Qu w' t bm room L) := by
  have := stop_w t bm room (x :: L) x.n (by have := (h.wf x (List.mem_cons_self ..)).1; unfold maxLen; omega) w h
  rwa [(stop_head h.srt).1, (stop_head h.srt).2] at this
theorem nexthead_w (t bm : Nat) (room : Int) (n : Bs) (a : Int) (L : List Tm) (w : World) (h : Qu w t bm room (⟨n, a⟩ :: L)) : Calls Try.prog 17 #[.pointer (some ⟨t, 0, none⟩)] w (Rets fun r w' => r = .tuple #[.string ⟨n.toArray⟩, .int .i64 a, .bool true] ∧ Upd0 w w') := next_w t bm room _ w h
/-- how many entries the map has -/
def mapSz (w : World) (b : Nat) : Nat := match w.heap[b]? with
  | Option.some (.map es _) => es.size
  | _ => 0
theorem mapSz_eq {w : World} {b : Nat} {L : List Tm} (h : OwnsT w b L) : mapSz w b = L.length := by
  obtain ⟨M, ⟨es, clock, hb, F, _, hD⟩, hM⟩ := h
  have e1 : Maps.size (DataW.map (H := Unit) ((es.toList.map (Go.WideElems.rg Try.prog 9 (plainElem (H := Unit) Try.prog 3))).foldr DataW.insert [])) = es.size := by simp [Maps.size, length_sorted]
  rw [← hD, dmT_size] at e1
  rw [mapSz, hb, ← hM.length_eq, e1]
set_option maxRecDepth 100000 in
set_option maxHeartbeats 2000000 in
theorem timerOrder_walk (ao : Option Addr) (cap : Nat) (xs : List OpT) (w : World) (hS : OptR w ao xs) (hlen : xs.length ≤ maxLen) :
    Calls Try.prog 7 #[.slice ao xs.length cap] w (Rets fun r w' => r = .bool true ∧ Upd0 w w') := by
  have hSh := Lib.hid hS
  clear hS
  simp only [maxLen] at hlen
  rcases Nat.lt_or_ge 60 xs.length with h60 | h60
  · go_enter Try.func7, Try.ntmps7
    go_wp2_with (first
      | (go_at_call 9; (with_reducible refine (tlive_w _).use ?_); rintro v w7 ⟨rfl, hu7⟩)
      | (with_reducible refine wp_serial (by kernel_rfl) (by kernel_rfl) (by (repeat (first | (with_reducible apply NoBad.then) | (with_reducible apply NoBad.inBlock) | (with_reducible apply NoBad.jump) | (with_reducible exact NoBad.rets))); done) ?_) | fail)
    all_goals go_returns
    all_goals exact ⟨rfl, (by (repeat (first | (with_reducible exact Upd.refl _ _) | (with_reducible assumption) | (with_reducible apply Upd.drew) | (with_reducible apply Upd.alloc) | (refine Upd0.tr ?_ (by with_reducible assumption)) | (refine Upd.setCell ?_ (fun h => absurd h (by first | exact Nat.lt_irrefl _ | (simp only []; omega))) _))); done)⟩
  go_enter Try.func7, Try.ntmps7
  go_wp2_with (first
    | (go_at_call 8; (with_reducible refine (timer_new 1000 (by decide) (by decide) _).use ?_); rintro v w1 ⟨t, bm, rfl, htl, hbl, hu1, hq1⟩; have k1 := Lib.hid hq1; clear hq1)
    | (with_reducible refine wp_serial (by kernel_rfl) (by kernel_rfl) (by (repeat (first | (with_reducible apply NoBad.then) | (with_reducible apply NoBad.inBlock) | (with_reducible apply NoBad.jump) | (with_reducible exact NoBad.rets))); done) ?_) | fail)
  go_loopw [5] (fun ii wr => ∃ (k : Nat) (L : List Tm), k ≤ xs.length ∧ ii = .int .i64 k ∧ L.length ≤ k ∧ Upd0 w wr ∧ Hid (Qu wr t bm 1000 L)) (fun ii _ => xs.length - (intOf ii).toNat)
  case atStart => exact ⟨0, [], Nat.zero_le _, rfl, Nat.le_refl _, hu1, k1⟩
  case round =>
    obtain ⟨k, L, hk, rfl, hLk, hu, hQ⟩ := hrel
    by_cases hlt : k < xs.length
    · obtain ⟨x, hx⟩ : ∃ x, xs[k]? = some x := ⟨xs[k], List.getElem?_eq_getElem hlt⟩
      obtain ⟨g, o, rfl, hg, e0, e1, e2, hnm⟩ := hSh.out.some hx
      have d1 := hu.cell (fun h => h) e1
      have d2 := hu.cell (fun h => h) e2
      clear hx e0 e1 e2
      obtain ⟨dO, nm, at_⟩ := x
      simp only [] at d1 d2 hnm
      rcases Nat.lt_or_ge 300 nm.length with h300 | h300
      · go_wp2_with (first
          | (go_at_call 9; (with_reducible refine (tlive_w _).use ?_); rintro v w7 ⟨rfl, hu7⟩)
          | (with_reducible refine wp_serial (by kernel_rfl) (by kernel_rfl) (by (repeat (first | (with_reducible apply NoBad.then) | (with_reducible apply NoBad.inBlock) | (with_reducible apply NoBad.jump) | (with_reducible exact NoBad.rets))); done) ?_) | fail)
        all_goals go_returns
        all_goals exact ⟨rfl, (by (repeat (first | (with_reducible exact Upd.refl _ _) | (with_reducible assumption) | (with_reducible apply Upd.drew) | (with_reducible apply Upd.alloc) | (refine Upd0.tr ?_ (by with_reducible assumption)) | (refine Upd.setCell ?_ (fun h => absurd h (by first | exact Nat.lt_irrefl _ | (simp only []; omega))) _))); done)⟩
      · go_wp2_with (first
          | (go_at_call 10; (with_reducible refine (set_w t bm 1000 L nm at_ hnm _ (hQ.out.up (by (repeat (first | (with_reducible exact Upd.refl _ _) | (with_reducible assumption) | (with_reducible apply Upd.drew) | (with_reducible apply Upd.alloc) | (refine Upd0.tr ?_ (by with_reducible assumption)) | (refine Upd.setCell ?_ (fun h => absurd h (by first | exact Nat.lt_irrefl _ | (simp only []; omega))) _))); done))).use ?_); rintro v w2 ⟨rfl, hu2, hq2⟩; have k2 := Lib.hid hq2; clear hq2)
          | (with_reducible refine wp_serial (by kernel_rfl) (by kernel_rfl) (by (repeat (first | (with_reducible apply NoBad.then) | (with_reducible apply NoBad.inBlock) | (with_reducible apply NoBad.jump) | (with_reducible exact NoBad.rets))); done) ?_) | fail)
        have hl2 := setT_len 1000 L nm at_
        have U2 : Upd0 w w2 := UpdT.fin (by (repeat (first | (with_reducible exact Upd.refl _ _) | (with_reducible assumption) | (with_reducible apply Upd.drew) | (with_reducible apply Upd.alloc) | (refine Upd0.tr ?_ (by with_reducible assumption)) | (refine Upd.setCell ?_ (fun h => absurd h (by first | exact Nat.lt_irrefl _ | (simp only []; omega))) _))); done) hbl hu2
        go_roundw
        case rel => exact ⟨k + 1, setT 1000 L nm at_, by omega, by go_num, by omega, U2, k2⟩
        case measure => simp [intOf]; omega
    · clear k1
      go_wp2_with (first | (with_reducible refine wp_serial (by kernel_rfl) (by kernel_rfl) (by (repeat (first | (with_reducible apply NoBad.then) | (with_reducible apply NoBad.inBlock) | (with_reducible apply NoBad.jump) | (with_reducible exact NoBad.rets))); done) ?_) | fail)
      go_loopw [6, 7, 8, 9] (fun mm _ _ _ wr => ∃ (L : List Tm) (m : Int), mm = .int .i64 m ∧ L.length ≤ 60 ∧ Upd0 w wr ∧ Hid (Qu wr t bm 1000 L) ∧ Hid (∀ x ∈ L, m ≤ x.a)) (fun _ _ _ _ wr => mapSz wr bm)
      case atStart => exact ⟨L, 0, rfl, by omega, hu, hQ, Lib.hid fun x hx => (hQ.out.wf x hx).2.1⟩
      case round =>
        clear hQ hLk
        obtain ⟨L, m, rfl, hL60, hu3, hQ3, hm⟩ := hrel
        have hsz := Lib.hid (mapSz_eq hQ3.out.own)
        cases L with
        | nil =>
          go_wp2_with (first
            | (go_at_call 18; (with_reducible refine (qlen_w t bm 1000 [] _ hQ3.out).use ?_); rintro v w4 ⟨rfl, hu4⟩)
            | (go_at_call 9; (with_reducible refine (tlive_w _).use ?_); rintro v w7 ⟨rfl, hu7⟩)
            | (with_reducible refine wp_serial (by kernel_rfl) (by kernel_rfl) (by (repeat (first | (with_reducible apply NoBad.then) | (with_reducible apply NoBad.inBlock) | (with_reducible apply NoBad.jump) | (with_reducible exact NoBad.rets))); done) ?_) | fail)
          all_goals go_returns
          all_goals exact ⟨rfl, (by (repeat (first | (with_reducible exact Upd.refl _ _) | (with_reducible assumption) | (with_reducible apply Upd.drew) | (with_reducible apply Upd.alloc) | (refine Upd0.tr ?_ (by with_reducible assumption)) | (refine Upd.setCell ?_ (fun h => absurd h (by first | exact Nat.lt_irrefl _ | (simp only []; omega))) _))); done)⟩
        | cons x L =>
          have hxm := hm.out x (List.mem_cons_self ..)
          have hnx : ¬ x.a < m := by omega
          have hrest := Lib.hid (show ∀ y ∈ L, x.a ≤ y.a from fun y hy => cmpT_le ((List.pairwise_cons.1 hQ3.out.srt.1).1 y hy))
          obtain ⟨n, a⟩ := x
          simp only [] at hrest hnx
          clear hxm
          go_wp2_with (first
            | (go_at_call 18; (with_reducible refine (qlen_w t bm 1000 (⟨n, a⟩ :: L) _ hQ3.out).use ?_); rintro v w4 ⟨rfl, hu4⟩; have k4 := Lib.hid (hQ3.out.up hu4))
            | (go_at_call 17; (with_reducible refine (nexthead_w t bm 1000 n a L _ k4.out).use ?_); rintro v w5 ⟨rfl, hu5⟩; have k5 := Lib.hid (k4.out.up hu5))
            | (go_at_call 12; (with_reducible refine (stophead_w t bm 1000 ⟨n, a⟩ L _ k5.out).use ?_); rintro v w6 ⟨rfl, hu6, hq6⟩; have k6 := Lib.hid hq6; clear hq6)
            | (with_reducible refine wp_serial (by kernel_rfl) (by kernel_rfl) (by (repeat (first | (with_reducible apply NoBad.then) | (with_reducible apply NoBad.inBlock) | (with_reducible apply NoBad.jump) | (with_reducible exact NoBad.rets))); done) ?_) | fail)
          have U6 : Upd0 w w6 := UpdT.fin (show Upd0 w w5 from (by (repeat (first | (with_reducible exact Upd.refl _ _) | (with_reducible assumption) | (with_reducible apply Upd.drew) | (with_reducible apply Upd.alloc) | (refine Upd0.tr ?_ (by with_reducible assumption)) | (refine Upd.setCell ?_ (fun h => absurd h (by first | exact Nat.lt_irrefl _ | (simp only []; omega))) _))); done)) hbl hu6
          go_roundw
          case rel => exact ⟨L, a, rfl, by simp at hL60; omega, U6, k6, hrest⟩
          case measure => rw [mapSz_eq k6.out.own, hsz.out]; simp
end Go.Proofs.Ytkkncnffkmopbaa
