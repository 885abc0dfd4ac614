/-
  The walk of TimerScripts: whatever is set, stopped and told, a queue answers what the document says.
-/
import Derived.Test.YtkkncnffkmopbaaTmU
import Derived.Test.YtkkncnffkmopbaaSer9
import Derived.Deep.CutRange
import Derived.Deep.CutBlock
namespace Go.Proofs.Ytkkncnffkmopbaa
open Go.RowKit Go.Maps
set_option linter.unusedSimpArgs false
set_option linter.unusedVariables false
theorem rset_w (b : Nat) (room : Int) (L : List Tm) (x : Bs) (a : Int) (hl : L.length ≤ 1000) (w : World) (h : Rq w b room L) : Calls Try.prog 11 #[.pointer (some ⟨b, 0, none⟩), .string ⟨x.toArray⟩, .int .i64 a] w (Rets fun r w' =>
    r = .int .i64 (setC room L x a) ∧ Upd (fun n => n = b) w w' ∧ Rq w' b room (setT room L x a)) := by
  cases hok : argT x a with
  | false => exact rset_ok b room L x a hok hl w h
  | true =>
    have h1 : setC room L x a = 1 := by rw [setC, if_pos hok]
    have h2 : setT room L x a = L := by rw [setT, if_pos hok]
    rw [h1, h2]
    exact (rset_bad b room L x a hok w h).use fun v w' ⟨e, hu⟩ => ⟨e, hu.mono (fun _ _ h => h.elim), h.up hu⟩
theorem rq_new (w : World) (room : Int) : Rq (w.alloc (.cells #[.int .i64 room, .slice none 0 0] 31 (0, 0))) w.heap.size room [] :=
  ⟨none, 0, alloc_last _ _ _ rfl, ⟨Nat.le_refl _, (fun _ => rfl), fun ad h => by cases h⟩, .inl rfl⟩
/-- the two queues: no write of the one touches the other -/
theorem Rq.bm {w w' : World} {t bm b : Nat} {room : Int} {L L2 : List Tm} (h : Rq w b room L) (hq : Qu w t bm room L2) (k : Upd (fun n => n = bm) w w') : Rq w' b room L := h.upd k fun n hn cur tt e => by
  obtain ⟨es, cl, he⟩ := hq.own.blk
  rw [hn, he] at e; cases e
theorem Qu.rb {w w' : World} {t bm b : Nat} {room : Int} {L L2 : List Tm} (h : Qu w t bm room L) (hq : Rq w b room L2) (k : Upd (fun n => n = b) w w') : Qu w' t bm room L := by
  obtain ⟨ao, cap, hb, _, _⟩ := hq
  refine h.to k (fun e => ?_) (fun e => ?_)
  · have := h.blk; rw [e, hb] at this; cases this
  · obtain ⟨es, cl, he⟩ := h.own.blk; rw [e, hb] at he; cases he
theorem sr_rb {w w' : World} {b : Nat} {room : Int} {L2 : List Tm} {ao : Option Addr} {L : List Bs} (h : SR w ao L) (hq : Rq w b room L2) (k : Upd (fun n => n = b) w w') : SR w' ao L := by
  by_cases h0 : L.length = 0
  · exact .inl (List.eq_nil_of_length_eq_zero h0)
  · refine sr_upd h k fun g hg e => ?_
    obtain ⟨g', o, rfl, hgl, hc⟩ := h.some (k := 0) (by omega)
    obtain ⟨x, hx⟩ : ∃ x, L[0]? = some x := ⟨_, List.getElem?_eq_getElem (by omega)⟩
    have hc0 := hc 0 x hx
    obtain ⟨ao2, cap, hb, _, _⟩ := hq
    have e2 : g' = b := by simp at hg; omega
    rw [e2, blk_cell hb] at hc0
    match o, hc0 with
    | 0, hc0 => cases hc0
    | 1, hc0 => cases hc0
    | n + 2, hc0 => simp at hc0
theorem alloc_last_d (w : World) (o : Obj) (n : Nat) (h : n = w.heap.size) : (w.alloc o).drew.heap[n]? = some o := alloc_last w o n h
theorem ob_keep {w w' : World} {S : Nat → Prop} {ob : Nat} {o : Obj} (h : w.heap[ob]? = some o) (k : Upd S w w') (hS : ¬ S ob) : w'.heap[ob]? = some o := k.block hS h
set_option maxRecDepth 100000 in
set_option maxHeartbeats 8000000 in
theorem timerScripts_walk (room : Int) (ao : Option Addr) (cap : Nat) (xs : List OpT) (w : World) (hS : OptR w ao xs) (hlen : xs.length ≤ maxLen) :
    Calls Try.prog 3 #[.int .i64 room, .slice ao xs.length cap] w (Rets fun r w' => r = .bool true ∧ Upd0 w w') := by
  have hSh := Lib.hid hS
  clear hS
  simp only [maxLen] at hlen
  by_cases hok : 1 ≤ room ∧ room ≤ 1000
  case neg =>
    have hbad : room < 1 ∨ (1 ≤ room ∧ 1000 < room) := by omega
    have hb2 := Lib.hid (show room < 1 ∨ 1000 < room by omega)
    clear hok
    rcases hbad with hb | ⟨hb, hb1⟩
    all_goals
      go_enter Try.func3, Try.ntmps3
      go_wp2_with (first
        | (go_at_call 8; (with_reducible refine (timer_no room hb2.out _).use ?_); rintro v w1 ⟨rfl, hu1⟩)
        | (go_at_call 9; (with_reducible refine (tlive_w _).use ?_); rintro v w7 ⟨rfl, hu7⟩)
        | (with_reducible refine wp_serial (by kernel_rfl) (by kernel_rfl) (by (repeat (first | (with_reducible apply NoBad.then) | (with_reducible apply NoBad.inBlock) | (with_reducible apply NoBad.jump) | (with_reducible exact NoBad.rets))); done) ?_) | fail)
      all_goals go_returns
      all_goals exact ⟨rfl, (by (repeat (first | (with_reducible exact Upd.refl _ _) | (with_reducible assumption) | (with_reducible apply Upd.drew) | (with_reducible apply Upd.alloc) | (refine Upd0.tr ?_ (by with_reducible assumption)) | (refine Upd.setCell ?_ (fun h => absurd h (by first | exact Nat.lt_irrefl _ | (simp only []; omega))) _))); done)⟩
  obtain ⟨hk1, hk2⟩ := hok
  go_enter Try.func3, Try.ntmps3
  go_wp2_with (first
    | (go_at_call 8; (with_reducible refine (timer_new room hk1 hk2 _).use ?_); rintro v w1 ⟨t, bm, rfl, htl, hbl, hu1, hq1⟩; have k1 := Lib.hid hq1; clear hq1)
    | (with_reducible refine wp_serial (by kernel_rfl) (by kernel_rfl) (by (repeat (first | (with_reducible apply NoBad.then) | (with_reducible apply NoBad.inBlock) | (with_reducible apply NoBad.jump) | (with_reducible exact NoBad.rets))); done) ?_) | fail)
  obtain ⟨rb, hrb⟩ : ∃ rb, w1.heap.size = rb := ⟨_, rfl⟩
  have hrbw : w.heap.size ≤ rb := by rw [← hrb]; exact hu1.size
  have hr1 := Lib.hid (show Rq (w1.alloc (.cells #[.int .i64 room, .slice none 0 0] 31 (0, 0))) rb room [] from by rw [← hrb]; exact rq_new w1 room)
  have hq1 := Lib.hid (show Qu (w1.alloc (.cells #[.int .i64 room, .slice none 0 0] 31 (0, 0))) t bm room [] from k1.out.up (by (repeat (first | (with_reducible exact Upd.refl _ _) | (with_reducible assumption) | (with_reducible apply Upd.drew) | (with_reducible apply Upd.alloc) | (refine Upd0.tr ?_ (by with_reducible assumption)) | (refine Upd.setCell ?_ (fun h => absurd h (by first | exact Nat.lt_irrefl _ | (simp only []; omega))) _))); done))
  have hU1 : Upd0 w (w1.alloc (.cells #[.int .i64 room, .slice none 0 0] 31 (0, 0))) := (by (repeat (first | (with_reducible exact Upd.refl _ _) | (with_reducible assumption) | (with_reducible apply Upd.drew) | (with_reducible apply Upd.alloc) | (refine Upd0.tr ?_ (by with_reducible assumption)) | (refine Upd.setCell ?_ (fun h => absurd h (by first | exact Nat.lt_irrefl _ | (simp only []; omega))) _))); done)
  rw [hrb]
  clear hrb k1
  go_loopw [8, 9, 10, 11, 12, 13, 14] (fun j _ _ _ _ _ _ wr => ∃ (k : Nat) (L : List Tm), k ≤ xs.length ∧ k ≤ 100 ∧ j = .int .i64 k ∧ Upd0 w wr ∧ Hid (Qu wr t bm room L) ∧ Hid (Rq wr rb room L)) (fun j _ _ _ _ _ _ _ => xs.length - (intOf j).toNat)
  case atStart => exact ⟨0, [], Nat.zero_le _, by omega, rfl, hU1, hq1, hr1⟩
  case round =>
    obtain ⟨k, L, hk, hk100, rfl, hu, hQ, hR⟩ := hrel
    have hl1000 : L.length ≤ 1000 := by have := hQ.out.len; omega
    clear hq1 hr1 hU1
    by_cases hlt : k < xs.length ∧ k < 100
    case neg =>
      have hkx : ¬ (k < xs.length) ∨ (k < xs.length ∧ k = 100) := by omega
      clear hlt
      rcases hkx with hkx | ⟨hkx, rfl⟩
      all_goals
        go_wp2_with (first
          | (go_at_call 9; (with_reducible refine (tlive_w _).use ?_); rintro v w7 ⟨rfl, hu7⟩)
          | (with_reducible refine wp_serial (by kernel_rfl) (by kernel_rfl) (by (repeat (first | (with_reducible apply NoBad.then) | (with_reducible apply NoBad.inBlock) | (with_reducible apply NoBad.jump) | (with_reducible exact NoBad.rets))); done) ?_) | fail)
        all_goals go_returns
        all_goals exact ⟨rfl, (by (repeat (first | (with_reducible exact Upd.refl _ _) | (with_reducible assumption) | (with_reducible apply Upd.drew) | (with_reducible apply Upd.alloc) | (refine Upd0.tr ?_ (by with_reducible assumption)) | (refine Upd.setCell ?_ (fun h => absurd h (by first | exact Nat.lt_irrefl _ | (simp only []; omega))) _))); done)⟩
    obtain ⟨hltx, hlt100⟩ := hlt
    obtain ⟨x, hx⟩ : ∃ x, xs[k]? = some x := ⟨xs[k], by simp [hltx]⟩
    obtain ⟨g, o, rfl, hg, e0, e1, e2, hnm⟩ := hSh.out.some hx
    have d0 := hu.cell (fun h => h) e0
    have d1 := hu.cell (fun h => h) e1
    have d2 := hu.cell (fun h => h) e2
    have hgw : g < wr.heap.size := Nat.lt_of_lt_of_le hg hu.size
    have hbml := hQ.out.own.lt
    have hrbl := hR.out.lt
    clear hx e0 e1 e2
    obtain ⟨dO, nm, at_⟩ := x
    simp only [] at d0 d1 d2 hnm
    rcases Nat.lt_or_ge 1000 nm.length with hz | hz
    · go_wp2_with (first
        | (go_at_call 9; (with_reducible refine (tlive_w _).use ?_); rintro v w7 ⟨rfl, hu7⟩)
        | (with_reducible refine wp_serial (by kernel_rfl) (by kernel_rfl) (by (repeat (first | (with_reducible apply NoBad.then) | (with_reducible apply NoBad.inBlock) | (with_reducible apply NoBad.jump) | (with_reducible exact NoBad.rets))); done) ?_) | fail)
      all_goals go_returns
      all_goals exact ⟨rfl, (by (repeat (first | (with_reducible exact Upd.refl _ _) | (with_reducible assumption) | (with_reducible apply Upd.drew) | (with_reducible apply Upd.alloc) | (refine Upd0.tr ?_ (by with_reducible assumption)) | (refine Upd.setCell ?_ (fun h => absurd h (by first | exact Nat.lt_irrefl _ | (simp only []; omega))) _))); done)⟩
    have hcs : dO = 0 ∨ dO = 1 ∨ (¬ dO = 0 ∧ ¬ dO = 1) := by omega
    have n1 : ¬ bm = wr.heap.size := by omega
    have n2 : ¬ rb = wr.heap.size := by omega
    have n1' : ¬ wr.heap.size = bm := by omega
    have n2' : ¬ wr.heap.size = rb := by omega
    go_upto_block 2 with fail
    rw [show decide ((k : Int) < 100) = true from decide_eq_true (by omega)]
    go_cut [10, 11, 12, 13, 14] from 63 to 151 (fun ok _ _ _ _ wx => ok = .bool true ∧ ∃ L2 : List Tm, Upd0 w wx ∧ Hid (Qu wx t bm room L2) ∧ Hid (Rq wx rb room L2))
    case first =>
      rcases hcs with rfl | rfl | ⟨hd0, hd1⟩
      · obtain ⟨L2, hL2⟩ : ∃ L2, setT room L nm at_ = L2 := ⟨_, rfl⟩
        obtain ⟨cc, hcc⟩ : ∃ cc, setC room L nm at_ = cc := ⟨_, rfl⟩
        have PA := Lib.hid (fun (w1 : World) (h : Qu w1 t bm room L) => show Calls Try.prog 10 #[.pointer (some ⟨t, 0, none⟩), .string ⟨nm.toArray⟩, .int .i64 at_] w1 (Rets fun r w' => r = .int .i64 cc ∧ Upd (fun b => b = bm) w1 w' ∧ Qu w' t bm room L2) from by
          have := set_w t bm room L nm at_ hnm w1 h
          rwa [hL2, hcc] at this)
        have PR := Lib.hid (fun (w1 : World) (h : Rq w1 rb room L) => show Calls Try.prog 11 #[.pointer (some ⟨rb, 0, none⟩), .string ⟨nm.toArray⟩, .int .i64 at_] w1 (Rets fun r w' => r = .int .i64 cc ∧ Upd (fun b => b = rb) w1 w' ∧ Rq w' rb room L2) from by
          have := rset_w rb room L nm at_ hl1000 w1 h
          rwa [hL2, hcc] at this)
        clear hL2 hcc
        go_wp2_with (first
          | (go_at_call 10; (with_reducible refine (PA.out _ (hQ.out.up (by (repeat (first | (with_reducible exact Upd.refl _ _) | (with_reducible assumption) | (with_reducible apply Upd.drew) | (with_reducible apply Upd.alloc) | (refine Upd0.tr ?_ (by with_reducible assumption)) | (refine Upd.setCell ?_ (fun h => absurd h (by first | exact Nat.lt_irrefl _ | (simp only []; omega))) _))); done))).use ?_); rintro v w3 ⟨rfl, hu3, hq3⟩; have k3 := Lib.hid hq3; have b3 := Lib.hid (ob_keep (ob := wr.heap.size) (by first | exact alloc_last _ _ _ rfl | exact alloc_last_d _ _ _ rfl) hu3 n1'); obtain ⟨a0, a1, a2⟩ := tcell3 b3.out; have r3 := Lib.hid ((hR.out.up (by (repeat (first | (with_reducible exact Upd.refl _ _) | (with_reducible assumption) | (with_reducible apply Upd.drew) | (with_reducible apply Upd.alloc) | (refine Upd0.tr ?_ (by with_reducible assumption)) | (refine Upd.setCell ?_ (fun h => absurd h (by first | exact Nat.lt_irrefl _ | (simp only []; omega))) _))); done)).bm (hQ.out.up (by (repeat (first | (with_reducible exact Upd.refl _ _) | (with_reducible assumption) | (with_reducible apply Upd.drew) | (with_reducible apply Upd.alloc) | (refine Upd0.tr ?_ (by with_reducible assumption)) | (refine Upd.setCell ?_ (fun h => absurd h (by first | exact Nat.lt_irrefl _ | (simp only []; omega))) _))); done)) hu3); have U3 : Upd0 w w3 := UpdT.fin (by (repeat (first | (with_reducible exact Upd.refl _ _) | (with_reducible assumption) | (with_reducible apply Upd.drew) | (with_reducible apply Upd.alloc) | (refine Upd0.tr ?_ (by with_reducible assumption)) | (refine Upd.setCell ?_ (fun h => absurd h (by first | exact Nat.lt_irrefl _ | (simp only []; omega))) _))); done) hbl hu3; clear hq3)
          | (go_at_call 11; (with_reducible refine (PR.out _ r3.out).use ?_); rintro v w4 ⟨rfl, hu4, hr4⟩; have r4 := Lib.hid hr4; have k4 := Lib.hid (k3.out.rb r3.out hu4); have U4 : Upd0 w w4 := UpdT.fin U3 hrbw hu4; clear hr4)
          | (with_reducible refine S9.wp_serial22 5 8 5 10 [0,1,2,3,4,6,7,8,9,10,5,11,12,13] [0,1,2,3,4,6,7,8,5,9,10,11,12,13] [0,1,2,3,4,9,10,5,6,7,8,11,12,13] [0,1,2,3,4,5,6,7,8,9,10,11,12,13] [_, _, _, _, _, _, _, _, _, _, _, _, _, _] [_, _, _, _, _, _, _, _, _, _, _, _, _, _] [_, _, _, _, _, _, _, _, _, _, _, _, _, _] [_, _, _, _, _, _, _, _, _, _, _, _, _, _] (by kernel_rfl) (by decide +kernel) rfl rfl rfl rfl (by (repeat (first | (with_reducible apply NoBad.then) | (with_reducible apply NoBad.inBlock) | (with_reducible apply NoBad.jump) | (with_reducible exact NoBad.rets))); done) ?_ ?_ ?_ ?_)
          | (with_reducible refine wp_serial (by kernel_rfl) (by kernel_rfl) (by (repeat (first | (with_reducible apply NoBad.then) | (with_reducible apply NoBad.inBlock) | (with_reducible apply NoBad.jump) | (with_reducible exact NoBad.rets))); done) ?_) | fail)
        all_goals go_meet
        all_goals exact ⟨rfl, L2, (by (repeat (first | (with_reducible exact Upd.refl _ _) | (with_reducible assumption) | (with_reducible apply Upd.drew) | (with_reducible apply Upd.alloc) | (refine Upd0.tr ?_ (by with_reducible assumption)) | (refine Upd.setCell ?_ (fun h => absurd h (by first | exact Nat.lt_irrefl _ | (simp only []; omega))) _))); done), Lib.hid (k4.out.up (by (repeat (first | (with_reducible exact Upd.refl _ _) | (with_reducible assumption) | (with_reducible apply Upd.drew) | (with_reducible apply Upd.alloc) | (refine Upd0.tr ?_ (by with_reducible assumption)) | (refine Upd.setCell ?_ (fun h => absurd h (by first | exact Nat.lt_irrefl _ | (simp only []; omega))) _))); done)), Lib.hid (r4.out.up (by (repeat (first | (with_reducible exact Upd.refl _ _) | (with_reducible assumption) | (with_reducible apply Upd.drew) | (with_reducible apply Upd.alloc) | (refine Upd0.tr ?_ (by with_reducible assumption)) | (refine Upd.setCell ?_ (fun h => absurd h (by first | exact Nat.lt_irrefl _ | (simp only []; omega))) _))); done))⟩
      · obtain ⟨L2, hL2⟩ : ∃ L2, stopL L nm = L2 := ⟨_, rfl⟩
        obtain ⟨cc, hcc⟩ : ∃ cc, hasL L nm = cc := ⟨_, rfl⟩
        have PA := Lib.hid (fun (w1 : World) (h : Qu w1 t bm room L) => show Calls Try.prog 12 #[.pointer (some ⟨t, 0, none⟩), .string ⟨nm.toArray⟩] w1 (Rets fun r w' => r = .bool cc ∧ Upd (fun b => b = bm) w1 w' ∧ Qu w' t bm room L2) from by
          have := stop_w t bm room L nm hnm w1 h
          rwa [hL2, hcc] at this)
        have PR := Lib.hid (fun (w1 : World) (h : Rq w1 rb room L) => show Calls Try.prog 13 #[.pointer (some ⟨rb, 0, none⟩), .string ⟨nm.toArray⟩] w1 (Rets fun r w' => r = .bool cc ∧ Upd (fun b => b = rb) w1 w' ∧ Rq w' rb room L2) from by
          have := rstop_w rb room L nm hl1000 w1 h
          rwa [hL2, hcc] at this)
        clear hL2 hcc
        go_wp2_with (first
          | (go_at_call 12; (with_reducible refine (PA.out _ (hQ.out.up (by (repeat (first | (with_reducible exact Upd.refl _ _) | (with_reducible assumption) | (with_reducible apply Upd.drew) | (with_reducible apply Upd.alloc) | (refine Upd0.tr ?_ (by with_reducible assumption)) | (refine Upd.setCell ?_ (fun h => absurd h (by first | exact Nat.lt_irrefl _ | (simp only []; omega))) _))); done))).use ?_); rintro v w3 ⟨rfl, hu3, hq3⟩; have k3 := Lib.hid hq3; have b3 := Lib.hid (ob_keep (ob := wr.heap.size) (by first | exact alloc_last _ _ _ rfl | exact alloc_last_d _ _ _ rfl) hu3 n1'); obtain ⟨a0, a1, a2⟩ := tcell3 b3.out; have r3 := Lib.hid ((hR.out.up (by (repeat (first | (with_reducible exact Upd.refl _ _) | (with_reducible assumption) | (with_reducible apply Upd.drew) | (with_reducible apply Upd.alloc) | (refine Upd0.tr ?_ (by with_reducible assumption)) | (refine Upd.setCell ?_ (fun h => absurd h (by first | exact Nat.lt_irrefl _ | (simp only []; omega))) _))); done)).bm (hQ.out.up (by (repeat (first | (with_reducible exact Upd.refl _ _) | (with_reducible assumption) | (with_reducible apply Upd.drew) | (with_reducible apply Upd.alloc) | (refine Upd0.tr ?_ (by with_reducible assumption)) | (refine Upd.setCell ?_ (fun h => absurd h (by first | exact Nat.lt_irrefl _ | (simp only []; omega))) _))); done)) hu3); have U3 : Upd0 w w3 := UpdT.fin (by (repeat (first | (with_reducible exact Upd.refl _ _) | (with_reducible assumption) | (with_reducible apply Upd.drew) | (with_reducible apply Upd.alloc) | (refine Upd0.tr ?_ (by with_reducible assumption)) | (refine Upd.setCell ?_ (fun h => absurd h (by first | exact Nat.lt_irrefl _ | (simp only []; omega))) _))); done) hbl hu3; clear hq3)
          | (go_at_call 13; (with_reducible refine (PR.out _ r3.out).use ?_); rintro v w4 ⟨rfl, hu4, hr4⟩; have r4 := Lib.hid hr4; have k4 := Lib.hid (k3.out.rb r3.out hu4); have U4 : Upd0 w w4 := UpdT.fin U3 hrbw hu4; clear hr4)
          | (with_reducible refine wp_serial2 3 6 [0,1,2,4,5,6,3,7,8,9] [_, _, _, _, _, _, _, _, _, _] (by kernel_rfl) (by decide +kernel) rfl (by (repeat (first | (with_reducible apply NoBad.then) | (with_reducible apply NoBad.inBlock) | (with_reducible apply NoBad.jump) | (with_reducible exact NoBad.rets))); done) ?_ ?_)
          | (with_reducible refine wp_serial (by kernel_rfl) (by kernel_rfl) (by (repeat (first | (with_reducible apply NoBad.then) | (with_reducible apply NoBad.inBlock) | (with_reducible apply NoBad.jump) | (with_reducible exact NoBad.rets))); done) ?_) | fail)
        all_goals go_meet
        all_goals exact ⟨rfl, L2, (by (repeat (first | (with_reducible exact Upd.refl _ _) | (with_reducible assumption) | (with_reducible apply Upd.drew) | (with_reducible apply Upd.alloc) | (refine Upd0.tr ?_ (by with_reducible assumption)) | (refine Upd.setCell ?_ (fun h => absurd h (by first | exact Nat.lt_irrefl _ | (simp only []; omega))) _))); done), Lib.hid (k4.out.up (by (repeat (first | (with_reducible exact Upd.refl _ _) | (with_reducible assumption) | (with_reducible apply Upd.drew) | (with_reducible apply Upd.alloc) | (refine Upd0.tr ?_ (by with_reducible assumption)) | (refine Upd.setCell ?_ (fun h => absurd h (by first | exact Nat.lt_irrefl _ | (simp only []; omega))) _))); done)), Lib.hid (r4.out.up (by (repeat (first | (with_reducible exact Upd.refl _ _) | (with_reducible assumption) | (with_reducible apply Upd.drew) | (with_reducible apply Upd.alloc) | (refine Upd0.tr ?_ (by with_reducible assumption)) | (refine Upd.setCell ?_ (fun h => absurd h (by first | exact Nat.lt_irrefl _ | (simp only []; omega))) _))); done))⟩
      · obtain ⟨L2, hL2⟩ : ∃ L2, dueL L at_ = L2 := ⟨_, rfl⟩
        obtain ⟨N, hN⟩ : ∃ N, dueN L at_ = N := ⟨_, rfl⟩
        have hNl : N.length ≤ 1000000 := by
          rw [← hN, dueN_eq hQ.out.srt, List.length_map]
          have := List.length_filter_le (fun t => decide (t.a ≤ at_)) L
          omega
        have PA := Lib.hid (fun (w1 : World) (h : Qu w1 t bm room L) => show Calls Try.prog 14 #[.pointer (some ⟨t, 0, none⟩), .int .i64 at_] w1 (Rets fun r w' => ∃ ao cap, r = .slice ao N.length cap ∧ SR w' ao N ∧ Upd (fun b => b = bm) w1 w' ∧ Qu w' t bm room L2) from by
          have := due_w t bm room L at_ w1 h
          rwa [hL2, hN] at this)
        have PR := Lib.hid (fun (w1 : World) (h : Rq w1 rb room L) => show Calls Try.prog 16 #[.pointer (some ⟨rb, 0, none⟩), .int .i64 at_] w1 (Rets fun r w' => ∃ ao cap, r = .slice ao N.length cap ∧ SR w' ao N ∧ Upd (fun b => b = rb) w1 w' ∧ Rq w' rb room L2) from by
          have := rdue_w rb room L at_ hl1000 w1 h
          rwa [hL2, hN] at this)
        clear hL2 hN
        go_wp2_with (first
          | (go_at_call 14; (with_reducible refine (PA.out _ (hQ.out.up (by (repeat (first | (with_reducible exact Upd.refl _ _) | (with_reducible assumption) | (with_reducible apply Upd.drew) | (with_reducible apply Upd.alloc) | (refine Upd0.tr ?_ (by with_reducible assumption)) | (refine Upd.setCell ?_ (fun h => absurd h (by first | exact Nat.lt_irrefl _ | (simp only []; omega))) _))); done))).use ?_); rintro v w3 ⟨ao3, cap3, rfl, hs3, hu3, hq3⟩; have k3 := Lib.hid hq3; have s3 := Lib.hid hs3; have b3 := Lib.hid (ob_keep (ob := wr.heap.size) (by first | exact alloc_last _ _ _ rfl | exact alloc_last_d _ _ _ rfl) hu3 n1'); obtain ⟨a0, a1, a2⟩ := tcell3 b3.out; have r3 := Lib.hid ((hR.out.up (by (repeat (first | (with_reducible exact Upd.refl _ _) | (with_reducible assumption) | (with_reducible apply Upd.drew) | (with_reducible apply Upd.alloc) | (refine Upd0.tr ?_ (by with_reducible assumption)) | (refine Upd.setCell ?_ (fun h => absurd h (by first | exact Nat.lt_irrefl _ | (simp only []; omega))) _))); done)).bm (hQ.out.up (by (repeat (first | (with_reducible exact Upd.refl _ _) | (with_reducible assumption) | (with_reducible apply Upd.drew) | (with_reducible apply Upd.alloc) | (refine Upd0.tr ?_ (by with_reducible assumption)) | (refine Upd.setCell ?_ (fun h => absurd h (by first | exact Nat.lt_irrefl _ | (simp only []; omega))) _))); done)) hu3); have U3 : Upd0 w w3 := UpdT.fin (by (repeat (first | (with_reducible exact Upd.refl _ _) | (with_reducible assumption) | (with_reducible apply Upd.drew) | (with_reducible apply Upd.alloc) | (refine Upd0.tr ?_ (by with_reducible assumption)) | (refine Upd.setCell ?_ (fun h => absurd h (by first | exact Nat.lt_irrefl _ | (simp only []; omega))) _))); done) hbl hu3; clear hq3 hs3)
          | (go_at_call 16; (with_reducible refine (PR.out _ r3.out).use ?_); rintro v w4 ⟨ao4, cap4, rfl, hs4, hu4, hr4⟩; have r4 := Lib.hid hr4; have k4 := Lib.hid (k3.out.rb r3.out hu4); have s4 := Lib.hid hs4; have s43 := Lib.hid (sr_rb s3.out r3.out hu4); have U4 : Upd0 w w4 := UpdT.fin U3 hrbw hu4; clear hr4 hs4)
          | (go_at_call 15; (with_reducible refine (rtexts2_w ao3 ao4 cap3 cap4 N N _ s43.out s4.out hNl hNl).use ?_); rintro v w5 ⟨rfl, hu5⟩)
          | (with_reducible refine wp_serial (by kernel_rfl) (by kernel_rfl) (by (repeat (first | (with_reducible apply NoBad.then) | (with_reducible apply NoBad.inBlock) | (with_reducible apply NoBad.jump) | (with_reducible exact NoBad.rets))); done) ?_) | fail)
        all_goals go_meet
        all_goals exact ⟨by simp, L2, (by (repeat (first | (with_reducible exact Upd.refl _ _) | (with_reducible assumption) | (with_reducible apply Upd.drew) | (with_reducible apply Upd.alloc) | (refine Upd0.tr ?_ (by with_reducible assumption)) | (refine Upd.setCell ?_ (fun h => absurd h (by first | exact Nat.lt_irrefl _ | (simp only []; omega))) _))); done), Lib.hid (k4.out.up (by (repeat (first | (with_reducible exact Upd.refl _ _) | (with_reducible assumption) | (with_reducible apply Upd.drew) | (with_reducible apply Upd.alloc) | (refine Upd0.tr ?_ (by with_reducible assumption)) | (refine Upd.setCell ?_ (fun h => absurd h (by first | exact Nat.lt_irrefl _ | (simp only []; omega))) _))); done)), Lib.hid (r4.out.up (by (repeat (first | (with_reducible exact Upd.refl _ _) | (with_reducible assumption) | (with_reducible apply Upd.drew) | (with_reducible apply Upd.alloc) | (refine Upd0.tr ?_ (by with_reducible assumption)) | (refine Upd.setCell ?_ (fun h => absurd h (by first | exact Nat.lt_irrefl _ | (simp only []; omega))) _))); done))⟩
    case rest =>
      obtain ⟨rfl, L2, hux, hQx, hRx⟩ := hcut
      obtain ⟨ao5, cap5, c0, c1, f1, hcap, hr⟩ := hRx.out.cells
      have hrh := Lib.hid hr
      clear hr
      cases L2 with
      | nil =>
        simp only [List.length_nil] at c1
        go_wp2_with (first
          | (go_at_call 17; (with_reducible refine (next_w t bm room [] _ hQx.out).use ?_); rintro v w4 ⟨rfl, hu4⟩; simp only [nextV]; obtain ⟨p0, p1⟩ : w4.cell? ⟨rb, 0, none⟩ = some (.int .i64 room) ∧ w4.cell? ⟨rb, 1, none⟩ = some (.slice ao5 0 cap5) := ⟨hu4.cell (fun h => h) c0, hu4.cell (fun h => h) c1⟩; have k4 := Lib.hid (hQx.out.up hu4))
          | (go_at_call 18; (with_reducible refine (qlen_w t bm room [] _ (k4.out.up (by (repeat (first | (with_reducible exact Upd.refl _ _) | (with_reducible assumption) | (with_reducible apply Upd.drew) | (with_reducible apply Upd.alloc) | (refine Upd0.tr ?_ (by with_reducible assumption)) | (refine Upd.setCell ?_ (fun h => absurd h (by first | exact Nat.lt_irrefl _ | (simp only []; omega))) _))); done))).use ?_); rintro v w5 ⟨rfl, hu5⟩; have U45 : Upd0 w4 w5 := (by (repeat (first | (with_reducible exact Upd.refl _ _) | (with_reducible assumption) | (with_reducible apply Upd.drew) | (with_reducible apply Upd.alloc) | (refine Upd0.tr ?_ (by with_reducible assumption)) | (refine Upd.setCell ?_ (fun h => absurd h (by first | exact Nat.lt_irrefl _ | (simp only []; omega))) _))); done); obtain ⟨q0, q1⟩ : w5.cell? ⟨rb, 0, none⟩ = some (.int .i64 room) ∧ w5.cell? ⟨rb, 1, none⟩ = some (.slice ao5 0 cap5) := ⟨U45.cell (fun h => h) p0, U45.cell (fun h => h) p1⟩; have k5 := Lib.hid (k4.out.up U45); have r5 := Lib.hid ((hRx.out.up hu4).up U45))
          | (with_reducible refine wp_serial2 4 8 [0,1,2,3,5,6,7,8,4,9,10,11,12,13,14,15,16,17,18,19,20,21] [_, _, _, _, _, _, _, _, _, _, _, _, _, _, _, _, _, _, _, _, _, _] (by kernel_rfl) (by decide +kernel) rfl (by (repeat (first | (with_reducible apply NoBad.then) | (with_reducible apply NoBad.inBlock) | (with_reducible apply NoBad.jump) | (with_reducible exact NoBad.rets))); done) ?_ ?_)
          | (with_reducible refine wp_serial (by kernel_rfl) (by kernel_rfl) (by (repeat (first | (with_reducible apply NoBad.then) | (with_reducible apply NoBad.inBlock) | (with_reducible apply NoBad.jump) | (with_reducible exact NoBad.rets))); done) ?_) | fail)
        all_goals go_roundw
        all_goals first | exact ⟨k + 1, [], by omega, by omega, by go_num, (show Upd0 w _ from (hux.tr hu4).tr (by (repeat (first | (with_reducible exact Upd.refl _ _) | (with_reducible assumption) | (with_reducible apply Upd.drew) | (with_reducible apply Upd.alloc) | (refine Upd0.tr ?_ (by with_reducible assumption)) | (refine Upd.setCell ?_ (fun h => absurd h (by first | exact Nat.lt_irrefl _ | (simp only []; omega))) _))); done)), Lib.hid (k5.out.up (by (repeat (first | (with_reducible exact Upd.refl _ _) | (with_reducible assumption) | (with_reducible apply Upd.drew) | (with_reducible apply Upd.alloc) | (refine Upd0.tr ?_ (by with_reducible assumption)) | (refine Upd.setCell ?_ (fun h => absurd h (by first | exact Nat.lt_irrefl _ | (simp only []; omega))) _))); done)), Lib.hid (r5.out.up (by (repeat (first | (with_reducible exact Upd.refl _ _) | (with_reducible assumption) | (with_reducible apply Upd.drew) | (with_reducible apply Upd.alloc) | (refine Upd0.tr ?_ (by with_reducible assumption)) | (refine Upd.setCell ?_ (fun h => absurd h (by first | exact Nat.lt_irrefl _ | (simp only []; omega))) _))); done))⟩ | ((repeat apply Exists.intro); exact ⟨⟨k + 1, [], by omega, by omega, by go_num, (show Upd0 w _ from (hux.tr hu4).tr (by (repeat (first | (with_reducible exact Upd.refl _ _) | (with_reducible assumption) | (with_reducible apply Upd.drew) | (with_reducible apply Upd.alloc) | (refine Upd0.tr ?_ (by with_reducible assumption)) | (refine Upd.setCell ?_ (fun h => absurd h (by first | exact Nat.lt_irrefl _ | (simp only []; omega))) _))); done)), Lib.hid (k5.out.up (by (repeat (first | (with_reducible exact Upd.refl _ _) | (with_reducible assumption) | (with_reducible apply Upd.drew) | (with_reducible apply Upd.alloc) | (refine Upd0.tr ?_ (by with_reducible assumption)) | (refine Upd.setCell ?_ (fun h => absurd h (by first | exact Nat.lt_irrefl _ | (simp only []; omega))) _))); done)), Lib.hid (r5.out.up (by (repeat (first | (with_reducible exact Upd.refl _ _) | (with_reducible assumption) | (with_reducible apply Upd.drew) | (with_reducible apply Upd.alloc) | (refine Upd0.tr ?_ (by with_reducible assumption)) | (refine Upd.setCell ?_ (fun h => absurd h (by first | exact Nat.lt_irrefl _ | (simp only []; omega))) _))); done))⟩, rfl⟩) | (simp [intOf]; omega)
      | cons y L3 =>
        obtain ⟨yn, ya⟩ := y
        obtain ⟨g5, o5, rfl, hg5, e0, e1⟩ := hrh.out.at (i := 0) (x := ⟨yn, ya⟩) rfl
        simp only [Nat.zero_mul, Nat.add_zero] at e0 e1
        obtain ⟨m, hm⟩ : ∃ m, (Tm.mk yn ya :: L3).length = m + 1 := ⟨L3.length, rfl⟩
        rw [hm] at c1
        have hlen2 := Lib.hid (fun w' (h : Qu w' t bm room (⟨yn, ya⟩ :: L3)) => show Calls Try.prog 18 #[.pointer (some ⟨t, 0, none⟩)] w' (Rets fun r w'' => r = .int .i64 ((m : Int) + 1) ∧ Upd0 w' w'') from by
          have := qlen_w t bm room _ w' h
          rw [hm] at this
          simpa using this)
        clear hm
        go_wp2_with (first
          | (go_at_call 17; (with_reducible refine (nexthead_w t bm room yn ya L3 _ hQx.out).use ?_); rintro v w4 ⟨rfl, hu4⟩; obtain ⟨p0, p1⟩ : w4.cell? ⟨rb, 0, none⟩ = some (.int .i64 room) ∧ w4.cell? ⟨rb, 1, none⟩ = some (.slice (some ⟨g5, o5, none⟩) (m + 1) cap5) := ⟨hu4.cell (fun h => h) c0, hu4.cell (fun h => h) c1⟩; have k4 := Lib.hid (hQx.out.up hu4))
          | (go_at_call 18; (with_reducible refine (hlen2.out _ (k4.out.up (by (repeat (first | (with_reducible exact Upd.refl _ _) | (with_reducible assumption) | (with_reducible apply Upd.drew) | (with_reducible apply Upd.alloc) | (refine Upd0.tr ?_ (by with_reducible assumption)) | (refine Upd.setCell ?_ (fun h => absurd h (by first | exact Nat.lt_irrefl _ | (simp only []; omega))) _))); done))).use ?_); rintro v w5 ⟨rfl, hu5⟩; have U45 : Upd0 w4 w5 := (by (repeat (first | (with_reducible exact Upd.refl _ _) | (with_reducible assumption) | (with_reducible apply Upd.drew) | (with_reducible apply Upd.alloc) | (refine Upd0.tr ?_ (by with_reducible assumption)) | (refine Upd.setCell ?_ (fun h => absurd h (by first | exact Nat.lt_irrefl _ | (simp only []; omega))) _))); done); obtain ⟨q0, q1⟩ : w5.cell? ⟨rb, 0, none⟩ = some (.int .i64 room) ∧ w5.cell? ⟨rb, 1, none⟩ = some (.slice (some ⟨g5, o5, none⟩) (m + 1) cap5) := ⟨U45.cell (fun h => h) p0, U45.cell (fun h => h) p1⟩; have s0 := (hu4.tr U45).cell (fun h => h) e0; have s1 := (hu4.tr U45).cell (fun h => h) e1; have k5 := Lib.hid (k4.out.up U45); have r5 := Lib.hid ((hRx.out.up hu4).up U45))
          | (with_reducible refine wp_serial2 4 8 [0,1,2,3,5,6,7,8,4,9,10,11,12,13,14,15,16,17,18,19,20,21] [_, _, _, _, _, _, _, _, _, _, _, _, _, _, _, _, _, _, _, _, _, _] (by kernel_rfl) (by decide +kernel) rfl (by (repeat (first | (with_reducible apply NoBad.then) | (with_reducible apply NoBad.inBlock) | (with_reducible apply NoBad.jump) | (with_reducible exact NoBad.rets))); done) ?_ ?_)
          | (with_reducible refine wp_serial (by kernel_rfl) (by kernel_rfl) (by (repeat (first | (with_reducible apply NoBad.then) | (with_reducible apply NoBad.inBlock) | (with_reducible apply NoBad.jump) | (with_reducible exact NoBad.rets))); done) ?_) | fail)
        all_goals go_roundw
        all_goals first | exact ⟨k + 1, ⟨yn, ya⟩ :: L3, by omega, by omega, by go_num, (show Upd0 w _ from (hux.tr hu4).tr (by (repeat (first | (with_reducible exact Upd.refl _ _) | (with_reducible assumption) | (with_reducible apply Upd.drew) | (with_reducible apply Upd.alloc) | (refine Upd0.tr ?_ (by with_reducible assumption)) | (refine Upd.setCell ?_ (fun h => absurd h (by first | exact Nat.lt_irrefl _ | (simp only []; omega))) _))); done)), Lib.hid (k5.out.up (by (repeat (first | (with_reducible exact Upd.refl _ _) | (with_reducible assumption) | (with_reducible apply Upd.drew) | (with_reducible apply Upd.alloc) | (refine Upd0.tr ?_ (by with_reducible assumption)) | (refine Upd.setCell ?_ (fun h => absurd h (by first | exact Nat.lt_irrefl _ | (simp only []; omega))) _))); done)), Lib.hid (r5.out.up (by (repeat (first | (with_reducible exact Upd.refl _ _) | (with_reducible assumption) | (with_reducible apply Upd.drew) | (with_reducible apply Upd.alloc) | (refine Upd0.tr ?_ (by with_reducible assumption)) | (refine Upd.setCell ?_ (fun h => absurd h (by first | exact Nat.lt_irrefl _ | (simp only []; omega))) _))); done))⟩ | ((repeat apply Exists.intro); exact ⟨⟨k + 1, ⟨yn, ya⟩ :: L3, by omega, by omega, by go_num, (show Upd0 w _ from (hux.tr hu4).tr (by (repeat (first | (with_reducible exact Upd.refl _ _) | (with_reducible assumption) | (with_reducible apply Upd.drew) | (with_reducible apply Upd.alloc) | (refine Upd0.tr ?_ (by with_reducible assumption)) | (refine Upd.setCell ?_ (fun h => absurd h (by first | exact Nat.lt_irrefl _ | (simp only []; omega))) _))); done)), Lib.hid (k5.out.up (by (repeat (first | (with_reducible exact Upd.refl _ _) | (with_reducible assumption) | (with_reducible apply Upd.drew) | (with_reducible apply Upd.alloc) | (refine Upd0.tr ?_ (by with_reducible assumption)) | (refine Upd.setCell ?_ (fun h => absurd h (by first | exact Nat.lt_irrefl _ | (simp only []; omega))) _))); done)), Lib.hid (r5.out.up (by (repeat (first | (with_reducible exact Upd.refl _ _) | (with_reducible assumption) | (with_reducible apply Upd.drew) | (with_reducible apply Upd.alloc) | (refine Upd0.tr ?_ (by with_reducible assumption)) | (refine Upd.setCell ?_ (fun h => absurd h (by first | exact Nat.lt_irrefl _ | (simp only []; omega))) _))); done))⟩, rfl⟩) | (simp [intOf]; omega)
end Go.Proofs.Ytkkncnffkmopbaa
