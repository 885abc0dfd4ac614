/-
  The walk of CoalScripts: whatever is asked and done, a table answers what the document says.
-/
import Derived.Test.YtebnilkcpklnmaaCoOp
namespace Go.Proofs.Ytebnilkcpklnmaa
open Go.RowKit Go.Maps
set_option linter.unusedSimpArgs false
set_option linter.unusedVariables false
set_option maxRecDepth 100000 in
set_option maxHeartbeats 8000000 in
theorem coalScripts_walk (rm mo : Int) (ao : Option Addr) (cap : Nat) (xs : List OpC) (w : World) (hS : OpcR w ao xs) (hlen : xs.length ≤ maxLen) :
    Calls Try.prog 3 #[.int .i64 rm, .int .i64 mo, .slice ao xs.length cap] w (Rets fun r w' => r = .bool true ∧ Upd0 w w') := by
  have hSh := Lib.hid hS
  clear hS
  simp only [maxLen] at hlen
  by_cases hok : 1 ≤ rm ∧ rm ≤ 100 ∧ 1 ≤ mo ∧ mo ≤ 100
  case neg =>
    have hbad : rm < 1 ∨ (1 ≤ rm ∧ 100 < rm) ∨ (1 ≤ rm ∧ rm ≤ 100 ∧ mo < 1) ∨ (1 ≤ rm ∧ rm ≤ 100 ∧ 1 ≤ mo ∧ 100 < mo) := by omega
    have hno : (roomB rm && roomB mo) = false := by
      simp only [roomB, Bool.and_eq_false_iff, decide_eq_false_iff_not]; omega
    have hnoh := Lib.hid hno
    clear hok hno
    rcases hbad with hb | ⟨hb, hb1⟩ | ⟨hb, hb1, hb2⟩ | ⟨hb, hb1, hb2, hb3⟩
    all_goals
      go_enter Try.func3, Try.ntmps3
      go_wp2_with (first
        | (go_at_call 14; (with_reducible refine (new_no rm mo hnoh.out _).use ?_); rintro v w1 ⟨rfl, hu1⟩)
        | (go_at_call 15; (with_reducible refine (colive_w _).use ?_); rintro v w2 ⟨rfl, hu2⟩)
        | (with_reducible refine wp_serial (by kernel_rfl) (by kernel_rfl) (by (repeat (first | (with_reducible apply NoBad.then) | (with_reducible apply NoBad.inBlock) | (with_reducible exact NoBad.rets))); done) ?_) | fail)
      all_goals go_returns
      all_goals exact ⟨rfl, (by (repeat (first | (with_reducible exact Upd.refl _ _) | (with_reducible assumption) | (with_reducible apply Upd.drew) | (with_reducible apply Upd.alloc) | (refine Upd0.tr ?_ (by with_reducible assumption)) | (refine Upd.setCell ?_ (fun h => absurd h (by first | exact Nat.lt_irrefl _ | (simp only []; omega))) _))); done)⟩
  obtain ⟨hk1, hk2, hk3, hk4⟩ := hok
  have hra : roomB rm = true := by simp [roomB]; omega
  have hma : roomB mo = true := by simp [roomB]; omega
  go_enter Try.func3, Try.ntmps3
  go_wp2_with (first
    | (go_at_call 14; (with_reducible refine (new_w (B := w.heap.size) rm mo hra hma _ (Nat.le_refl _)).use ?_); rintro v w1 ⟨t, rfl, htl, hu1, hc1⟩; have k1 := Lib.hid hc1; have y1 := hu1.size; clear hc1)
    | (with_reducible refine wp_serial (by kernel_rfl) (by kernel_rfl) (by (repeat (first | (with_reducible apply NoBad.then) | (with_reducible apply NoBad.inBlock) | (with_reducible exact NoBad.rets))); done) ?_) | fail)
  go_loopw [10, 12, 13, 14, 15, 16, 17, 18, 19, 20, 21, 11] (fun j _ _ _ _ _ _ _ _ _ _ _ wr => ∃ (k : Nat) (S : Tb), k ≤ xs.length ∧ k ≤ 80 ∧ j = .int .i64 k ∧ S.last ≤ k ∧ Upd0 w wr ∧ Hid (Co w.heap.size wr t S) ∧ Hid (Ro w.heap.size wr w1.heap.size S)) (fun j _ _ _ _ _ _ _ _ _ _ _ _ => xs.length - (intOf j).toNat)
  case atStart => exact ⟨0, ⟨rm, mo, 0, []⟩, Nat.zero_le _, by omega, rfl, Nat.le_refl _, (by (repeat (first | (with_reducible exact Upd.refl _ _) | (with_reducible assumption) | (with_reducible apply Upd.drew) | (with_reducible apply Upd.alloc) | (refine Upd0.tr ?_ (by with_reducible assumption)) | (refine Upd.setCell ?_ (fun h => absurd h (by first | exact Nat.lt_irrefl _ | (simp only []; omega))) _))); done), Lib.hid (k1.out.to0 (by (repeat (first | (with_reducible exact Upd.refl _ _) | (with_reducible assumption) | (with_reducible apply Upd.drew) | (with_reducible apply Upd.alloc) | (refine Upd0.tr ?_ (by with_reducible assumption)) | (refine Upd.setCell ?_ (fun h => absurd h (by first | exact Nat.lt_irrefl _ | (simp only []; omega))) _))); done)), Lib.hid (ro_new w1 y1 hk1 hk2 hk3 hk4)⟩
  case round =>
    obtain ⟨k, S, hk, hk80, rfl, hSl, hu, hC, hR⟩ := hrel
    by_cases hlt : k < xs.length ∧ k < 80
    · obtain ⟨hltx, hlt80⟩ := hlt
      obtain ⟨x, hx⟩ : ∃ x, xs[k]? = some x := ⟨xs[k], by simp [hltx]⟩
      obtain ⟨g, o, rfl, hg, e0, e1, e2, e3, e4, e5, e6, hwf⟩ := hSh.out.some hx
      have d0 := hu.cell (fun h => h) e0
      have d1 := hu.cell (fun h => h) e1
      have d2 := hu.cell (fun h => h) e2
      have d3 := hu.cell (fun h => h) e3
      have d4 := hu.cell (fun h => h) e4
      have d5 := hu.cell (fun h => h) e5
      have d6 := hu.cell (fun h => h) e6
      have hgw : g < wr.heap.size := Nat.lt_of_lt_of_le hg hu.size
      clear hx e0 e1 e2 e3 e4 e5 e6
      obtain ⟨dO, q, ty, ⟨node, id, nm⟩, tk⟩ := x
      simp only [] at d0 d1 d2 d3 d4 d5 d6 hwf
      have hK := Lib.hid (hC.out.to0 (w' := wr.alloc (.cells #[.int .i64 dO, .string ⟨q.toArray⟩, .int .i64 ty, .int .i64 node, .int .i64 id, .string ⟨nm.toArray⟩, .int .i64 tk] 38 (0, 0))) (by (repeat (first | (with_reducible exact Upd.refl _ _) | (with_reducible assumption) | (with_reducible apply Upd.drew) | (with_reducible apply Upd.alloc) | (refine Upd0.tr ?_ (by with_reducible assumption)) | (refine Upd.setCell ?_ (fun h => absurd h (by first | exact Nat.lt_irrefl _ | (simp only []; omega))) _))); done))
      cases hs : (decide (q.length ≤ 300) && decide (nm.length ≤ 300)) with
      | false =>
        have hsh := Lib.hid hs
        clear hs
        go_wp2_with (first
          | (go_at_call 16; (with_reducible refine (coshort_e dO q ty node id nm tk _).use ?_); rintro v w2 ⟨rfl, hu2⟩; rw [hsh.out])
          | (go_at_call 15; (with_reducible refine (colive_w _).use ?_); rintro v w3 ⟨rfl, hu3⟩)
          | (with_reducible refine wp_serial (by kernel_rfl) (by kernel_rfl) (by (repeat (first | (with_reducible apply NoBad.then) | (with_reducible apply NoBad.inBlock) | (with_reducible exact NoBad.rets))); done) ?_) | fail)
        all_goals go_returns
        all_goals exact ⟨rfl, (by (repeat (first | (with_reducible exact Upd.refl _ _) | (with_reducible assumption) | (with_reducible apply Upd.drew) | (with_reducible apply Upd.alloc) | (refine Upd0.tr ?_ (by with_reducible assumption)) | (refine Upd.setCell ?_ (fun h => absurd h (by first | exact Nat.lt_irrefl _ | (simp only []; omega))) _))); done)⟩
      | true =>
        have hsh := Lib.hid hs
        simp only [Bool.and_eq_true, decide_eq_true_eq] at hs
        have hq7 : q.length ≤ 70000 := by omega
        have hnm : nm.length ≤ maxLen := by unfold maxLen; omega
        have hl6 : S.last ≤ 1000000 := by omega
        by_cases hd : dO = 0
        · subst hd
          have hld := ask_last S q ty ⟨node, id, nm⟩
          obtain ⟨A, hA⟩ : ∃ A, ask S q ty ⟨node, id, nm⟩ = A := ⟨_, rfl⟩
          rw [hA] at hld
          obtain ⟨⟨a, f, e⟩, S2⟩ := A
          have PA := Lib.hid (fun (w1 : World) (h : Co w.heap.size w1 t S) => show Calls Try.prog 17 #[.pointer (some ⟨t, 0, none⟩), .agg #[.string ⟨q.toArray⟩, .int .i64 ty], .agg #[.int .i64 node, .int .i64 id, .string ⟨nm.toArray⟩]] w1 (Rets fun r w' => r = .tuple #[.int .i64 a, .bool f, .int .i64 e] ∧ UpdP w.heap.size w1 w' ∧ Co w.heap.size w' t S2) from by
            have := ask_w t S q ty ⟨node, id, nm⟩ hq7 hnm w1 h hl6
            rw [hA] at this
            exact this)
          have PR := Lib.hid (fun (w2 : World) (h : Ro w.heap.size w2 w1.heap.size S) => show Calls Try.prog 19 #[.pointer (some ⟨w1.heap.size, 0, none⟩), .agg #[.string ⟨q.toArray⟩, .int .i64 ty], .agg #[.int .i64 node, .int .i64 id, .string ⟨nm.toArray⟩]] w2 (Rets fun r w' => r = .tuple #[.int .i64 a, .bool f, .int .i64 e] ∧ UpdR w.heap.size w2 w' ∧ Ro w.heap.size w' w1.heap.size S2) from by
            have := rask_w w1.heap.size S q ty ⟨node, id, nm⟩ hq7 hnm w2 h hl6
            rw [hA] at this
            exact this)
          have tkS := True.intro
          simp only [] at hld
          clear hA hs
          go_wp2_with (first
            | (go_at_call 16; (with_reducible refine (coshort_e 0 q ty node id nm tk _).use ?_); rintro v w2 ⟨rfl, hu2⟩; rw [hsh.out]; have b2 := Lib.hid (hu2.block (fun h => h) (alloc_last _ _ wr.heap.size rfl)); obtain ⟨a0, a1, a2, a3, a4, a5, a6⟩ := cell7 b2.out)
            | (have _t := tkS; clear tkS _t; (with_reducible refine wp_serial3_1 0 [] [0, 1, 2, 3, 4] 5 [6, 7, 8, 9, 10, 11, 12, 13] [_, _, _, _, _] _ [_, _, _, _, _, _, _, _] (by kernel_rfl) (by decide +kernel) rfl rfl rfl ⟨Nat.zero_le _, fun s hs => absurd hs List.not_mem_nil⟩ (by (repeat (first | (with_reducible apply NoBad.then) | (with_reducible apply NoBad.inBlock) | (with_reducible exact NoBad.rets))); done) ?_))
            | (go_at_call 18; (with_reducible refine (client_e node id nm _).use ?_); rintro v w3 ⟨rfl, hu3⟩; have b3 := Lib.hid (hu3.block (fun h => h) b2.out))
            | (refine And.intro hu3.ext ?_)
            | (go_at_call 17; refine (PA.out _ (hC.out.to0 (by (repeat (first | (with_reducible exact Upd.refl _ _) | (with_reducible assumption) | (with_reducible apply Upd.drew) | (with_reducible apply Upd.alloc) | (refine Upd0.tr ?_ (by with_reducible assumption)) | (refine Upd.setCell ?_ (fun h => absurd h (by first | exact Nat.lt_irrefl _ | (simp only []; omega))) _))); done))).use ?_; rintro v w4 ⟨rfl, hu4, hc4⟩; have k4 := Lib.hid hc4; have b4 := Lib.hid (hu4.other b3.out rfl); obtain ⟨c0, c1, c2, c3, c4, c5, c6⟩ := cell7 b4.out; clear hc4)
            | (go_at_call 19; refine (PR.out _ ((hR.out.to0 (show Upd0 wr w3 from (by (repeat (first | (with_reducible exact Upd.refl _ _) | (with_reducible assumption) | (with_reducible apply Upd.drew) | (with_reducible apply Upd.alloc) | (refine Upd0.tr ?_ (by with_reducible assumption)) | (refine Upd.setCell ?_ (fun h => absurd h (by first | exact Nat.lt_irrefl _ | (simp only []; omega))) _))); done))).toP hu4)).use ?_; rintro v w5 ⟨rfl, hu5, hr5⟩; have r5 := Lib.hid hr5; have k5 := Lib.hid (k4.out.toR hu5); have b5 := Lib.hid (hu5.other b4.out rfl); obtain ⟨ao5, cap5, hl5⟩ := r5.out.len; clear hr5)
            | (with_reducible refine wp_serial3_2 0 [] [0, 2, 3, 4, 5, 6] 1 [7, 8, 9, 10, 11, 13, 14, 15] 12 [16, 17, 18] [_, _, _, _, _, _] _ [_, _, _, _, _, _, _, _] _ [_, _, _] (by kernel_rfl) (by decide +kernel) rfl rfl rfl rfl rfl ⟨Nat.zero_le _, fun s hs => absurd hs List.not_mem_nil⟩ (by (repeat (first | (with_reducible apply NoBad.then) | (with_reducible apply NoBad.inBlock) | (with_reducible exact NoBad.rets))); done) ?_)
            | (go_at_call 23; refine (len_w t S2 _ (k5.out.to0 (by (repeat (first | (with_reducible exact Upd.refl _ _) | (with_reducible assumption) | (with_reducible apply Upd.drew) | (with_reducible apply Upd.alloc) | (refine Upd0.tr ?_ (by with_reducible assumption)) | (refine Upd.setCell ?_ (fun h => absurd h (by first | exact Nat.lt_irrefl _ | (simp only []; omega))) _))); done))).use ?_; rintro v w6 ⟨rfl, hu6⟩; have hv6 : Upd0 w5 w6 := (by (repeat (first | (with_reducible exact Upd.refl _ _) | (with_reducible assumption) | (with_reducible apply Upd.drew) | (with_reducible apply Upd.alloc) | (refine Upd0.tr ?_ (by with_reducible assumption)) | (refine Upd.setCell ?_ (fun h => absurd h (by first | exact Nat.lt_irrefl _ | (simp only []; omega))) _))); done); have k6 := Lib.hid (k5.out.to0 hv6); have r6 := Lib.hid (r5.out.to0 hv6); obtain ⟨f0, f1, f2, f3, f4, f5, f6⟩ := cell7 (hv6.block (fun h => h) b5.out); clear hv6; have tk6 := True.intro)
            | (have _t := tk6; refine And.intro hu6.ext ?_; clear tk6 _t)
            | (go_at_call 24; (with_reducible refine (waits_w t S2 tk hwf _ k6.out).use ?_); rintro v w7 ⟨rfl, hu7⟩; have k7 := Lib.hid (k6.out.to0 hu7); have r7 := Lib.hid (r6.out.to0 hu7); have tk7 := True.intro)
            | (have _t := tk7; refine And.intro hu7.ext ?_; clear tk7 _t)
            | (go_at_call 25; (with_reducible refine (rwaits_w w1.heap.size S2 tk _ r7.out).use ?_); rintro v w8 ⟨rfl, hu8⟩; have k8 := Lib.hid (k7.out.to0 hu8); have r8 := Lib.hid (r7.out.to0 hu8))
            | (with_reducible refine wp_serial (by kernel_rfl) (by kernel_rfl) (by (repeat (first | (with_reducible apply NoBad.then) | (with_reducible apply NoBad.inBlock) | (with_reducible exact NoBad.rets))); done) ?_) | fail)
          go_roundw
          case rel => exact ⟨k + 1, S2, by omega, by omega, by go_num, by omega, (by (repeat (first | (with_reducible exact Upd.refl _ _) | (with_reducible assumption) | (with_reducible apply Upd.drew) | (with_reducible apply Upd.alloc) | (refine Upd0.tr ?_ (by with_reducible assumption)) | (refine UpdP.fin ?_ (by with_reducible assumption)) | (refine UpdR.fin ?_ (by with_reducible assumption)) | (refine Upd.setCell ?_ (fun h => absurd h (by first | exact Nat.lt_irrefl _ | (simp only []; omega))) _))); done), k8, r8⟩
          case measure => simp [intOf]; omega
        · obtain ⟨S2, hS2⟩ : ∃ S2, doneT S tk = S2 := ⟨_, rfl⟩
          obtain ⟨db, hdb⟩ : ∃ db, doneB S tk = db := ⟨_, rfl⟩
          obtain ⟨dc, hdc⟩ : ∃ dc, doneC S tk = dc := ⟨_, rfl⟩
          have hld : S2.last ≤ S.last + 1 := by rw [← hS2]; simp [doneT]
          have hdcl : dc.length ≤ 100000 := by
            have h100 : ∀ kk ∈ S.L, kk.cs.length ≤ 100 := fun kk hkk => by have := hC.out.1.cs kk hkk; have := hC.out.1.m2; omega
            rw [← hdc, doneC]
            cases hf : S.L.find? (isK tk) with
            | none => simp
            | some kk => have := h100 kk (List.mem_of_find?_eq_some hf); simp only []; omega
          have PA := Lib.hid (fun (w1 : World) (h : Co w.heap.size w1 t S) => show Calls Try.prog 20 #[.pointer (some ⟨t, 0, none⟩), .int .i64 tk] w1 (Rets fun r w' => ∃ v, r = .tuple #[v, .bool db] ∧ w'.ownsRow 0 42 3 v dc.length (cls dc) ∧ UpdP w.heap.size w1 w' ∧ Co w.heap.size w' t S2) from by
            have := done_w t S tk hwf w1 h
            rw [hS2, hdb, hdc] at this
            exact this)
          have PR := Lib.hid (fun (w2 : World) (h : Ro w.heap.size w2 w1.heap.size S) => show Calls Try.prog 21 #[.pointer (some ⟨w1.heap.size, 0, none⟩), .int .i64 tk] w2 (Rets fun r w' => ∃ v, r = .tuple #[v, .bool db] ∧ w'.ownsRow 0 36 3 v dc.length (cls dc) ∧ UpdR w.heap.size w2 w' ∧ Ro w.heap.size w' w1.heap.size S2) from by
            have := rdone_w w1.heap.size S tk w2 h
            rw [hS2, hdb, hdc] at this
            exact this)
          clear hS2 hdb hdc hs
          go_wp2_with (first
            | (go_at_call 16; (with_reducible refine (coshort_e dO q ty node id nm tk _).use ?_); rintro v w2 ⟨rfl, hu2⟩; rw [hsh.out]; have b2 := Lib.hid (hu2.block (fun h => h) (alloc_last _ _ wr.heap.size rfl)); obtain ⟨a0, a1, a2, a3, a4, a5, a6⟩ := cell7 b2.out)
            | (go_at_call 20; refine (PA.out _ (hC.out.to0 (by (repeat (first | (with_reducible exact Upd.refl _ _) | (with_reducible assumption) | (with_reducible apply Upd.drew) | (with_reducible apply Upd.alloc) | (refine Upd0.tr ?_ (by with_reducible assumption)) | (refine Upd.setCell ?_ (fun h => absurd h (by first | exact Nat.lt_irrefl _ | (simp only []; omega))) _))); done))).use ?_; rintro v w3 ⟨va, rfl, hr3, hu3, hc3⟩; have k3 := Lib.hid hc3; have rw3 := Lib.hid hr3; have b3 := Lib.hid (hu3.other b2.out rfl); obtain ⟨c0, c1, c2, c3, c4, c5, c6⟩ := cell7 b3.out; clear hc3 hr3)
            | (go_at_call 21; refine (PR.out _ ((hR.out.to0 (show Upd0 wr w2 from (by (repeat (first | (with_reducible exact Upd.refl _ _) | (with_reducible assumption) | (with_reducible apply Upd.drew) | (with_reducible apply Upd.alloc) | (refine Upd0.tr ?_ (by with_reducible assumption)) | (refine Upd.setCell ?_ (fun h => absurd h (by first | exact Nat.lt_irrefl _ | (simp only []; omega))) _))); done))).toP hu3)).use ?_; rintro v w4 ⟨vb, rfl, hr4, hu4, hc4⟩; have r4 := Lib.hid hc4; have k4 := Lib.hid (k3.out.toR hu4); have rw4 := Lib.hid hr4; have b4 := Lib.hid (hu4.other b3.out rfl); clear hc4 hr4)
            | (go_at_call 22; refine (same_w va vb dc hdcl _ (hu4.rowP rw3.out) rw4.out).use ?_; rintro v w5 ⟨rfl, hu5⟩; have k5 := Lib.hid (k4.out.to0 hu5); have r5 := Lib.hid (r4.out.to0 hu5); have b5 := Lib.hid (hu5.block (fun h => h) b4.out); obtain ⟨ao5, cap5, hl5⟩ := r5.out.len)
            | (with_reducible refine wp_serial3_2 0 [] [0, 2, 3, 4, 5, 6] 1 [7, 8, 9, 10, 11, 13, 14, 15] 12 [16, 17, 18] [_, _, _, _, _, _] _ [_, _, _, _, _, _, _, _] _ [_, _, _] (by kernel_rfl) (by decide +kernel) rfl rfl rfl rfl rfl ⟨Nat.zero_le _, fun s hs => absurd hs List.not_mem_nil⟩ (by (repeat (first | (with_reducible apply NoBad.then) | (with_reducible apply NoBad.inBlock) | (with_reducible exact NoBad.rets))); done) ?_)
            | (go_at_call 23; refine (len_w t S2 _ (k5.out.to0 (by (repeat (first | (with_reducible exact Upd.refl _ _) | (with_reducible assumption) | (with_reducible apply Upd.drew) | (with_reducible apply Upd.alloc) | (refine Upd0.tr ?_ (by with_reducible assumption)) | (refine Upd.setCell ?_ (fun h => absurd h (by first | exact Nat.lt_irrefl _ | (simp only []; omega))) _))); done))).use ?_; rintro v w6 ⟨rfl, hu6⟩; have hv6 : Upd0 w5 w6 := (by (repeat (first | (with_reducible exact Upd.refl _ _) | (with_reducible assumption) | (with_reducible apply Upd.drew) | (with_reducible apply Upd.alloc) | (refine Upd0.tr ?_ (by with_reducible assumption)) | (refine Upd.setCell ?_ (fun h => absurd h (by first | exact Nat.lt_irrefl _ | (simp only []; omega))) _))); done); have k6 := Lib.hid (k5.out.to0 hv6); have r6 := Lib.hid (r5.out.to0 hv6); obtain ⟨f0, f1, f2, f3, f4, f5, f6⟩ := cell7 (hv6.block (fun h => h) b5.out); clear hv6; have tk6 := True.intro)
            | (have _t := tk6; refine And.intro hu6.ext ?_; clear tk6 _t)
            | (go_at_call 24; (with_reducible refine (waits_w t S2 tk hwf _ k6.out).use ?_); rintro v w7 ⟨rfl, hu7⟩; have k7 := Lib.hid (k6.out.to0 hu7); have r7 := Lib.hid (r6.out.to0 hu7); have tk7 := True.intro)
            | (have _t := tk7; refine And.intro hu7.ext ?_; clear tk7 _t)
            | (go_at_call 25; (with_reducible refine (rwaits_w w1.heap.size S2 tk _ r7.out).use ?_); rintro v w8 ⟨rfl, hu8⟩; have k8 := Lib.hid (k7.out.to0 hu8); have r8 := Lib.hid (r7.out.to0 hu8))
            | (with_reducible refine wp_serial (by kernel_rfl) (by kernel_rfl) (by (repeat (first | (with_reducible apply NoBad.then) | (with_reducible apply NoBad.inBlock) | (with_reducible exact NoBad.rets))); done) ?_) | fail)
          go_roundw
          case rel => exact ⟨k + 1, S2, by omega, by omega, by go_num, by omega, (by (repeat (first | (with_reducible exact Upd.refl _ _) | (with_reducible assumption) | (with_reducible apply Upd.drew) | (with_reducible apply Upd.alloc) | (refine Upd0.tr ?_ (by with_reducible assumption)) | (refine UpdP.fin ?_ (by with_reducible assumption)) | (refine UpdR.fin ?_ (by with_reducible assumption)) | (refine Upd.setCell ?_ (fun h => absurd h (by first | exact Nat.lt_irrefl _ | (simp only []; omega))) _))); done), k8, r8⟩
          case measure => simp [intOf]; omega
    · go_wp2_with (first
        | (go_at_call 15; (with_reducible refine (colive_w _).use ?_); rintro v w3 ⟨rfl, hu3⟩)
        | (with_reducible refine wp_serial (by kernel_rfl) (by kernel_rfl) (by (repeat (first | (with_reducible apply NoBad.then) | (with_reducible apply NoBad.inBlock) | (with_reducible exact NoBad.rets))); done) ?_) | fail)
      all_goals go_returns
      all_goals exact ⟨rfl, (by (repeat (first | (with_reducible exact Upd.refl _ _) | (with_reducible assumption) | (with_reducible apply Upd.drew) | (with_reducible apply Upd.alloc) | (refine Upd0.tr ?_ (by with_reducible assumption)) | (refine Upd.setCell ?_ (fun h => absurd h (by first | exact Nat.lt_irrefl _ | (simp only []; omega))) _))); done)⟩
end Go.Proofs.Ytebnilkcpklnmaa
