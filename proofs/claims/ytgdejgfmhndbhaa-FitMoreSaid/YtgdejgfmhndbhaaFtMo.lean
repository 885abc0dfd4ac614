/-
  FitMore: the walk.
-/
import Derived.Test.YtgdejgfmhndbhaaFtR
import Derived.Test.YtgdejgfmhndbhaaFtZ
import Derived.Test.YtgdejgfmhndbhaaMsE
namespace Go.Proofs.Ytgdejgfmhndbhaa
open Go.RowKit
set_option linter.unusedSimpArgs false
set_option linter.unusedVariables false
theorem fitC_lim {m : Msg} {l : Int} (h : fitC m l = 0) : 1 ≤ l ∧ l ≤ 65535 := by
  unfold fitC at h
  cases hO : fitO m l with
  | false => rw [hO] at h; cases h
  | true => simp only [fitO, Bool.and_eq_true, decide_eq_true_eq] at hO; exact hO.2
set_option maxRecDepth 100000 in
set_option maxHeartbeats 8000000 in
theorem fitMore_walk (m : Msg) (q a n x : Option Addr) (cq ca cn cx : Nat) (limit more : Int) (w : World) (h : MsR w m q a n x) (hb : m.big) :
    Calls Try.prog 12 #[m.val q a n x cq ca cn cx, .int .i64 limit, .int .i64 more] w (Rets fun r w' => r = .bool true ∧ Upd0 w w') := by
  have hF := Lib.hid (fun (w' : World) (u : Upd0 w w') => few_w m q a n x cq ca cn cx w' (h.up u) hb)
  cases hf : fewB m with
  | false =>
    rw [hf] at hF
    clear hf h hb
    obtain ⟨id, re, op, au, tr, wa, av, rc, qs, an, ns, ex, sz⟩ := m
    simp only [Msg.val] at hF ⊢
    go_enter Try.func12, Try.ntmps12
    go_wp2_with (first
      | (go_at_call 15; (with_reducible refine (hF.out _ (by (repeat (first | (with_reducible exact Upd.refl _ _) | (with_reducible assumption) | (with_reducible apply Upd.drew) | (with_reducible apply Upd.alloc) | (refine Upd0.tr ?_ (by with_reducible assumption)) | (refine Upd.setCell ?_ (fun h => absurd h (by first | exact Nat.lt_irrefl _ | (simp only []; omega))) _))); done)).use ?_); rintro v w1 ⟨rfl, hu1⟩; have L1 := Lib.hid (show w1.heap[w.heap.size]? = some (.cells #[.int .i64 id, .bool re, .int .i64 op, .bool au, .bool tr, .bool wa, .bool av, .int .i64 rc, .slice q qs.length cq, .slice a an.length ca, .slice n ns.length cn, .slice x ex.length cx, .int .i64 sz] 25 (0, 0)) from hu1.block (fun h => h) (alloc_last _ _ _ rfl)); obtain ⟨m10, m11, m12, m13, m14, m15, m16, m17, m18, m19, m1A, m1B, m1C⟩ := cell13w L1.out; have hl1 := blk_lt L1.out)
      | (go_at_call 28; (with_reducible refine (flive_w _).use ?_); rintro v wL ⟨rfl, huL⟩)
      | (with_reducible refine wp_serial (by kernel_rfl) (by kernel_rfl) (by (repeat (first | (with_reducible apply NoBad.then) | (with_reducible apply NoBad.inBlock) | (with_reducible apply NoBad.jump) | (with_reducible exact NoBad.rets))); done) ?_) | fail)
    all_goals go_returns
    all_goals exact ⟨rfl, (by (repeat (first | (with_reducible exact Upd.refl _ _) | (with_reducible assumption) | (with_reducible apply Upd.drew) | (with_reducible apply Upd.alloc) | (refine Upd0.tr ?_ (by with_reducible assumption)) | (refine Upd.setCell ?_ (fun h => absurd h (by first | exact Nat.lt_irrefl _ | (simp only []; omega))) _))); done)⟩
  | true =>
    rw [hf] at hF
    have hmid := few_mid hf
    have hT := Lib.hid (fun (w' : World) (u : Upd0 w w') => fit_w m limit q a n x cq ca cn cx w' (h.up u) hmid)
    have hT2 := Lib.hid (fun (w' : World) (u : Upd0 w w') => fit_w m (min (limit + more) 65535) q a n x cq ca cn cx w' (h.up u) hmid)
    have hways : more < 0 ∨ (¬ more < 0 ∧ 65535 < more) ∨ (¬ more < 0 ∧ ¬ 65535 < more) := by omega
    clear hf h hb hmid
    rcases hways with l1 | ⟨l1, l2⟩ | ⟨l1, l2⟩
    case inr.inr =>
      by_cases hc : fitC m limit = 0
      · obtain ⟨b1, b2⟩ := fitC_lim hc
        obtain ⟨e1, e2, e3, e4⟩ := fit_more (l' := min (limit + more) 65535) hc (by omega) (by omega)
        rw [hc] at hT
        rw [e1] at hT2
        obtain ⟨M, hM⟩ : ∃ M, fitM m limit = M := ⟨_, rfl⟩
        obtain ⟨M2, hM2⟩ : ∃ M, fitM m (min (limit + more) 65535) = M := ⟨_, rfl⟩
        obtain ⟨T, hT'⟩ : ∃ T, fitS m limit = T := ⟨_, rfl⟩
        obtain ⟨T2, hT2'⟩ : ∃ T, fitS m (min (limit + more) 65535) = T := ⟨_, rfl⟩
        rw [hM, hT'] at hT
        rw [hM2, hT2'] at hT2
        rw [hM, hM2] at e3 e4
        rw [hT', hT2'] at e2
        clear hc hM hM2 hT' hT2' e1
        obtain ⟨id, re, op, au, tr, wa, av, rc, qs, an, ns, ex, sz⟩ := m
        obtain ⟨id2, re2, op2, au2, tr2, wa2, av2, rc2, qs2, an2, ns2, ex2, sz2⟩ := M
        obtain ⟨id3, re3, op3, au3, tr3, wa3, av3, rc3, qs3, an3, ns3, ex3, sz3⟩ := M2
        simp only [Msg.val] at hF hT hT2 e3 e4 ⊢
        have m0 : 0 ≤ more := by omega
        have m1 : more ≤ 65535 := by omega
        have tk1 : True := trivial
        by_cases hle : limit + more ≤ 65535
        · have e0 : min (limit + more) 65535 = limit + more := by omega
          rw [e0] at hT2
          have hnl : ¬ 65535 < limit + more := by omega
          clear e0
          go_enter Try.func12, Try.ntmps12
          go_wp2_with (first
            | (go_at_call 15; (with_reducible refine (hF.out _ (by (repeat (first | (with_reducible exact Upd.refl _ _) | (with_reducible assumption) | (with_reducible apply Upd.drew) | (with_reducible apply Upd.alloc) | (refine Upd0.tr ?_ (by with_reducible assumption)) | (refine Upd.setCell ?_ (fun h => absurd h (by first | exact Nat.lt_irrefl _ | (simp only []; omega))) _))); done)).use ?_); rintro v w1 ⟨rfl, hu1⟩; have L1 := Lib.hid (show w1.heap[w.heap.size]? = some (.cells #[.int .i64 id, .bool re, .int .i64 op, .bool au, .bool tr, .bool wa, .bool av, .int .i64 rc, .slice q qs.length cq, .slice a an.length ca, .slice n ns.length cn, .slice x ex.length cx, .int .i64 sz] 25 (0, 0)) from hu1.block (fun h => h) (alloc_last _ _ _ rfl)); obtain ⟨m10, m11, m12, m13, m14, m15, m16, m17, m18, m19, m1A, m1B, m1C⟩ := cell13w L1.out; have hl1 := blk_lt L1.out)
            | (go_at_call 29; have _t := tk1; clear tk1 _t; (with_reducible refine (hT.out _ (by (repeat (first | (with_reducible exact Upd.refl _ _) | (with_reducible assumption) | (with_reducible apply Upd.drew) | (with_reducible apply Upd.alloc) | (refine Upd0.tr ?_ (by with_reducible assumption)) | (refine Upd.setCell ?_ (fun h => absurd h (by first | exact Nat.lt_irrefl _ | (simp only []; omega))) _))); done)).use ?_); rintro v w2 ⟨q3, a3, n3, x3, cq3, ca3, cn3, cx3, rfl, hr3, hu2⟩; clear hr3; have L2 := Lib.hid (show w2.heap[w.heap.size]? = some (.cells #[.int .i64 id, .bool re, .int .i64 op, .bool au, .bool tr, .bool wa, .bool av, .int .i64 rc, .slice q qs.length cq, .slice a an.length ca, .slice n ns.length cn, .slice x ex.length cx, .int .i64 sz] 25 (0, 0)) from (show Upd0 w1 w2 from (by (repeat (first | (with_reducible exact Upd.refl _ _) | (with_reducible assumption) | (with_reducible apply Upd.drew) | (with_reducible apply Upd.alloc) | (refine Upd0.tr ?_ (by with_reducible assumption)) | (refine Upd.setCell ?_ (fun h => absurd h (by first | exact Nat.lt_irrefl _ | (simp only []; omega))) _))); done)).block (fun h => h) L1.out); obtain ⟨m20, m21, m22, m23, m24, m25, m26, m27, m28, m29, m2A, m2B, m2C⟩ := cell13w L2.out; have hl2 := blk_lt L2.out)
            | (go_at_call 29; (with_reducible refine (hT2.out _ (by (repeat (first | (with_reducible exact Upd.refl _ _) | (with_reducible assumption) | (with_reducible apply Upd.drew) | (with_reducible apply Upd.alloc) | (refine Upd0.tr ?_ (by with_reducible assumption)) | (refine Upd.setCell ?_ (fun h => absurd h (by first | exact Nat.lt_irrefl _ | (simp only []; omega))) _))); done)).use ?_); rintro v w3 ⟨q4, a4, n4, x4, cq4, ca4, cn4, cx4, rfl, hr4, hu3⟩; clear hr4; have A3 := Lib.hid (hu3.block (fun h => h) (alloc_last _ _ w2.heap.size rfl)); obtain ⟨a30, a31, a32, a33, a34, a35, a36, a37, a38, a39, a3A, a3B, a3C⟩ := cell13w A3.out; have hlA := blk_lt A3.out)
            | (go_at_call 28; (with_reducible refine (flive_w _).use ?_); rintro v wL ⟨rfl, huL⟩)
            | (with_reducible refine wp_serial (by kernel_rfl) (by kernel_rfl) (by (repeat (first | (with_reducible apply NoBad.then) | (with_reducible apply NoBad.inBlock) | (with_reducible apply NoBad.jump) | (with_reducible exact NoBad.rets))); done) ?_) | fail)
          all_goals go_returns
          all_goals exact ⟨rfl, (by (repeat (first | (with_reducible exact Upd.refl _ _) | (with_reducible assumption) | (with_reducible apply Upd.drew) | (with_reducible apply Upd.alloc) | (refine Upd0.tr ?_ (by with_reducible assumption)) | (refine Upd.setCell ?_ (fun h => absurd h (by first | exact Nat.lt_irrefl _ | (simp only []; omega))) _))); done)⟩
        · have e0 : min (limit + more) 65535 = 65535 := by omega
          rw [e0] at hT2
          have hnl : 65535 < limit + more := by omega
          clear e0
          go_enter Try.func12, Try.ntmps12
          go_wp2_with (first
            | (go_at_call 15; (with_reducible refine (hF.out _ (by (repeat (first | (with_reducible exact Upd.refl _ _) | (with_reducible assumption) | (with_reducible apply Upd.drew) | (with_reducible apply Upd.alloc) | (refine Upd0.tr ?_ (by with_reducible assumption)) | (refine Upd.setCell ?_ (fun h => absurd h (by first | exact Nat.lt_irrefl _ | (simp only []; omega))) _))); done)).use ?_); rintro v w1 ⟨rfl, hu1⟩; have L1 := Lib.hid (show w1.heap[w.heap.size]? = some (.cells #[.int .i64 id, .bool re, .int .i64 op, .bool au, .bool tr, .bool wa, .bool av, .int .i64 rc, .slice q qs.length cq, .slice a an.length ca, .slice n ns.length cn, .slice x ex.length cx, .int .i64 sz] 25 (0, 0)) from hu1.block (fun h => h) (alloc_last _ _ _ rfl)); obtain ⟨m10, m11, m12, m13, m14, m15, m16, m17, m18, m19, m1A, m1B, m1C⟩ := cell13w L1.out; have hl1 := blk_lt L1.out)
            | (go_at_call 29; have _t := tk1; clear tk1 _t; (with_reducible refine (hT.out _ (by (repeat (first | (with_reducible exact Upd.refl _ _) | (with_reducible assumption) | (with_reducible apply Upd.drew) | (with_reducible apply Upd.alloc) | (refine Upd0.tr ?_ (by with_reducible assumption)) | (refine Upd.setCell ?_ (fun h => absurd h (by first | exact Nat.lt_irrefl _ | (simp only []; omega))) _))); done)).use ?_); rintro v w2 ⟨q3, a3, n3, x3, cq3, ca3, cn3, cx3, rfl, hr3, hu2⟩; clear hr3; have L2 := Lib.hid (show w2.heap[w.heap.size]? = some (.cells #[.int .i64 id, .bool re, .int .i64 op, .bool au, .bool tr, .bool wa, .bool av, .int .i64 rc, .slice q qs.length cq, .slice a an.length ca, .slice n ns.length cn, .slice x ex.length cx, .int .i64 sz] 25 (0, 0)) from (show Upd0 w1 w2 from (by (repeat (first | (with_reducible exact Upd.refl _ _) | (with_reducible assumption) | (with_reducible apply Upd.drew) | (with_reducible apply Upd.alloc) | (refine Upd0.tr ?_ (by with_reducible assumption)) | (refine Upd.setCell ?_ (fun h => absurd h (by first | exact Nat.lt_irrefl _ | (simp only []; omega))) _))); done)).block (fun h => h) L1.out); obtain ⟨m20, m21, m22, m23, m24, m25, m26, m27, m28, m29, m2A, m2B, m2C⟩ := cell13w L2.out; have hl2 := blk_lt L2.out)
            | (go_at_call 29; (with_reducible refine (hT2.out _ (by (repeat (first | (with_reducible exact Upd.refl _ _) | (with_reducible assumption) | (with_reducible apply Upd.drew) | (with_reducible apply Upd.alloc) | (refine Upd0.tr ?_ (by with_reducible assumption)) | (refine Upd.setCell ?_ (fun h => absurd h (by first | exact Nat.lt_irrefl _ | (simp only []; omega))) _))); done)).use ?_); rintro v w3 ⟨q4, a4, n4, x4, cq4, ca4, cn4, cx4, rfl, hr4, hu3⟩; clear hr4; have A3 := Lib.hid (hu3.block (fun h => h) (alloc_last _ _ w2.heap.size rfl)); obtain ⟨a30, a31, a32, a33, a34, a35, a36, a37, a38, a39, a3A, a3B, a3C⟩ := cell13w A3.out; have hlA := blk_lt A3.out)
            | (go_at_call 28; (with_reducible refine (flive_w _).use ?_); rintro v wL ⟨rfl, huL⟩)
            | (with_reducible refine wp_serial (by kernel_rfl) (by kernel_rfl) (by (repeat (first | (with_reducible apply NoBad.then) | (with_reducible apply NoBad.inBlock) | (with_reducible apply NoBad.jump) | (with_reducible exact NoBad.rets))); done) ?_) | fail)
          all_goals go_returns
          all_goals exact ⟨rfl, (by (repeat (first | (with_reducible exact Upd.refl _ _) | (with_reducible assumption) | (with_reducible apply Upd.drew) | (with_reducible apply Upd.alloc) | (refine Upd0.tr ?_ (by with_reducible assumption)) | (refine Upd.setCell ?_ (fun h => absurd h (by first | exact Nat.lt_irrefl _ | (simp only []; omega))) _))); done)⟩
      · have hc2 : (fitC m limit != 0) = true := bne_iff_ne.2 hc
        obtain ⟨M, hM⟩ : ∃ M, fitM m limit = M := ⟨_, rfl⟩
        obtain ⟨T, hT'⟩ : ∃ T, fitS m limit = T := ⟨_, rfl⟩
        obtain ⟨c, hcc⟩ : ∃ c, fitC m limit = c := ⟨_, rfl⟩
        rw [hM, hT', hcc] at hT
        rw [hcc] at hc2
        clear hc hM hT' hcc hT2
        obtain ⟨id, re, op, au, tr, wa, av, rc, qs, an, ns, ex, sz⟩ := m
        obtain ⟨id2, re2, op2, au2, tr2, wa2, av2, rc2, qs2, an2, ns2, ex2, sz2⟩ := M
        simp only [Msg.val] at hF hT ⊢
        go_enter Try.func12, Try.ntmps12
        go_wp2_with (first
          | (go_at_call 15; (with_reducible refine (hF.out _ (by (repeat (first | (with_reducible exact Upd.refl _ _) | (with_reducible assumption) | (with_reducible apply Upd.drew) | (with_reducible apply Upd.alloc) | (refine Upd0.tr ?_ (by with_reducible assumption)) | (refine Upd.setCell ?_ (fun h => absurd h (by first | exact Nat.lt_irrefl _ | (simp only []; omega))) _))); done)).use ?_); rintro v w1 ⟨rfl, hu1⟩; have L1 := Lib.hid (show w1.heap[w.heap.size]? = some (.cells #[.int .i64 id, .bool re, .int .i64 op, .bool au, .bool tr, .bool wa, .bool av, .int .i64 rc, .slice q qs.length cq, .slice a an.length ca, .slice n ns.length cn, .slice x ex.length cx, .int .i64 sz] 25 (0, 0)) from hu1.block (fun h => h) (alloc_last _ _ _ rfl)); obtain ⟨m10, m11, m12, m13, m14, m15, m16, m17, m18, m19, m1A, m1B, m1C⟩ := cell13w L1.out; have hl1 := blk_lt L1.out)
          | (go_at_call 29; (with_reducible refine (hT.out _ (by (repeat (first | (with_reducible exact Upd.refl _ _) | (with_reducible assumption) | (with_reducible apply Upd.drew) | (with_reducible apply Upd.alloc) | (refine Upd0.tr ?_ (by with_reducible assumption)) | (refine Upd.setCell ?_ (fun h => absurd h (by first | exact Nat.lt_irrefl _ | (simp only []; omega))) _))); done)).use ?_); rintro v w2 ⟨q3, a3, n3, x3, cq3, ca3, cn3, cx3, rfl, hr3, hu2⟩; clear hr3; have L2 := Lib.hid (show w2.heap[w.heap.size]? = some (.cells #[.int .i64 id, .bool re, .int .i64 op, .bool au, .bool tr, .bool wa, .bool av, .int .i64 rc, .slice q qs.length cq, .slice a an.length ca, .slice n ns.length cn, .slice x ex.length cx, .int .i64 sz] 25 (0, 0)) from (show Upd0 w1 w2 from (by (repeat (first | (with_reducible exact Upd.refl _ _) | (with_reducible assumption) | (with_reducible apply Upd.drew) | (with_reducible apply Upd.alloc) | (refine Upd0.tr ?_ (by with_reducible assumption)) | (refine Upd.setCell ?_ (fun h => absurd h (by first | exact Nat.lt_irrefl _ | (simp only []; omega))) _))); done)).block (fun h => h) L1.out); obtain ⟨m20, m21, m22, m23, m24, m25, m26, m27, m28, m29, m2A, m2B, m2C⟩ := cell13w L2.out; have hl2 := blk_lt L2.out)
          | (go_at_call 28; (with_reducible refine (flive_w _).use ?_); rintro v wL ⟨rfl, huL⟩)
          | (with_reducible refine wp_serial (by kernel_rfl) (by kernel_rfl) (by (repeat (first | (with_reducible apply NoBad.then) | (with_reducible apply NoBad.inBlock) | (with_reducible apply NoBad.jump) | (with_reducible exact NoBad.rets))); done) ?_) | fail)
        all_goals go_returns
        all_goals exact ⟨rfl, (by (repeat (first | (with_reducible exact Upd.refl _ _) | (with_reducible assumption) | (with_reducible apply Upd.drew) | (with_reducible apply Upd.alloc) | (refine Upd0.tr ?_ (by with_reducible assumption)) | (refine Upd.setCell ?_ (fun h => absurd h (by first | exact Nat.lt_irrefl _ | (simp only []; omega))) _))); done)⟩
    all_goals
      clear hT hT2
      obtain ⟨id, re, op, au, tr, wa, av, rc, qs, an, ns, ex, sz⟩ := m
      simp only [Msg.val] at hF ⊢
      go_enter Try.func12, Try.ntmps12
      go_wp2_with (first
        | (go_at_call 15; (with_reducible refine (hF.out _ (by (repeat (first | (with_reducible exact Upd.refl _ _) | (with_reducible assumption) | (with_reducible apply Upd.drew) | (with_reducible apply Upd.alloc) | (refine Upd0.tr ?_ (by with_reducible assumption)) | (refine Upd.setCell ?_ (fun h => absurd h (by first | exact Nat.lt_irrefl _ | (simp only []; omega))) _))); done)).use ?_); rintro v w1 ⟨rfl, hu1⟩; have L1 := Lib.hid (show w1.heap[w.heap.size]? = some (.cells #[.int .i64 id, .bool re, .int .i64 op, .bool au, .bool tr, .bool wa, .bool av, .int .i64 rc, .slice q qs.length cq, .slice a an.length ca, .slice n ns.length cn, .slice x ex.length cx, .int .i64 sz] 25 (0, 0)) from hu1.block (fun h => h) (alloc_last _ _ _ rfl)); obtain ⟨m10, m11, m12, m13, m14, m15, m16, m17, m18, m19, m1A, m1B, m1C⟩ := cell13w L1.out; have hl1 := blk_lt L1.out)
        | (go_at_call 28; (with_reducible refine (flive_w _).use ?_); rintro v wL ⟨rfl, huL⟩)
        | (with_reducible refine wp_serial (by kernel_rfl) (by kernel_rfl) (by (repeat (first | (with_reducible apply NoBad.then) | (with_reducible apply NoBad.inBlock) | (with_reducible apply NoBad.jump) | (with_reducible exact NoBad.rets))); done) ?_) | fail)
      all_goals go_returns
      all_goals exact ⟨rfl, (by (repeat (first | (with_reducible exact Upd.refl _ _) | (with_reducible assumption) | (with_reducible apply Upd.drew) | (with_reducible apply Upd.alloc) | (refine Upd0.tr ?_ (by with_reducible assumption)) | (refine Upd.setCell ?_ (fun h => absurd h (by first | exact Nat.lt_irrefl _ | (simp only []; omega))) _))); done)⟩
end Go.Proofs.Ytgdejgfmhndbhaa
