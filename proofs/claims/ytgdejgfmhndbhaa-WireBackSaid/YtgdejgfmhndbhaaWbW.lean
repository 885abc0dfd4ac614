/-
  WireBack: the walk.
-/
import Derived.Test.YtgdejgfmhndbhaaDeL
import Derived.Test.YtgdejgfmhndbhaaMsE
import Derived.Test.YtgdejgfmhndbhaaMgR
namespace Go.Proofs.Ytgdejgfmhndbhaa
open Go.RowKit
set_option linter.unusedSimpArgs false
set_option linter.unusedVariables false
set_option maxRecDepth 100000 in
set_option maxHeartbeats 8000000 in
theorem wireBack_walk (m : Msg) (q a n x : Option Addr) (cq ca cn cx : Nat) (w : World) (h : MsR w m q a n x) (hb : m.big) :
    Calls Try.prog 4 #[m.val q a n x cq ca cn cx] w (Rets fun r w' => r = .bool true ∧ Upd0 w w') := by
  have hF := Lib.hid (fun (w' : World) (u : Upd0 w w') => few_w m q a n x cq ca cn cx w' (h.up u) hb)
  cases hf : fewB m with
  | false =>
    rw [hf] at hF
    clear hf h hb
    obtain ⟨id, re, op, au, tr, wa, av, rc, qs, an, ns, ex, sz⟩ := m
    simp only [Msg.val] at hF ⊢
    go_enter Try.func4, Try.ntmps4
    go_wp2_with (first
      | (go_at_call 15; (with_reducible refine (hF.out _ (by (repeat (first | (with_reducible exact Upd.refl _ _) | (with_reducible assumption) | (with_reducible apply Upd.drew) | (with_reducible apply Upd.alloc) | (refine Upd0.tr ?_ (by with_reducible assumption)) | (refine Upd.setCell ?_ (fun h => absurd h (by first | exact Nat.lt_irrefl _ | (simp only []; omega))) _))); done)).use ?_); rintro v w1 ⟨rfl, hu1⟩; have L1 := Lib.hid (show w1.heap[w.heap.size]? = some (.cells #[.int .i64 id, .bool re, .int .i64 op, .bool au, .bool tr, .bool wa, .bool av, .int .i64 rc, .slice q qs.length cq, .slice a an.length ca, .slice n ns.length cn, .slice x ex.length cx, .int .i64 sz] 25 (0, 0)) from hu1.block (fun h => h) (alloc_last _ _ _ rfl)); obtain ⟨m10, m11, m12, m13, m14, m15, m16, m17, m18, m19, m1A, m1B, m1C⟩ := cell13w L1.out; have hl1 := blk_lt L1.out)
      | (go_at_call 16; (with_reducible refine (wlive_w _).use ?_); rintro v wL ⟨rfl, huL⟩)
      | (with_reducible refine wp_serial (by kernel_rfl) (by kernel_rfl) (by (repeat (first | (with_reducible apply NoBad.then) | (with_reducible apply NoBad.inBlock) | (with_reducible apply NoBad.jump) | (with_reducible exact NoBad.rets))); done) ?_) | fail)
    all_goals (try go_returns)
    all_goals exact ⟨rfl, (by (repeat (first | (with_reducible exact Upd.refl _ _) | (with_reducible assumption) | (with_reducible apply Upd.drew) | (with_reducible apply Upd.alloc) | (refine Upd0.tr ?_ (by with_reducible assumption)) | (refine Upd.setCell ?_ (fun h => absurd h (by first | exact Nat.lt_irrefl _ | (simp only []; omega))) _))); done)⟩
  | true =>
    rw [hf] at hF
    have hmid := few_mid hf
    have hE := Lib.hid (fun (w' : World) (u : Upd0 w w') => encode_w m q a n x cq ca cn cx w' (h.up u) hmid)
    have hhh := Lib.hid h
    have hmh := Lib.hid hmid
    clear hf h hb hmid
    by_cases hc : encC m = 0
    · have hD := Lib.hid (fun (w' : World) => decode_enc m hc w')
      rw [hc] at hE
      obtain ⟨S, hS⟩ : ∃ S, encS m = S := ⟨_, rfl⟩
      rw [hS] at hE hD
      have hM := Lib.hid (fun (q' a' n' x' : Option Addr) (cq' ca' cn' cx' : Nat) (w' : World) (k : MsR w' m q' a' n' x') (u : Upd0 w w') => rsameM_w m q' a' n' x' q a n x cq' ca' cn' cx' cq ca cn cx w' k (hhh.out.up u) hmh.out)
      clear hc hS hhh hmh
      obtain ⟨id, re, op, au, tr, wa, av, rc, qs, an, ns, ex, sz⟩ := m
      simp only [Msg.val] at hF hE hD hM ⊢
      go_enter Try.func4, Try.ntmps4
      go_wp2_with (first
        | (go_at_call 15; (with_reducible refine (hF.out _ (by (repeat (first | (with_reducible exact Upd.refl _ _) | (with_reducible assumption) | (with_reducible apply Upd.drew) | (with_reducible apply Upd.alloc) | (refine Upd0.tr ?_ (by with_reducible assumption)) | (refine Upd.setCell ?_ (fun h => absurd h (by first | exact Nat.lt_irrefl _ | (simp only []; omega))) _))); done)).use ?_); rintro v w1 ⟨rfl, hu1⟩; have L1 := Lib.hid (show w1.heap[w.heap.size]? = some (.cells #[.int .i64 id, .bool re, .int .i64 op, .bool au, .bool tr, .bool wa, .bool av, .int .i64 rc, .slice q qs.length cq, .slice a an.length ca, .slice n ns.length cn, .slice x ex.length cx, .int .i64 sz] 25 (0, 0)) from hu1.block (fun h => h) (alloc_last _ _ _ rfl)); obtain ⟨m10, m11, m12, m13, m14, m15, m16, m17, m18, m19, m1A, m1B, m1C⟩ := cell13w L1.out; have hl1 := blk_lt L1.out)
        | (go_at_call 18; (with_reducible refine (hE.out _ (by (repeat (first | (with_reducible exact Upd.refl _ _) | (with_reducible assumption) | (with_reducible apply Upd.drew) | (with_reducible apply Upd.alloc) | (refine Upd0.tr ?_ (by with_reducible assumption)) | (refine Upd.setCell ?_ (fun h => absurd h (by first | exact Nat.lt_irrefl _ | (simp only []; omega))) _))); done)).use ?_); rintro v w2 ⟨rfl, hu2⟩; have L2 := Lib.hid (show w2.heap[w.heap.size]? = some (.cells #[.int .i64 id, .bool re, .int .i64 op, .bool au, .bool tr, .bool wa, .bool av, .int .i64 rc, .slice q qs.length cq, .slice a an.length ca, .slice n ns.length cn, .slice x ex.length cx, .int .i64 sz] 25 (0, 0)) from (show Upd0 w1 w2 from (by (repeat (first | (with_reducible exact Upd.refl _ _) | (with_reducible assumption) | (with_reducible apply Upd.drew) | (with_reducible apply Upd.alloc) | (refine Upd0.tr ?_ (by with_reducible assumption)) | (refine Upd.setCell ?_ (fun h => absurd h (by first | exact Nat.lt_irrefl _ | (simp only []; omega))) _))); done)).block (fun h => h) L1.out); obtain ⟨m20, m21, m22, m23, m24, m25, m26, m27, m28, m29, m2A, m2B, m2C⟩ := cell13w L2.out; have hl2 := blk_lt L2.out)
        | (go_at_call 23; (with_reducible refine (hD.out _).use ?_); rintro v w3 ⟨q3, a3, n3, x3, cq3, ca3, cn3, cx3, rfl, hr3, hu3⟩; have hr3h := Lib.hid hr3; clear hr3; have L3 := Lib.hid (show w3.heap[w.heap.size]? = some (.cells #[.int .i64 id, .bool re, .int .i64 op, .bool au, .bool tr, .bool wa, .bool av, .int .i64 rc, .slice q qs.length cq, .slice a an.length ca, .slice n ns.length cn, .slice x ex.length cx, .int .i64 sz] 25 (0, 0)) from (show Upd0 w2 w3 from (by (repeat (first | (with_reducible exact Upd.refl _ _) | (with_reducible assumption) | (with_reducible apply Upd.drew) | (with_reducible apply Upd.alloc) | (refine Upd0.tr ?_ (by with_reducible assumption)) | (refine Upd.setCell ?_ (fun h => absurd h (by first | exact Nat.lt_irrefl _ | (simp only []; omega))) _))); done)).block (fun h => h) L2.out); obtain ⟨m30, m31, m32, m33, m34, m35, m36, m37, m38, m39, m3A, m3B, m3C⟩ := cell13w L3.out; have hl3 := blk_lt L3.out)
        | (go_at_call 22; (with_reducible refine (hM.out _ _ _ _ _ _ _ _ _ (hr3h.out.up (by (repeat (first | (with_reducible exact Upd.refl _ _) | (with_reducible assumption) | (with_reducible apply Upd.drew) | (with_reducible apply Upd.alloc) | (refine Upd0.tr ?_ (by with_reducible assumption)) | (refine Upd.setCell ?_ (fun h => absurd h (by first | exact Nat.lt_irrefl _ | (simp only []; omega))) _))); done)) (by (repeat (first | (with_reducible exact Upd.refl _ _) | (with_reducible assumption) | (with_reducible apply Upd.drew) | (with_reducible apply Upd.alloc) | (refine Upd0.tr ?_ (by with_reducible assumption)) | (refine Upd.setCell ?_ (fun h => absurd h (by first | exact Nat.lt_irrefl _ | (simp only []; omega))) _))); done)).use ?_); rintro v w4 ⟨rfl, hu4⟩)
        | (go_at_call 16; (with_reducible refine (wlive_w _).use ?_); rintro v wL ⟨rfl, huL⟩)
        | (with_reducible refine wp_serial (by kernel_rfl) (by kernel_rfl) (by (repeat (first | (with_reducible apply NoBad.then) | (with_reducible apply NoBad.inBlock) | (with_reducible apply NoBad.jump) | (with_reducible exact NoBad.rets))); done) ?_) | fail)
      all_goals (try go_returns)
      all_goals exact ⟨rfl, (by (repeat (first | (with_reducible exact Upd.refl _ _) | (with_reducible assumption) | (with_reducible apply Upd.drew) | (with_reducible apply Upd.alloc) | (refine Upd0.tr ?_ (by with_reducible assumption)) | (refine Upd.setCell ?_ (fun h => absurd h (by first | exact Nat.lt_irrefl _ | (simp only []; omega))) _))); done)⟩
    · skip
      have hc2 : (encC m != 0) = true := bne_iff_ne.2 hc
      have hS0 : encS m = [] := by rw [encS, if_neg hc]
      obtain ⟨c, hcc⟩ : ∃ c, encC m = c := ⟨_, rfl⟩
      rw [hcc, hS0] at hE
      rw [hcc] at hc2
      clear hc hcc hS0 hhh hmh
      obtain ⟨id, re, op, au, tr, wa, av, rc, qs, an, ns, ex, sz⟩ := m
      simp only [Msg.val] at hF hE ⊢
      go_enter Try.func4, Try.ntmps4
      go_wp2_with (first
        | (go_at_call 15; (with_reducible refine (hF.out _ (by (repeat (first | (with_reducible exact Upd.refl _ _) | (with_reducible assumption) | (with_reducible apply Upd.drew) | (with_reducible apply Upd.alloc) | (refine Upd0.tr ?_ (by with_reducible assumption)) | (refine Upd.setCell ?_ (fun h => absurd h (by first | exact Nat.lt_irrefl _ | (simp only []; omega))) _))); done)).use ?_); rintro v w1 ⟨rfl, hu1⟩; have L1 := Lib.hid (show w1.heap[w.heap.size]? = some (.cells #[.int .i64 id, .bool re, .int .i64 op, .bool au, .bool tr, .bool wa, .bool av, .int .i64 rc, .slice q qs.length cq, .slice a an.length ca, .slice n ns.length cn, .slice x ex.length cx, .int .i64 sz] 25 (0, 0)) from hu1.block (fun h => h) (alloc_last _ _ _ rfl)); obtain ⟨m10, m11, m12, m13, m14, m15, m16, m17, m18, m19, m1A, m1B, m1C⟩ := cell13w L1.out; have hl1 := blk_lt L1.out)
        | (go_at_call 18; (with_reducible refine (hE.out _ (by (repeat (first | (with_reducible exact Upd.refl _ _) | (with_reducible assumption) | (with_reducible apply Upd.drew) | (with_reducible apply Upd.alloc) | (refine Upd0.tr ?_ (by with_reducible assumption)) | (refine Upd.setCell ?_ (fun h => absurd h (by first | exact Nat.lt_irrefl _ | (simp only []; omega))) _))); done)).use ?_); rintro v w2 ⟨rfl, hu2⟩; have L2 := Lib.hid (show w2.heap[w.heap.size]? = some (.cells #[.int .i64 id, .bool re, .int .i64 op, .bool au, .bool tr, .bool wa, .bool av, .int .i64 rc, .slice q qs.length cq, .slice a an.length ca, .slice n ns.length cn, .slice x ex.length cx, .int .i64 sz] 25 (0, 0)) from (show Upd0 w1 w2 from (by (repeat (first | (with_reducible exact Upd.refl _ _) | (with_reducible assumption) | (with_reducible apply Upd.drew) | (with_reducible apply Upd.alloc) | (refine Upd0.tr ?_ (by with_reducible assumption)) | (refine Upd.setCell ?_ (fun h => absurd h (by first | exact Nat.lt_irrefl _ | (simp only []; omega))) _))); done)).block (fun h => h) L1.out); obtain ⟨m20, m21, m22, m23, m24, m25, m26, m27, m28, m29, m2A, m2B, m2C⟩ := cell13w L2.out; have hl2 := blk_lt L2.out)
        | (go_at_call 16; (with_reducible refine (wlive_w _).use ?_); rintro v wL ⟨rfl, huL⟩)
        | (with_reducible refine wp_serial (by kernel_rfl) (by kernel_rfl) (by (repeat (first | (with_reducible apply NoBad.then) | (with_reducible apply NoBad.inBlock) | (with_reducible apply NoBad.jump) | (with_reducible exact NoBad.rets))); done) ?_) | fail)
      all_goals (try go_returns)
      all_goals exact ⟨rfl, (by (repeat (first | (with_reducible exact Upd.refl _ _) | (with_reducible assumption) | (with_reducible apply Upd.drew) | (with_reducible apply Upd.alloc) | (refine Upd0.tr ?_ (by with_reducible assumption)) | (refine Upd.setCell ?_ (fun h => absurd h (by first | exact Nat.lt_irrefl _ | (simp only []; omega))) _))); done)⟩
end Go.Proofs.Ytgdejgfmhndbhaa
