/-
  WireAgain: the walk.
-/
import Derived.Test.YtgdejgfmhndbhaaDeL
import Derived.Test.YtgdejgfmhndbhaaMsE
namespace Go.Proofs.Ytgdejgfmhndbhaa
open Go.RowKit
set_option linter.unusedSimpArgs false
set_option linter.unusedVariables false
set_option maxRecDepth 100000 in
set_option maxHeartbeats 8000000 in
theorem wireAgain_walk (s : Bs) (w : World) : Calls Try.prog 5 #[.string ⟨s.toArray⟩] w (Rets fun r w' => r = .bool true ∧ Upd0 w w') := by
  by_cases hl : (2000 : Int) < (s.length : Int)
  · go_enter Try.func5, Try.ntmps5
    go_wp2_with (first
      | (go_at_call 16; (with_reducible refine (wlive_w _).use ?_); rintro v wL ⟨rfl, huL⟩)
      | (with_reducible refine wp_serial (by kernel_rfl) (by kernel_rfl) (by (repeat (first | (with_reducible apply NoBad.then) | (with_reducible apply NoBad.inBlock) | (with_reducible apply NoBad.jump) | (with_reducible exact NoBad.rets))); done) ?_) | fail)
    all_goals (try go_returns)
    all_goals exact ⟨rfl, (by (repeat (first | (with_reducible exact Upd.refl _ _) | (with_reducible assumption) | (with_reducible apply Upd.drew) | (with_reducible apply Upd.alloc) | (refine Upd0.tr ?_ (by with_reducible assumption)) | (refine Upd.setCell ?_ (fun h => absurd h (by first | exact Nat.lt_irrefl _ | (simp only []; omega))) _))); done)⟩
  have hD := Lib.hid (fun (w' : World) => decode_w s w' (by omega))
  by_cases he : (dcE s).e = 0
  · have hB := dc_ok he
    have hM := show decM s = dcG s by rw [decM, if_pos he]
    obtain ⟨M, hMM⟩ : ∃ M, dcG s = M := ⟨_, rfl⟩
    rw [hMM] at hB hM
    have hD2 := Lib.hid (show ∀ w', Calls Try.prog 23 #[.string ⟨s.toArray⟩] w' (Rets fun r w'' => ∃ q a n x cq ca cn cx, r = .tuple #[M.val q a n x cq ca cn cx, .int .i64 0] ∧ MsR w'' M q a n x ∧ Upd0 w' w'') from fun w' => by
      have := hD.out w'
      unfold DecQ at this
      rw [hM, he] at this
      exact this)
    have hmid := mid_ok hB
    have hE := Lib.hid (fun (q a n x : Option Addr) (cq ca cn cx : Nat) (w' : World) (k : MsR w' M q a n x) => encode_w M q a n x cq ca cn cx w' k hmid)
    have hC := Lib.hid (fun (q a n x : Option Addr) (cq ca cn cx : Nat) (w' : World) (k : MsR w' M q a n x) => check_w M q a n x cq ca cn cx w' k hmid)
    have hc0 : msgC M = 0 := by rw [msgC, hB]; rfl
    rw [hc0] at hC
    have hmh := Lib.hid hmid
    clear hD he hM hMM hc0 hmid
    by_cases hc : encC M = 0
    · have hR := Lib.hid (fun (w' : World) => decode_enc M hc w')
      rw [hc] at hE
      obtain ⟨S, hS⟩ : ∃ S, encS M = S := ⟨_, rfl⟩
      rw [hS] at hE hR
      have hSm := Lib.hid (fun (q a n x q' a' n' x' : Option Addr) (cq ca cn cx cq' ca' cn' cx' : Nat) (w' : World) (k : MsR w' M q a n x) (k' : MsR w' M q' a' n' x') => rsameM_w M q a n x q' a' n' x' cq ca cn cx cq' ca' cn' cx' w' k k' hmh.out)
      clear hc hS hmh hB
      obtain ⟨id, re, op, au, tr, wa, av, rc, qs, an, ns, ex, sz⟩ := M
      simp only [Msg.val] at hD2 hE hC hR hSm
      have tk1 : True := trivial
      go_enter Try.func5, Try.ntmps5
      go_wp2_with (first
        | (go_at_call 23; have _t := tk1; clear tk1 _t; (with_reducible refine (hD2.out _).use ?_); rintro v w1 ⟨q1, a1, n1, x1, cq1, ca1, cn1, cx1, rfl, hr1, hu1⟩; have hr1h := Lib.hid hr1; clear hr1)
        | (go_at_call 18; (with_reducible refine (hE.out _ _ _ _ _ _ _ _ _ (hr1h.out.up (by (repeat (first | (with_reducible exact Upd.refl _ _) | (with_reducible assumption) | (with_reducible apply Upd.drew) | (with_reducible apply Upd.alloc) | (refine Upd0.tr ?_ (by with_reducible assumption)) | (refine Upd.setCell ?_ (fun h => absurd h (by first | exact Nat.lt_irrefl _ | (simp only []; omega))) _))); done))).use ?_); rintro v w2 ⟨rfl, hu2⟩; have L2 := Lib.hid (show w2.heap[w1.heap.size]? = some (.cells #[.int .i64 id, .bool re, .int .i64 op, .bool au, .bool tr, .bool wa, .bool av, .int .i64 rc, .slice q1 qs.length cq1, .slice a1 an.length ca1, .slice n1 ns.length cn1, .slice x1 ex.length cx1, .int .i64 sz] 25 (0, 0)) from hu2.block (fun h => h) (alloc_last _ _ _ rfl)); obtain ⟨l20, l21, l22, l23, l24, l25, l26, l27, l28, l29, l2A, l2B, l2C⟩ := cell13w L2.out; have hL2 := blk_lt L2.out)
        | (go_at_call 20; (with_reducible refine (hC.out _ _ _ _ _ _ _ _ _ (hr1h.out.up (by (repeat (first | (with_reducible exact Upd.refl _ _) | (with_reducible assumption) | (with_reducible apply Upd.drew) | (with_reducible apply Upd.alloc) | (refine Upd0.tr ?_ (by with_reducible assumption)) | (refine Upd.setCell ?_ (fun h => absurd h (by first | exact Nat.lt_irrefl _ | (simp only []; omega))) _))); done))).use ?_); rintro v w3 ⟨rfl, hu3⟩; have L3 := Lib.hid (show w3.heap[w1.heap.size]? = some (.cells #[.int .i64 id, .bool re, .int .i64 op, .bool au, .bool tr, .bool wa, .bool av, .int .i64 rc, .slice q1 qs.length cq1, .slice a1 an.length ca1, .slice n1 ns.length cn1, .slice x1 ex.length cx1, .int .i64 sz] 25 (0, 0)) from hu3.block (fun h => h) L2.out); obtain ⟨l30, l31, l32, l33, l34, l35, l36, l37, l38, l39, l3A, l3B, l3C⟩ := cell13w L3.out; have hL3 := blk_lt L3.out)
        | (go_at_call 23; (with_reducible refine (hR.out _).use ?_); rintro v w4 ⟨q4, a4, n4, x4, cq4, ca4, cn4, cx4, rfl, hr4, hu4⟩; have hr4h := Lib.hid hr4; clear hr4; have L4 := Lib.hid (show w4.heap[w1.heap.size]? = some (.cells #[.int .i64 id, .bool re, .int .i64 op, .bool au, .bool tr, .bool wa, .bool av, .int .i64 rc, .slice q1 qs.length cq1, .slice a1 an.length ca1, .slice n1 ns.length cn1, .slice x1 ex.length cx1, .int .i64 sz] 25 (0, 0)) from (show Upd0 w3 w4 from (by (repeat (first | (with_reducible exact Upd.refl _ _) | (with_reducible assumption) | (with_reducible apply Upd.drew) | (with_reducible apply Upd.alloc) | (refine Upd0.tr ?_ (by with_reducible assumption)) | (refine Upd.setCell ?_ (fun h => absurd h (by first | exact Nat.lt_irrefl _ | (simp only []; omega))) _))); done)).block (fun h => h) L3.out); obtain ⟨l40, l41, l42, l43, l44, l45, l46, l47, l48, l49, l4A, l4B, l4C⟩ := cell13w L4.out; have hL4 := blk_lt L4.out)
        | (go_at_call 22; (with_reducible refine (hSm.out _ _ _ _ _ _ _ _ _ _ _ _ _ _ _ _ _ (hr4h.out.up (by (repeat (first | (with_reducible exact Upd.refl _ _) | (with_reducible assumption) | (with_reducible apply Upd.drew) | (with_reducible apply Upd.alloc) | (refine Upd0.tr ?_ (by with_reducible assumption)) | (refine Upd.setCell ?_ (fun h => absurd h (by first | exact Nat.lt_irrefl _ | (simp only []; omega))) _))); done)) (hr1h.out.up (by (repeat (first | (with_reducible exact Upd.refl _ _) | (with_reducible assumption) | (with_reducible apply Upd.drew) | (with_reducible apply Upd.alloc) | (refine Upd0.tr ?_ (by with_reducible assumption)) | (refine Upd.setCell ?_ (fun h => absurd h (by first | exact Nat.lt_irrefl _ | (simp only []; omega))) _))); done))).use ?_); rintro v w5 ⟨rfl, hu5⟩)
        | (go_at_call 16; (with_reducible refine (wlive_w _).use ?_); rintro v wL ⟨rfl, huL⟩)
        | (with_reducible refine wp_serial (by kernel_rfl) (by kernel_rfl) (by (repeat (first | (with_reducible apply NoBad.then) | (with_reducible apply NoBad.inBlock) | (with_reducible apply NoBad.jump) | (with_reducible exact NoBad.rets))); done) ?_) | fail)
      all_goals (try go_returns)
      all_goals exact ⟨rfl, (by (repeat (first | (with_reducible exact Upd.refl _ _) | (with_reducible assumption) | (with_reducible apply Upd.drew) | (with_reducible apply Upd.alloc) | (refine Upd0.tr ?_ (by with_reducible assumption)) | (refine Upd.setCell ?_ (fun h => absurd h (by first | exact Nat.lt_irrefl _ | (simp only []; omega))) _))); done)⟩
    · have hc4 : encC M = 4 := by
        have := hc
        unfold encC at this ⊢
        rw [hB, if_pos rfl] at this ⊢
        split
        · rename_i hh; rw [if_pos hh] at this; exact absurd rfl this
        · rfl
      rw [hc4] at hE
      obtain ⟨S, hS⟩ : ∃ S, encS M = S := ⟨_, rfl⟩
      rw [hS] at hE
      clear hc hc4 hS hmh hB
      obtain ⟨id, re, op, au, tr, wa, av, rc, qs, an, ns, ex, sz⟩ := M
      simp only [Msg.val] at hD2 hE hC
      go_enter Try.func5, Try.ntmps5
      go_wp2_with (first
        | (go_at_call 23; (with_reducible refine (hD2.out _).use ?_); rintro v w1 ⟨q1, a1, n1, x1, cq1, ca1, cn1, cx1, rfl, hr1, hu1⟩; have hr1h := Lib.hid hr1; clear hr1)
        | (go_at_call 18; (with_reducible refine (hE.out _ _ _ _ _ _ _ _ _ (hr1h.out.up (by (repeat (first | (with_reducible exact Upd.refl _ _) | (with_reducible assumption) | (with_reducible apply Upd.drew) | (with_reducible apply Upd.alloc) | (refine Upd0.tr ?_ (by with_reducible assumption)) | (refine Upd.setCell ?_ (fun h => absurd h (by first | exact Nat.lt_irrefl _ | (simp only []; omega))) _))); done))).use ?_); rintro v w2 ⟨rfl, hu2⟩; have L2 := Lib.hid (show w2.heap[w1.heap.size]? = some (.cells #[.int .i64 id, .bool re, .int .i64 op, .bool au, .bool tr, .bool wa, .bool av, .int .i64 rc, .slice q1 qs.length cq1, .slice a1 an.length ca1, .slice n1 ns.length cn1, .slice x1 ex.length cx1, .int .i64 sz] 25 (0, 0)) from hu2.block (fun h => h) (alloc_last _ _ _ rfl)); obtain ⟨l20, l21, l22, l23, l24, l25, l26, l27, l28, l29, l2A, l2B, l2C⟩ := cell13w L2.out; have hL2 := blk_lt L2.out)
        | (go_at_call 20; (with_reducible refine (hC.out _ _ _ _ _ _ _ _ _ (hr1h.out.up (by (repeat (first | (with_reducible exact Upd.refl _ _) | (with_reducible assumption) | (with_reducible apply Upd.drew) | (with_reducible apply Upd.alloc) | (refine Upd0.tr ?_ (by with_reducible assumption)) | (refine Upd.setCell ?_ (fun h => absurd h (by first | exact Nat.lt_irrefl _ | (simp only []; omega))) _))); done))).use ?_); rintro v w3 ⟨rfl, hu3⟩; have L3 := Lib.hid (show w3.heap[w1.heap.size]? = some (.cells #[.int .i64 id, .bool re, .int .i64 op, .bool au, .bool tr, .bool wa, .bool av, .int .i64 rc, .slice q1 qs.length cq1, .slice a1 an.length ca1, .slice n1 ns.length cn1, .slice x1 ex.length cx1, .int .i64 sz] 25 (0, 0)) from hu3.block (fun h => h) L2.out); obtain ⟨l30, l31, l32, l33, l34, l35, l36, l37, l38, l39, l3A, l3B, l3C⟩ := cell13w L3.out; have hL3 := blk_lt L3.out)
        | (go_at_call 16; (with_reducible refine (wlive_w _).use ?_); rintro v wL ⟨rfl, huL⟩)
        | (with_reducible refine wp_serial (by kernel_rfl) (by kernel_rfl) (by (repeat (first | (with_reducible apply NoBad.then) | (with_reducible apply NoBad.inBlock) | (with_reducible apply NoBad.jump) | (with_reducible exact NoBad.rets))); done) ?_) | fail)
      all_goals (try go_returns)
      all_goals exact ⟨rfl, (by (repeat (first | (with_reducible exact Upd.refl _ _) | (with_reducible assumption) | (with_reducible apply Upd.drew) | (with_reducible apply Upd.alloc) | (refine Upd0.tr ?_ (by with_reducible assumption)) | (refine Upd.setCell ?_ (fun h => absurd h (by first | exact Nat.lt_irrefl _ | (simp only []; omega))) _))); done)⟩
  · have hM : decM s = msgZ0 := by rw [decM, if_neg he]
    obtain ⟨e, hee⟩ : ∃ e, (dcE s).e = e := ⟨_, rfl⟩
    rw [hee] at he
    have hD2 := Lib.hid (show ∀ w', Calls Try.prog 23 #[.string ⟨s.toArray⟩] w' (Rets fun r w'' => ∃ q a n x cq ca cn cx, r = .tuple #[.agg #[.int .i64 0, .bool false, .int .i64 0, .bool false, .bool false, .bool false, .bool false, .int .i64 0, .slice q 0 cq, .slice a 0 ca, .slice n 0 cn, .slice x 0 cx, .int .i64 0], .int .i64 e] ∧ MsR w'' msgZ0 q a n x ∧ Upd0 w' w'') from fun w' => by
      have := hD.out w'
      unfold DecQ at this
      rw [hM, hee] at this
      exact this)
    have hSm := Lib.hid (show ∀ (q a n x : Option Addr) (cq ca cn cx : Nat) (w' : World), Calls Try.prog 22 #[.agg #[.int .i64 0, .bool false, .int .i64 0, .bool false, .bool false, .bool false, .bool false, .int .i64 0, .slice q 0 cq, .slice a 0 ca, .slice n 0 cn, .slice x 0 cx, .int .i64 0], .agg #[.int .i64 0, .bool false, .int .i64 0, .bool false, .bool false, .bool false, .bool false, .int .i64 0, .slice none 0 0, .slice none 0 0, .slice none 0 0, .slice none 0 0, .int .i64 0]] w' (Rets fun r w'' => r = .bool true ∧ Upd0 w' w'') from fun q a n x cq ca cn cx w' =>
      rsameM_w msgZ0 q a n x none none none none cq ca cn cx 0 0 0 0 w' ⟨.inl rfl, .inl rfl, .inl rfl, .inl rfl⟩ ⟨.inl rfl, .inl rfl, .inl rfl, .inl rfl⟩ ⟨⟨by decide, fun x hx => by cases hx⟩, ⟨by decide, fun x hx => by cases hx⟩, ⟨by decide, fun x hx => by cases hx⟩, ⟨by decide, fun x hx => by cases hx⟩⟩)
    have he2 : (e != 0) = true := bne_iff_ne.2 he
    clear hD hM hee
    go_enter Try.func5, Try.ntmps5
    go_wp2_with (first
      | (go_at_call 23; (with_reducible refine (hD2.out _).use ?_); rintro v w1 ⟨q1, a1, n1, x1, cq1, ca1, cn1, cx1, rfl, hr1, hu1⟩; have hr1h := Lib.hid hr1; clear hr1)
      | (go_at_call 22; (with_reducible refine (hSm.out _ _ _ _ _ _ _ _ _).use ?_); rintro v w2 ⟨rfl, hu2⟩)
      | (go_at_call 16; (with_reducible refine (wlive_w _).use ?_); rintro v wL ⟨rfl, huL⟩)
      | (with_reducible refine wp_serial (by kernel_rfl) (by kernel_rfl) (by (repeat (first | (with_reducible apply NoBad.then) | (with_reducible apply NoBad.inBlock) | (with_reducible apply NoBad.jump) | (with_reducible exact NoBad.rets))); done) ?_) | fail)
    all_goals (try go_returns)
    all_goals exact ⟨rfl, (by (repeat (first | (with_reducible exact Upd.refl _ _) | (with_reducible assumption) | (with_reducible apply Upd.drew) | (with_reducible apply Upd.alloc) | (refine Upd0.tr ?_ (by with_reducible assumption)) | (refine Upd.setCell ?_ (fun h => absurd h (by first | exact Nat.lt_irrefl _ | (simp only []; omega))) _))); done)⟩
end Go.Proofs.Ytgdejgfmhndbhaa
