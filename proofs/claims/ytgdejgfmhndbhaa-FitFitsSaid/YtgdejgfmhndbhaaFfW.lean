/-
  FitFits: the walk.
-/
import Derived.Test.YtgdejgfmhndbhaaDeK
import Derived.Test.YtgdejgfmhndbhaaFtQ
import Derived.Test.YtgdejgfmhndbhaaFtL
import Derived.Test.YtgdejgfmhndbhaaSmM
import Derived.Test.YtgdejgfmhndbhaaMsE
import Derived.Test.YtgdejgfmhndbhaaMgR
namespace Go.Proofs.Ytgdejgfmhndbhaa
open Go.RowKit
set_option linter.unusedSimpArgs false
set_option linter.unusedVariables false
theorem fitN_way {m : Msg} {limit : Int} : ∀ (n : Nat) (x : Msg), fitN m limit n = some x → (∃ k, x = m.tk k) ∨ x = m.cut
  | 0, x, h => by
    rw [fitN] at h
    split at h
    · exact .inl ⟨0, (Option.some.inj h).symm⟩
    · split at h
      · exact .inr (Option.some.inj h).symm
      · cases h
  | n + 1, x, h => by
    rw [fitN] at h
    split at h
    · exact .inl ⟨n + 1, (Option.some.inj h).symm⟩
    · exact fitN_way n x h
theorem fit_ways {m : Msg} {limit : Int} (h : fitC m limit = 0) : ∃ A, fitM m limit = A ∧ fitS m limit = encS A ∧ encC A = 0 ∧ ((encS A).length : Int) ≤ limit ∧ ((∃ k, A = m.tk k) ∨ A = m.cut) := by
  unfold fitC at h
  cases hO : fitO m limit with
  | false => rw [hO] at h; cases h
  | true =>
    rw [hO, if_pos rfl] at h
    cases hN : fitN m limit m.ex.length with
    | none => rw [hN] at h; cases h
    | some A =>
      have hR : fitR m limit = some A := by rw [fitR, hO, if_pos rfl, hN]
      have hf := fits_le (fitN_fits _ _ hN)
      exact ⟨A, by rw [fitM, hR]; rfl, by rw [fitS, hR], hf.1, hf.2, fitN_way _ _ hN⟩
theorem fit_none {m : Msg} {limit : Int} (h : ¬ fitC m limit = 0) : fitS m limit = [] := by
  unfold fitC at h
  cases hO : fitO m limit with
  | false => rw [fitS, fitR, hO]; rfl
  | true =>
    rw [hO, if_pos rfl] at h
    cases hN : fitN m limit m.ex.length with
    | none => rw [fitS, fitR, hO, if_pos rfl, hN]
    | some A => rw [hN] at h; exact absurd rfl h
set_option maxRecDepth 100000 in
set_option maxHeartbeats 8000000 in
theorem fitFits_walk (m : Msg) (q a n x : Option Addr) (cq ca cn cx : Nat) (limit : Int) (w : World) (h : MsR w m q a n x) (hb : m.big) :
    Calls Try.prog 14 #[m.val q a n x cq ca cn cx, .int .i64 limit] w (Rets fun r w' => r = .bool true ∧ Upd0 w w') := by
  have hF := Lib.hid (fun (w' : World) (u : Upd0 w w') => few_w m q a n x cq ca cn cx w' (h.up u) hb)
  cases hf : fewB m with
  | false =>
    rw [hf] at hF
    clear hf h hb
    obtain ⟨id, re, op, au, tr, wa, av, rc, qs, an, ns, ex, sz⟩ := m
    simp only [Msg.val] at hF ⊢
    go_enter Try.func14, Try.ntmps14
    go_wp2_with (first
      | (go_at_call 15; (with_reducible refine (hF.out _ (by (repeat (first | (with_reducible exact Upd.refl _ _) | (with_reducible assumption) | (with_reducible apply Upd.drew) | (with_reducible apply Upd.alloc) | (refine Upd0.tr ?_ (by with_reducible assumption)) | (refine Upd.setCell ?_ (fun h => absurd h (by first | exact Nat.lt_irrefl _ | (simp only []; omega))) _))); done)).use ?_); rintro v w1 ⟨rfl, hu1⟩; have L1 := Lib.hid (show w1.heap[w.heap.size]? = some (.cells #[.int .i64 id, .bool re, .int .i64 op, .bool au, .bool tr, .bool wa, .bool av, .int .i64 rc, .slice q qs.length cq, .slice a an.length ca, .slice n ns.length cn, .slice x ex.length cx, .int .i64 sz] 25 (0, 0)) from hu1.block (fun h => h) (alloc_last _ _ _ rfl)); obtain ⟨m10, m11, m12, m13, m14, m15, m16, m17, m18, m19, m1A, m1B, m1C⟩ := cell13w L1.out; have hl1 := blk_lt L1.out)
      | (go_at_call 28; (with_reducible refine (flive_w _).use ?_); rintro v wL ⟨rfl, huL⟩)
      | (with_reducible refine wp_serial (by kernel_rfl) (by kernel_rfl) (by (repeat (first | (with_reducible apply NoBad.then) | (with_reducible apply NoBad.inBlock) | (with_reducible apply NoBad.jump) | (with_reducible exact NoBad.rets))); done) ?_) | fail)
    all_goals (try go_returns)
    all_goals exact ⟨rfl, (by (repeat (first | (with_reducible exact Upd.refl _ _) | (with_reducible assumption) | (with_reducible apply Upd.drew) | (with_reducible apply Upd.alloc) | (refine Upd0.tr ?_ (by with_reducible assumption)) | (refine Upd.setCell ?_ (fun h => absurd h (by first | exact Nat.lt_irrefl _ | (simp only []; omega))) _))); done)⟩
  | true =>
    rw [hf] at hF
    have hmid := few_mid hf
    have hT := Lib.hid (fun (w' : World) (u : Upd0 w w') => fit_w m limit q a n x cq ca cn cx w' (h.up u) hmid)
    clear hf h hb hmid
    by_cases hc : fitC m limit = 0
    · obtain ⟨A, e1, e2, e3, e4, e5⟩ := fit_ways hc
      rw [e1, e2, hc] at hT
      have hD := Lib.hid (fun (w' : World) => decode_enc A e3 w')
      have hmA := mid_ok (enc_ok e3)
      have hM := Lib.hid (fun (q a n x q' a' n' x' : Option Addr) (cq ca cn cx cq' ca' cn' cx' : Nat) (w' : World) (k : MsR w' A q a n x) (k' : MsR w' A q' a' n' x') => rsameM_w A q a n x q' a' n' x' cq ca cn cx cq' ca' cn' cx' w' k k' hmA)
      obtain ⟨S, hS⟩ : ∃ S, encS A = S := ⟨_, rfl⟩
      rw [hS] at hT hD e4
      have e6 : ¬ limit < (S.length : Int) := by omega
      clear e1 e2 e3 e4 hmA hS hc
      obtain ⟨id, re, op, au, tr, wa, av, rc, qs, an, ns, ex, sz⟩ := m
      rcases e5 with ⟨k, rfl⟩ | rfl
      · simp only [Msg.tk] at hT hD hM
        have hlx : (ex.take k).length ≤ ex.length := by simp; omega
        obtain ⟨ey, hey⟩ : ∃ ey, ex.take k = ey := ⟨_, rfl⟩
        rw [hey] at hT hD hM hlx
        have hlx2 : ¬ (ex.length : Int) < (ey.length : Int) := by omega
        have hlx3 : ¬ ex.length < ey.length := by omega
        clear hey hlx
        simp only [Msg.val] at hF hT hD hM ⊢
        cases tr
        all_goals
          go_enter Try.func14, Try.ntmps14
          go_wp2_with (first
            | (go_at_call 15; (with_reducible refine (hF.out _ (by (repeat (first | (with_reducible exact Upd.refl _ _) | (with_reducible assumption) | (with_reducible apply Upd.drew) | (with_reducible apply Upd.alloc) | (refine Upd0.tr ?_ (by with_reducible assumption)) | (refine Upd.setCell ?_ (fun h => absurd h (by first | exact Nat.lt_irrefl _ | (simp only []; omega))) _))); done)).use ?_); rintro v w1 ⟨rfl, hu1⟩; have L1 := Lib.hid (show w1.heap[w.heap.size]? = some (.cells #[.int .i64 id, .bool re, .int .i64 op, .bool au, .bool _, .bool wa, .bool av, .int .i64 rc, .slice q qs.length cq, .slice a an.length ca, .slice n ns.length cn, .slice x ex.length cx, .int .i64 sz] 25 (0, 0)) from hu1.block (fun h => h) (alloc_last _ _ _ rfl)); obtain ⟨m10, m11, m12, m13, m14, m15, m16, m17, m18, m19, m1A, m1B, m1C⟩ := cell13w L1.out; have hl1 := blk_lt L1.out)
            | (go_at_call 29; (with_reducible refine (hT.out _ (by (repeat (first | (with_reducible exact Upd.refl _ _) | (with_reducible assumption) | (with_reducible apply Upd.drew) | (with_reducible apply Upd.alloc) | (refine Upd0.tr ?_ (by with_reducible assumption)) | (refine Upd.setCell ?_ (fun h => absurd h (by first | exact Nat.lt_irrefl _ | (simp only []; omega))) _))); done)).use ?_); rintro v w2 ⟨q2, a2, n2, x2, cq2, ca2, cn2, cx2, rfl, hr2, hu2⟩; have hr2h := Lib.hid hr2; clear hr2; have L2 := Lib.hid (show w2.heap[w.heap.size]? = some (.cells #[.int .i64 id, .bool re, .int .i64 op, .bool au, .bool _, .bool wa, .bool av, .int .i64 rc, .slice q qs.length cq, .slice a an.length ca, .slice n ns.length cn, .slice x ex.length cx, .int .i64 sz] 25 (0, 0)) from (show Upd0 w1 w2 from (by (repeat (first | (with_reducible exact Upd.refl _ _) | (with_reducible assumption) | (with_reducible apply Upd.drew) | (with_reducible apply Upd.alloc) | (refine Upd0.tr ?_ (by with_reducible assumption)) | (refine Upd.setCell ?_ (fun h => absurd h (by first | exact Nat.lt_irrefl _ | (simp only []; omega))) _))); done)).block (fun h => h) L1.out); obtain ⟨m20, m21, m22, m23, m24, m25, m26, m27, m28, m29, m2A, m2B, m2C⟩ := cell13w L2.out; have hl2 := blk_lt L2.out)
            | (go_at_call 23; (with_reducible refine (hD.out _).use ?_); rintro v w3 ⟨q3, a3, n3, x3, cq3, ca3, cn3, cx3, rfl, hr3, hu3⟩; have hr3h := Lib.hid hr3; clear hr3; have L3 := Lib.hid (show w3.heap[w.heap.size]? = some (.cells #[.int .i64 id, .bool re, .int .i64 op, .bool au, .bool _, .bool wa, .bool av, .int .i64 rc, .slice q qs.length cq, .slice a an.length ca, .slice n ns.length cn, .slice x ex.length cx, .int .i64 sz] 25 (0, 0)) from (show Upd0 w2 w3 from (by (repeat (first | (with_reducible exact Upd.refl _ _) | (with_reducible assumption) | (with_reducible apply Upd.drew) | (with_reducible apply Upd.alloc) | (refine Upd0.tr ?_ (by with_reducible assumption)) | (refine Upd.setCell ?_ (fun h => absurd h (by first | exact Nat.lt_irrefl _ | (simp only []; omega))) _))); done)).block (fun h => h) L2.out); obtain ⟨m30, m31, m32, m33, m34, m35, m36, m37, m38, m39, m3A, m3B, m3C⟩ := cell13w L3.out; have hl3 := blk_lt L3.out; have K3 := Lib.hid (show w3.heap[w2.heap.size]? = some (.cells #[.int .i64 id, .bool re, .int .i64 op, .bool au, .bool _, .bool wa, .bool av, .int .i64 rc, .slice q2 qs.length cq2, .slice a2 an.length ca2, .slice n2 ns.length cn2, .slice x2 ey.length cx2, .int .i64 sz] 25 (0, 0)) from hu3.block (fun h => h) (alloc_last _ _ _ rfl)); obtain ⟨k30, k31, k32, k33, k34, k35, k36, k37, k38, k39, k3A, k3B, k3C⟩ := cell13w K3.out; have hk3 := blk_lt K3.out)
            | (go_at_call 22; (with_reducible refine (hM.out _ _ _ _ _ _ _ _ _ _ _ _ _ _ _ _ _ (hr3h.out.up (by (repeat (first | (with_reducible exact Upd.refl _ _) | (with_reducible assumption) | (with_reducible apply Upd.drew) | (with_reducible apply Upd.alloc) | (refine Upd0.tr ?_ (by with_reducible assumption)) | (refine Upd.setCell ?_ (fun h => absurd h (by first | exact Nat.lt_irrefl _ | (simp only []; omega))) _))); done)) (hr2h.out.up (by (repeat (first | (with_reducible exact Upd.refl _ _) | (with_reducible assumption) | (with_reducible apply Upd.drew) | (with_reducible apply Upd.alloc) | (refine Upd0.tr ?_ (by with_reducible assumption)) | (refine Upd.setCell ?_ (fun h => absurd h (by first | exact Nat.lt_irrefl _ | (simp only []; omega))) _))); done))).use ?_); rintro v w4 ⟨rfl, hu4⟩; have L4 := Lib.hid (show w4.heap[w.heap.size]? = some (.cells #[.int .i64 id, .bool re, .int .i64 op, .bool au, .bool _, .bool wa, .bool av, .int .i64 rc, .slice q qs.length cq, .slice a an.length ca, .slice n ns.length cn, .slice x ex.length cx, .int .i64 sz] 25 (0, 0)) from (show Upd0 w3 w4 from (by (repeat (first | (with_reducible exact Upd.refl _ _) | (with_reducible assumption) | (with_reducible apply Upd.drew) | (with_reducible apply Upd.alloc) | (refine Upd0.tr ?_ (by with_reducible assumption)) | (refine Upd.setCell ?_ (fun h => absurd h (by first | exact Nat.lt_irrefl _ | (simp only []; omega))) _))); done)).block (fun h => h) L3.out); obtain ⟨m40, m41, m42, m43, m44, m45, m46, m47, m48, m49, m4A, m4B, m4C⟩ := cell13w L4.out; have hl4 := blk_lt L4.out; have K4 := Lib.hid (show w4.heap[w2.heap.size]? = some (.cells #[.int .i64 id, .bool re, .int .i64 op, .bool au, .bool _, .bool wa, .bool av, .int .i64 rc, .slice q2 qs.length cq2, .slice a2 an.length ca2, .slice n2 ns.length cn2, .slice x2 ey.length cx2, .int .i64 sz] 25 (0, 0)) from (show Upd0 w3 w4 from (by (repeat (first | (with_reducible exact Upd.refl _ _) | (with_reducible assumption) | (with_reducible apply Upd.drew) | (with_reducible apply Upd.alloc) | (refine Upd0.tr ?_ (by with_reducible assumption)) | (refine Upd.setCell ?_ (fun h => absurd h (by first | exact Nat.lt_irrefl _ | (simp only []; omega))) _))); done)).block (fun h => h) K3.out); obtain ⟨k40, k41, k42, k43, k44, k45, k46, k47, k48, k49, k4A, k4B, k4C⟩ := cell13w K4.out; have hk4 := blk_lt K4.out)
            | (go_at_call 28; (with_reducible refine (flive_w _).use ?_); rintro v wL ⟨rfl, huL⟩)
            | (with_reducible refine wp_serial (by kernel_rfl) (by kernel_rfl) (by (repeat (first | (with_reducible apply NoBad.then) | (with_reducible apply NoBad.inBlock) | (with_reducible apply NoBad.jump) | (with_reducible exact NoBad.rets))); done) ?_) | fail)
          all_goals (try go_returns)
          all_goals exact ⟨rfl, (by (repeat (first | (with_reducible exact Upd.refl _ _) | (with_reducible assumption) | (with_reducible apply Upd.drew) | (with_reducible apply Upd.alloc) | (refine Upd0.tr ?_ (by with_reducible assumption)) | (refine Upd.setCell ?_ (fun h => absurd h (by first | exact Nat.lt_irrefl _ | (simp only []; omega))) _))); done)⟩
      · simp only [Msg.cut] at hT hD hM
        simp only [Msg.val, List.length_nil] at hF hT hD hM ⊢
        go_enter Try.func14, Try.ntmps14
        go_wp2_with (first
          | (go_at_call 15; (with_reducible refine (hF.out _ (by (repeat (first | (with_reducible exact Upd.refl _ _) | (with_reducible assumption) | (with_reducible apply Upd.drew) | (with_reducible apply Upd.alloc) | (refine Upd0.tr ?_ (by with_reducible assumption)) | (refine Upd.setCell ?_ (fun h => absurd h (by first | exact Nat.lt_irrefl _ | (simp only []; omega))) _))); done)).use ?_); rintro v w1 ⟨rfl, hu1⟩; have L1 := Lib.hid (show w1.heap[w.heap.size]? = some (.cells #[.int .i64 id, .bool re, .int .i64 op, .bool au, .bool tr, .bool wa, .bool av, .int .i64 rc, .slice q qs.length cq, .slice a an.length ca, .slice n ns.length cn, .slice x ex.length cx, .int .i64 sz] 25 (0, 0)) from hu1.block (fun h => h) (alloc_last _ _ _ rfl)); obtain ⟨m10, m11, m12, m13, m14, m15, m16, m17, m18, m19, m1A, m1B, m1C⟩ := cell13w L1.out; have hl1 := blk_lt L1.out)
          | (go_at_call 29; (with_reducible refine (hT.out _ (by (repeat (first | (with_reducible exact Upd.refl _ _) | (with_reducible assumption) | (with_reducible apply Upd.drew) | (with_reducible apply Upd.alloc) | (refine Upd0.tr ?_ (by with_reducible assumption)) | (refine Upd.setCell ?_ (fun h => absurd h (by first | exact Nat.lt_irrefl _ | (simp only []; omega))) _))); done)).use ?_); rintro v w2 ⟨q2, a2, n2, x2, cq2, ca2, cn2, cx2, rfl, hr2, hu2⟩; have hr2h := Lib.hid hr2; clear hr2; have L2 := Lib.hid (show w2.heap[w.heap.size]? = some (.cells #[.int .i64 id, .bool re, .int .i64 op, .bool au, .bool tr, .bool wa, .bool av, .int .i64 rc, .slice q qs.length cq, .slice a an.length ca, .slice n ns.length cn, .slice x ex.length cx, .int .i64 sz] 25 (0, 0)) from (show Upd0 w1 w2 from (by (repeat (first | (with_reducible exact Upd.refl _ _) | (with_reducible assumption) | (with_reducible apply Upd.drew) | (with_reducible apply Upd.alloc) | (refine Upd0.tr ?_ (by with_reducible assumption)) | (refine Upd.setCell ?_ (fun h => absurd h (by first | exact Nat.lt_irrefl _ | (simp only []; omega))) _))); done)).block (fun h => h) L1.out); obtain ⟨m20, m21, m22, m23, m24, m25, m26, m27, m28, m29, m2A, m2B, m2C⟩ := cell13w L2.out; have hl2 := blk_lt L2.out)
          | (go_at_call 23; (with_reducible refine (hD.out _).use ?_); rintro v w3 ⟨q3, a3, n3, x3, cq3, ca3, cn3, cx3, rfl, hr3, hu3⟩; have hr3h := Lib.hid hr3; clear hr3; have L3 := Lib.hid (show w3.heap[w.heap.size]? = some (.cells #[.int .i64 id, .bool re, .int .i64 op, .bool au, .bool tr, .bool wa, .bool av, .int .i64 rc, .slice q qs.length cq, .slice a an.length ca, .slice n ns.length cn, .slice x ex.length cx, .int .i64 sz] 25 (0, 0)) from (show Upd0 w2 w3 from (by (repeat (first | (with_reducible exact Upd.refl _ _) | (with_reducible assumption) | (with_reducible apply Upd.drew) | (with_reducible apply Upd.alloc) | (refine Upd0.tr ?_ (by with_reducible assumption)) | (refine Upd.setCell ?_ (fun h => absurd h (by first | exact Nat.lt_irrefl _ | (simp only []; omega))) _))); done)).block (fun h => h) L2.out); obtain ⟨m30, m31, m32, m33, m34, m35, m36, m37, m38, m39, m3A, m3B, m3C⟩ := cell13w L3.out; have hl3 := blk_lt L3.out; have K3 := Lib.hid (show w3.heap[w2.heap.size]? = some (.cells #[.int .i64 id, .bool re, .int .i64 op, .bool au, .bool true, .bool wa, .bool av, .int .i64 rc, .slice q2 qs.length cq2, .slice a2 0 ca2, .slice n2 0 cn2, .slice x2 0 cx2, .int .i64 sz] 25 (0, 0)) from hu3.block (fun h => h) (alloc_last _ _ _ rfl)); obtain ⟨k30, k31, k32, k33, k34, k35, k36, k37, k38, k39, k3A, k3B, k3C⟩ := cell13w K3.out; have hk3 := blk_lt K3.out)
          | (go_at_call 22; (with_reducible refine (hM.out _ _ _ _ _ _ _ _ _ _ _ _ _ _ _ _ _ (hr3h.out.up (by (repeat (first | (with_reducible exact Upd.refl _ _) | (with_reducible assumption) | (with_reducible apply Upd.drew) | (with_reducible apply Upd.alloc) | (refine Upd0.tr ?_ (by with_reducible assumption)) | (refine Upd.setCell ?_ (fun h => absurd h (by first | exact Nat.lt_irrefl _ | (simp only []; omega))) _))); done)) (hr2h.out.up (by (repeat (first | (with_reducible exact Upd.refl _ _) | (with_reducible assumption) | (with_reducible apply Upd.drew) | (with_reducible apply Upd.alloc) | (refine Upd0.tr ?_ (by with_reducible assumption)) | (refine Upd.setCell ?_ (fun h => absurd h (by first | exact Nat.lt_irrefl _ | (simp only []; omega))) _))); done))).use ?_); rintro v w4 ⟨rfl, hu4⟩; have L4 := Lib.hid (show w4.heap[w.heap.size]? = some (.cells #[.int .i64 id, .bool re, .int .i64 op, .bool au, .bool tr, .bool wa, .bool av, .int .i64 rc, .slice q qs.length cq, .slice a an.length ca, .slice n ns.length cn, .slice x ex.length cx, .int .i64 sz] 25 (0, 0)) from (show Upd0 w3 w4 from (by (repeat (first | (with_reducible exact Upd.refl _ _) | (with_reducible assumption) | (with_reducible apply Upd.drew) | (with_reducible apply Upd.alloc) | (refine Upd0.tr ?_ (by with_reducible assumption)) | (refine Upd.setCell ?_ (fun h => absurd h (by first | exact Nat.lt_irrefl _ | (simp only []; omega))) _))); done)).block (fun h => h) L3.out); obtain ⟨m40, m41, m42, m43, m44, m45, m46, m47, m48, m49, m4A, m4B, m4C⟩ := cell13w L4.out; have hl4 := blk_lt L4.out; have K4 := Lib.hid (show w4.heap[w2.heap.size]? = some (.cells #[.int .i64 id, .bool re, .int .i64 op, .bool au, .bool true, .bool wa, .bool av, .int .i64 rc, .slice q2 qs.length cq2, .slice a2 0 ca2, .slice n2 0 cn2, .slice x2 0 cx2, .int .i64 sz] 25 (0, 0)) from (show Upd0 w3 w4 from (by (repeat (first | (with_reducible exact Upd.refl _ _) | (with_reducible assumption) | (with_reducible apply Upd.drew) | (with_reducible apply Upd.alloc) | (refine Upd0.tr ?_ (by with_reducible assumption)) | (refine Upd.setCell ?_ (fun h => absurd h (by first | exact Nat.lt_irrefl _ | (simp only []; omega))) _))); done)).block (fun h => h) K3.out); obtain ⟨k40, k41, k42, k43, k44, k45, k46, k47, k48, k49, k4A, k4B, k4C⟩ := cell13w K4.out; have hk4 := blk_lt K4.out)
          | (go_at_call 28; (with_reducible refine (flive_w _).use ?_); rintro v wL ⟨rfl, huL⟩)
          | (with_reducible refine wp_serial (by kernel_rfl) (by kernel_rfl) (by (repeat (first | (with_reducible apply NoBad.then) | (with_reducible apply NoBad.inBlock) | (with_reducible apply NoBad.jump) | (with_reducible exact NoBad.rets))); done) ?_) | fail)
        all_goals (try go_returns)
        all_goals exact ⟨rfl, (by (repeat (first | (with_reducible exact Upd.refl _ _) | (with_reducible assumption) | (with_reducible apply Upd.drew) | (with_reducible apply Upd.alloc) | (refine Upd0.tr ?_ (by with_reducible assumption)) | (refine Upd.setCell ?_ (fun h => absurd h (by first | exact Nat.lt_irrefl _ | (simp only []; omega))) _))); done)⟩
    · have hS0 := fit_none hc
      have hc2 : (fitC m limit != 0) = true := bne_iff_ne.2 hc
      obtain ⟨c, hcc⟩ : ∃ c, fitC m limit = c := ⟨_, rfl⟩
      obtain ⟨M, hM⟩ : ∃ M, fitM m limit = M := ⟨_, rfl⟩
      rw [hcc, hS0, hM] at hT
      rw [hcc] at hc2
      clear hc hcc hS0 hM
      obtain ⟨id, re, op, au, tr, wa, av, rc, qs, an, ns, ex, sz⟩ := m
      obtain ⟨id2, re2, op2, au2, tr2, wa2, av2, rc2, qs2, an2, ns2, ex2, sz2⟩ := M
      simp only [Msg.val] at hF hT ⊢
      go_enter Try.func14, Try.ntmps14
      go_wp2_with (first
        | (go_at_call 15; (with_reducible refine (hF.out _ (by (repeat (first | (with_reducible exact Upd.refl _ _) | (with_reducible assumption) | (with_reducible apply Upd.drew) | (with_reducible apply Upd.alloc) | (refine Upd0.tr ?_ (by with_reducible assumption)) | (refine Upd.setCell ?_ (fun h => absurd h (by first | exact Nat.lt_irrefl _ | (simp only []; omega))) _))); done)).use ?_); rintro v w1 ⟨rfl, hu1⟩; have L1 := Lib.hid (show w1.heap[w.heap.size]? = some (.cells #[.int .i64 id, .bool re, .int .i64 op, .bool au, .bool tr, .bool wa, .bool av, .int .i64 rc, .slice q qs.length cq, .slice a an.length ca, .slice n ns.length cn, .slice x ex.length cx, .int .i64 sz] 25 (0, 0)) from hu1.block (fun h => h) (alloc_last _ _ _ rfl)); obtain ⟨m10, m11, m12, m13, m14, m15, m16, m17, m18, m19, m1A, m1B, m1C⟩ := cell13w L1.out; have hl1 := blk_lt L1.out)
        | (go_at_call 29; (with_reducible refine (hT.out _ (by (repeat (first | (with_reducible exact Upd.refl _ _) | (with_reducible assumption) | (with_reducible apply Upd.drew) | (with_reducible apply Upd.alloc) | (refine Upd0.tr ?_ (by with_reducible assumption)) | (refine Upd.setCell ?_ (fun h => absurd h (by first | exact Nat.lt_irrefl _ | (simp only []; omega))) _))); done)).use ?_); rintro v w2 ⟨q2, a2, n2, x2, cq2, ca2, cn2, cx2, rfl, hr2, hu2⟩; clear hr2; have L2 := Lib.hid (show w2.heap[w.heap.size]? = some (.cells #[.int .i64 id, .bool re, .int .i64 op, .bool au, .bool tr, .bool wa, .bool av, .int .i64 rc, .slice q qs.length cq, .slice a an.length ca, .slice n ns.length cn, .slice x ex.length cx, .int .i64 sz] 25 (0, 0)) from (show Upd0 w1 w2 from (by (repeat (first | (with_reducible exact Upd.refl _ _) | (with_reducible assumption) | (with_reducible apply Upd.drew) | (with_reducible apply Upd.alloc) | (refine Upd0.tr ?_ (by with_reducible assumption)) | (refine Upd.setCell ?_ (fun h => absurd h (by first | exact Nat.lt_irrefl _ | (simp only []; omega))) _))); done)).block (fun h => h) L1.out); obtain ⟨m20, m21, m22, m23, m24, m25, m26, m27, m28, m29, m2A, m2B, m2C⟩ := cell13w L2.out; have hl2 := blk_lt L2.out)
        | (go_at_call 28; (with_reducible refine (flive_w _).use ?_); rintro v wL ⟨rfl, huL⟩)
        | (with_reducible refine wp_serial (by kernel_rfl) (by kernel_rfl) (by (repeat (first | (with_reducible apply NoBad.then) | (with_reducible apply NoBad.inBlock) | (with_reducible apply NoBad.jump) | (with_reducible exact NoBad.rets))); done) ?_) | fail)
      all_goals (try go_returns)
      all_goals exact ⟨rfl, (by (repeat (first | (with_reducible exact Upd.refl _ _) | (with_reducible assumption) | (with_reducible apply Upd.drew) | (with_reducible apply Upd.alloc) | (refine Upd0.tr ?_ (by with_reducible assumption)) | (refine Upd.setCell ?_ (fun h => absurd h (by first | exact Nat.lt_irrefl _ | (simp only []; omega))) _))); done)⟩
end Go.Proofs.Ytgdejgfmhndbhaa
