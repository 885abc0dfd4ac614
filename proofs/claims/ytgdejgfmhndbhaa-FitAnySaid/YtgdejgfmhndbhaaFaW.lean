/-
  FitAny: the walk.
-/
import Derived.Test.YtgdejgfmhndbhaaFaA
import Derived.Test.YtgdejgfmhndbhaaFtY
import Derived.Test.YtgdejgfmhndbhaaFtL
import Derived.Test.YtgdejgfmhndbhaaSmM
import Derived.Test.YtgdejgfmhndbhaaMsE
import Derived.Test.YtgdejgfmhndbhaaMgR
namespace Go.Proofs.Ytgdejgfmhndbhaa
open Go.RowKit
set_option linter.unusedSimpArgs false
set_option linter.unusedVariables false
theorem fa_way {m : Msg} {limit : Int} : ∀ (n : Nat) (x : Msg), fitN m limit n = some x → (∃ k, x = m.tk k) ∨ x = m.cut
  | 0, x, h => by
    rw [fitN] at h
    split at h
    · exact .inl ⟨0, (Option.some.inj h).symm⟩
    · split at h
      · exact .inr (Option.some.inj h).symm
      · cases h
  | n + 1, x, h => by
    rw [fitN] at h
    split at h
    · exact .inl ⟨n + 1, (Option.some.inj h).symm⟩
    · exact fa_way n x h
theorem mid_zero : Mid msgZ := ⟨⟨Nat.zero_le _, fun r hr => by cases hr⟩, ⟨Nat.zero_le _, fun r hr => by cases hr⟩, ⟨Nat.zero_le _, fun r hr => by cases hr⟩, ⟨Nat.zero_le _, fun r hr => by cases hr⟩⟩
theorem mid_fitM {m : Msg} (hm : Mid m) (limit : Int) : Mid (fitM m limit) := by
  unfold fitM fitR
  split
  · cases hN : fitN m limit m.ex.length with
    | none => exact mid_zero
    | some A =>
      rcases fa_way _ _ hN with ⟨k, rfl⟩ | rfl
      · exact mid_tk hm k
      · exact mid_cut hm
  · exact mid_zero
set_option maxRecDepth 100000 in
set_option maxHeartbeats 8000000 in
theorem fitAny_walk (m : Msg) (q a n x : Option Addr) (cq ca cn cx : Nat) (limit : Int) (w : World) (h : MsR w m q a n x) (hb : m.big) :
    Calls Try.prog 11 #[m.val q a n x cq ca cn cx, .int .i64 limit] w (Rets fun r w' => r = .bool true ∧ Upd0 w w') := by
  have hF := Lib.hid (fun (w' : World) (u : Upd0 w w') => few_w m q a n x cq ca cn cx w' (h.up u) hb)
  cases hf : fewB m with
  | false =>
    rw [hf] at hF
    clear hf h hb
    obtain ⟨id, re, op, au, tr, wa, av, rc, qs, an, ns, ex, sz⟩ := m
    simp only [Msg.val] at hF ⊢
    go_enter Try.func11, Try.ntmps11
    go_wp2_with (first
      | (go_at_call 15; (with_reducible refine (hF.out _ (by repeat first | with_reducible (first | exact Upd.refl _ _ | assumption | apply Upd.drew | apply Upd.alloc) | refine Upd0.tr ?_ (by with_reducible assumption) | refine Upd.setCell ?_ (fun h => absurd h (by first | exact Nat.lt_irrefl _ | (simp only []; omega))) _)).use ?_); rintro v w1 ⟨rfl, hu1⟩; have L1 := Lib.hid (show w1.heap[w.heap.size]? = some (.cells #[.int .i64 id, .bool re, .int .i64 op, .bool au, .bool tr, .bool wa, .bool av, .int .i64 rc, .slice q qs.length cq, .slice a an.length ca, .slice n ns.length cn, .slice x ex.length cx, .int .i64 sz] 25 (0, 0)) from hu1.block (fun h => h) (alloc_last _ _ _ rfl)); obtain ⟨m10, m11, m12, m13, m14, m15, m16, m17, m18, m19, m1A, m1B, m1C⟩ := cell13w L1.out; have hl1 := blk_lt L1.out)
      | (go_at_call 28; (with_reducible refine (flive_w _).use ?_); rintro v wL ⟨rfl, huL⟩)
      | (with_reducible refine wp_serial (by kernel_rfl) (by kernel_rfl) (by repeat with_reducible (first | apply NoBad.then | apply NoBad.inBlock | apply NoBad.jump | exact NoBad.rets)) ?_) | fail)
    all_goals (try go_returns)
    all_goals exact ⟨rfl, (by repeat first | with_reducible (first | exact Upd.refl _ _ | assumption | apply Upd.drew | apply Upd.alloc) | refine Upd0.tr ?_ (by with_reducible assumption) | refine Upd.setCell ?_ (fun h => absurd h (by first | exact Nat.lt_irrefl _ | (simp only []; omega))) _)⟩
  | true =>
    rw [hf] at hF
    have hmid := few_mid hf
    have hCp := Lib.hid (fun (w' : World) (u : Upd0 w w') => copy_w m q a n x cq ca cn cx w' (h.up u) hmid)
    have hT := Lib.hid (fun (q a n x : Option Addr) (cq ca cn cx : Nat) (w' : World) (k : MsR w' m q a n x) => fit_w m limit q a n x cq ca cn cx w' k hmid)
    have hR := Lib.hid (fun (w' : World) (u : Upd0 w w') => rfit_w m limit q a n x cq ca cn cx w' (h.up u) hmid)
    have hmA := mid_fitM hmid limit
    unfold FitQ at hR
    obtain ⟨A, hA⟩ : ∃ A, fitM m limit = A := ⟨_, rfl⟩
    obtain ⟨S, hS⟩ : ∃ S, fitS m limit = S := ⟨_, rfl⟩
    obtain ⟨c, hc⟩ : ∃ c, fitC m limit = c := ⟨_, rfl⟩
    rw [hA, hS, hc] at hT hR
    rw [hA] at hmA
    have hM := Lib.hid (fun (q a n x q' a' n' x' : Option Addr) (cq ca cn cx cq' ca' cn' cx' : Nat) (w' : World) (k : MsR w' A q a n x) (k' : MsR w' A q' a' n' x') => rsameM_w A q a n x q' a' n' x' cq ca cn cx cq' ca' cn' cx' w' k k' hmA)
    have hM0 := Lib.hid (fun (q' a' n' x' : Option Addr) (cq' ca' cn' cx' : Nat) (w' : World) (k' : MsR w' m q' a' n' x') (u : Upd0 w w') => rsameM_w m q' a' n' x' q a n x cq' ca' cn' cx' cq ca cn cx w' k' (h.up u) hmid)
    clear hf h hb hmid hA hS hc hmA
    obtain ⟨id, re, op, au, tr, wa, av, rc, qs, an, ns, ex, sz⟩ := m
    obtain ⟨id', re', op', au', tr', wa', av', rc', qs', an', ns', ex', sz'⟩ := A
    simp only [Msg.val] at hF hCp hT hR hM hM0 ⊢
    have tk1 : True := trivial
    go_enter Try.func11, Try.ntmps11
    go_wp2_with (first
      | (go_at_call 15; (with_reducible refine (hF.out _ (by repeat first | with_reducible (first | exact Upd.refl _ _ | assumption | apply Upd.drew | apply Upd.alloc) | refine Upd0.tr ?_ (by with_reducible assumption) | refine Upd.setCell ?_ (fun h => absurd h (by first | exact Nat.lt_irrefl _ | (simp only []; omega))) _)).use ?_); rintro v w1 ⟨rfl, hu1⟩; have L1 := Lib.hid (show w1.heap[w.heap.size]? = some (.cells #[.int .i64 id, .bool re, .int .i64 op, .bool au, .bool tr, .bool wa, .bool av, .int .i64 rc, .slice q qs.length cq, .slice a an.length ca, .slice n ns.length cn, .slice x ex.length cx, .int .i64 sz] 25 (0, 0)) from hu1.block (fun h => h) (alloc_last _ _ _ rfl)); obtain ⟨m10, m11, m12, m13, m14, m15, m16, m17, m18, m19, m1A, m1B, m1C⟩ := cell13w L1.out; have hl1 := blk_lt L1.out)
      | (go_at_call 17; (with_reducible refine (hCp.out _ (by repeat first | with_reducible (first | exact Upd.refl _ _ | assumption | apply Upd.drew | apply Upd.alloc) | refine Upd0.tr ?_ (by with_reducible assumption) | refine Upd.setCell ?_ (fun h => absurd h (by first | exact Nat.lt_irrefl _ | (simp only []; omega))) _)).use ?_); rintro v w2 ⟨q2, a2, n2, x2, cq2, ca2, cn2, cx2, rfl, hr2, hu2, _⟩; have hr2h := Lib.hid hr2; clear hr2; have L2 := Lib.hid (show w2.heap[w.heap.size]? = some (.cells #[.int .i64 id, .bool re, .int .i64 op, .bool au, .bool tr, .bool wa, .bool av, .int .i64 rc, .slice q qs.length cq, .slice a an.length ca, .slice n ns.length cn, .slice x ex.length cx, .int .i64 sz] 25 (0, 0)) from (show Upd0 w1 w2 from (by repeat first | with_reducible (first | exact Upd.refl _ _ | assumption | apply Upd.drew | apply Upd.alloc) | refine Upd0.tr ?_ (by with_reducible assumption) | refine Upd.setCell ?_ (fun h => absurd h (by first | exact Nat.lt_irrefl _ | (simp only []; omega))) _)).block (fun h => h) L1.out); obtain ⟨l2_0, l2_1, l2_2, l2_3, l2_4, l2_5, l2_6, l2_7, l2_8, l2_9, l2_A, l2_B, l2_C⟩ := cell13w L2.out; have hlL2 := blk_lt L2.out)
      | (go_at_call 29; refine Calls.use (hT.out q2 a2 n2 x2 cq2 ca2 cn2 cx2 _ (hr2h.out.up (by repeat first | with_reducible (first | exact Upd.refl _ _ | assumption | apply Upd.drew | apply Upd.alloc) | refine Upd0.tr ?_ (by with_reducible assumption) | refine Upd.setCell ?_ (fun h => absurd h (by first | exact Nat.lt_irrefl _ | (simp only []; omega))) _))) ?_; rintro v w3 ⟨q3, a3, n3, x3, cq3, ca3, cn3, cx3, rfl, hr3, hu3⟩; have hr3h := Lib.hid hr3; clear hr3; have U23 : Upd0 w2 w3 := (by repeat first | with_reducible (first | exact Upd.refl _ _ | assumption | apply Upd.drew | apply Upd.alloc) | refine Upd0.tr ?_ (by with_reducible assumption) | refine Upd.setCell ?_ (fun h => absurd h (by first | exact Nat.lt_irrefl _ | (simp only []; omega))) _); have U3 : Upd0 w w3 := (by repeat first | with_reducible (first | exact Upd.refl _ _ | assumption | apply Upd.drew | apply Upd.alloc) | refine Upd0.tr ?_ (by with_reducible assumption) | refine Upd.setCell ?_ (fun h => absurd h (by first | exact Nat.lt_irrefl _ | (simp only []; omega))) _); have L3 := Lib.hid (show w3.heap[w.heap.size]? = some (.cells #[.int .i64 id, .bool re, .int .i64 op, .bool au, .bool tr, .bool wa, .bool av, .int .i64 rc, .slice q qs.length cq, .slice a an.length ca, .slice n ns.length cn, .slice x ex.length cx, .int .i64 sz] 25 (0, 0)) from hu3.block (fun h => h) (blk_alloc L2.out)); obtain ⟨l3_0, l3_1, l3_2, l3_3, l3_4, l3_5, l3_6, l3_7, l3_8, l3_9, l3_A, l3_B, l3_C⟩ := cell13w L3.out; have hlL3 := blk_lt L3.out; have O3 := Lib.hid (show w3.heap[w2.heap.size]? = some (.cells #[.int .i64 id, .bool re, .int .i64 op, .bool au, .bool tr, .bool wa, .bool av, .int .i64 rc, .slice q2 qs.length cq2, .slice a2 an.length ca2, .slice n2 ns.length cn2, .slice x2 ex.length cx2, .int .i64 sz] 25 (0, 0)) from hu3.block (fun h => h) (alloc_last _ _ _ rfl)); obtain ⟨o3_0, o3_1, o3_2, o3_3, o3_4, o3_5, o3_6, o3_7, o3_8, o3_9, o3_A, o3_B, o3_C⟩ := cell13w O3.out; have hlO3 := blk_lt O3.out)
      | (go_at_call 30; (with_reducible refine (hR.out _ (by repeat first | with_reducible (first | exact Upd.refl _ _ | assumption | apply Upd.drew | apply Upd.alloc) | refine Upd0.tr ?_ (by with_reducible assumption) | refine Upd.setCell ?_ (fun h => absurd h (by first | exact Nat.lt_irrefl _ | (simp only []; omega))) _)).use ?_); rintro v w4 ⟨q4, a4, n4, x4, cq4, ca4, cn4, cx4, rfl, hr4, hu4⟩; have hr4h := Lib.hid hr4; clear hr4; have U4 : Upd0 w3 w4 := (by repeat first | with_reducible (first | exact Upd.refl _ _ | assumption | apply Upd.drew | apply Upd.alloc) | refine Upd0.tr ?_ (by with_reducible assumption) | refine Upd.setCell ?_ (fun h => absurd h (by first | exact Nat.lt_irrefl _ | (simp only []; omega))) _); have L4 := Lib.hid (show w4.heap[w.heap.size]? = some (.cells #[.int .i64 id, .bool re, .int .i64 op, .bool au, .bool tr, .bool wa, .bool av, .int .i64 rc, .slice q qs.length cq, .slice a an.length ca, .slice n ns.length cn, .slice x ex.length cx, .int .i64 sz] 25 (0, 0)) from hu4.block (fun h => h) (blk_alloc L3.out)); obtain ⟨l4_0, l4_1, l4_2, l4_3, l4_4, l4_5, l4_6, l4_7, l4_8, l4_9, l4_A, l4_B, l4_C⟩ := cell13w L4.out; have hlL4 := blk_lt L4.out; have O4 := Lib.hid (show w4.heap[w2.heap.size]? = some (.cells #[.int .i64 id, .bool re, .int .i64 op, .bool au, .bool tr, .bool wa, .bool av, .int .i64 rc, .slice q2 qs.length cq2, .slice a2 an.length ca2, .slice n2 ns.length cn2, .slice x2 ex.length cx2, .int .i64 sz] 25 (0, 0)) from hu4.block (fun h => h) (blk_alloc O3.out)); obtain ⟨o4_0, o4_1, o4_2, o4_3, o4_4, o4_5, o4_6, o4_7, o4_8, o4_9, o4_A, o4_B, o4_C⟩ := cell13w O4.out; have hlO4 := blk_lt O4.out; have A4 := Lib.hid (show w4.heap[w3.heap.size]? = some (.cells #[.int .i64 id', .bool re', .int .i64 op', .bool au', .bool tr', .bool wa', .bool av', .int .i64 rc', .slice q3 qs'.length cq3, .slice a3 an'.length ca3, .slice n3 ns'.length cn3, .slice x3 ex'.length cx3, .int .i64 sz'] 25 (0, 0)) from hu4.block (fun h => h) (alloc_last _ _ _ rfl)); obtain ⟨a4_0, a4_1, a4_2, a4_3, a4_4, a4_5, a4_6, a4_7, a4_8, a4_9, a4_A, a4_B, a4_C⟩ := cell13w A4.out; have hlA4 := blk_lt A4.out)
      | (go_at_call 22; have _t := tk1; refine Calls.use (hM.out q3 a3 n3 x3 q4 a4 n4 x4 cq3 ca3 cn3 cx3 cq4 ca4 cn4 cx4 _ ((hr3h.out.up U4).up (by repeat first | with_reducible (first | exact Upd.refl _ _ | assumption | apply Upd.drew | apply Upd.alloc) | refine Upd0.tr ?_ (by with_reducible assumption) | refine Upd.setCell ?_ (fun h => absurd h (by first | exact Nat.lt_irrefl _ | (simp only []; omega))) _)) (hr4h.out.up (by repeat first | with_reducible (first | exact Upd.refl _ _ | assumption | apply Upd.drew | apply Upd.alloc) | refine Upd0.tr ?_ (by with_reducible assumption) | refine Upd.setCell ?_ (fun h => absurd h (by first | exact Nat.lt_irrefl _ | (simp only []; omega))) _))) ?_; rintro v w5 ⟨rfl, hu5⟩; have U5 : Upd0 w4 w5 := (by repeat first | with_reducible (first | exact Upd.refl _ _ | assumption | apply Upd.drew | apply Upd.alloc) | refine Upd0.tr ?_ (by with_reducible assumption) | refine Upd.setCell ?_ (fun h => absurd h (by first | exact Nat.lt_irrefl _ | (simp only []; omega))) _); have L5 := Lib.hid (show w5.heap[w.heap.size]? = some (.cells #[.int .i64 id, .bool re, .int .i64 op, .bool au, .bool tr, .bool wa, .bool av, .int .i64 rc, .slice q qs.length cq, .slice a an.length ca, .slice n ns.length cn, .slice x ex.length cx, .int .i64 sz] 25 (0, 0)) from hu5.block (fun h => h) (blk_alloc L4.out)); obtain ⟨l5_0, l5_1, l5_2, l5_3, l5_4, l5_5, l5_6, l5_7, l5_8, l5_9, l5_A, l5_B, l5_C⟩ := cell13w L5.out; have hlL5 := blk_lt L5.out; have O5 := Lib.hid (show w5.heap[w2.heap.size]? = some (.cells #[.int .i64 id, .bool re, .int .i64 op, .bool au, .bool tr, .bool wa, .bool av, .int .i64 rc, .slice q2 qs.length cq2, .slice a2 an.length ca2, .slice n2 ns.length cn2, .slice x2 ex.length cx2, .int .i64 sz] 25 (0, 0)) from hu5.block (fun h => h) (blk_alloc O4.out)); obtain ⟨o5_0, o5_1, o5_2, o5_3, o5_4, o5_5, o5_6, o5_7, o5_8, o5_9, o5_A, o5_B, o5_C⟩ := cell13w O5.out; have hlO5 := blk_lt O5.out; clear tk1 _t)
      | (go_at_call 22; refine Calls.use (hM0.out q2 a2 n2 x2 cq2 ca2 cn2 cx2 _ ((((hr2h.out.up U23).up U4).up U5).up (by repeat first | with_reducible (first | exact Upd.refl _ _ | assumption | apply Upd.drew | apply Upd.alloc) | refine Upd0.tr ?_ (by with_reducible assumption) | refine Upd.setCell ?_ (fun h => absurd h (by first | exact Nat.lt_irrefl _ | (simp only []; omega))) _)) (show Upd0 w _ from ((U3.tr U4).tr U5).tr (by repeat first | with_reducible (first | exact Upd.refl _ _ | assumption | apply Upd.drew | apply Upd.alloc) | refine Upd0.tr ?_ (by with_reducible assumption) | refine Upd.setCell ?_ (fun h => absurd h (by first | exact Nat.lt_irrefl _ | (simp only []; omega))) _))) ?_; rintro v w6 ⟨rfl, hu6⟩)
      | (go_at_call 28; (with_reducible refine (flive_w _).use ?_); rintro v wL ⟨rfl, huL⟩)
      | (with_reducible refine wp_serial (by kernel_rfl) (by kernel_rfl) (by repeat with_reducible (first | apply NoBad.then | apply NoBad.inBlock | apply NoBad.jump | exact NoBad.rets)) ?_) | fail)
    all_goals (try go_returns)
    all_goals exact ⟨rfl, show Upd0 w _ from ((U3.tr U4).tr U5).tr (by repeat first | with_reducible (first | exact Upd.refl _ _ | assumption | apply Upd.drew | apply Upd.alloc) | refine Upd0.tr ?_ (by with_reducible assumption) | refine Upd.setCell ?_ (fun h => absurd h (by first | exact Nat.lt_irrefl _ | (simp only []; omega))) _)⟩
end Go.Proofs.Ytgdejgfmhndbhaa
