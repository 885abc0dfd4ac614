/-
  WireShort: the walk.
-/
import Derived.Test.YtgdejgfmhndbhaaDeL
import Derived.Test.YtgdejgfmhndbhaaMsE
import Derived.Test.YtgdejgfmhndbhaaMgR
namespace Go.Proofs.Ytgdejgfmhndbhaa
open Go.RowKit
set_option linter.unusedSimpArgs false
set_option linter.unusedVariables false
/-- what Decode tells of bytes that are no message -/
theorem decode_bad (s : Bs) (e : Int) (he : (dcE s).e = e) (h0 : ¬ e = 0) (hl : s.length ≤ 70000) (w : World) : Calls Try.prog 23 #[.string ⟨s.toArray⟩] w (Rets fun r w' => ∃ q a n x cq ca cn cx, r = .tuple #[.agg #[.int .i64 0, .bool false, .int .i64 0, .bool false, .bool false, .bool false, .bool false, .int .i64 0, .slice q 0 cq, .slice a 0 ca, .slice n 0 cn, .slice x 0 cx, .int .i64 0], .int .i64 e] ∧ Upd0 w w') := by
  have := decode_w s w hl
  unfold DecQ at this
  rw [decM, if_neg (by rw [he]; exact h0), he] at this
  refine this.use ?_
  rintro v w' ⟨q, a, n, x, cq, ca, cn, cx, rfl, _, hu⟩
  exact ⟨q, a, n, x, cq, ca, cn, cx, rfl, hu⟩
theorem dec_take {m : Msg} (hC : encC m = 0) {k : Nat} (hk : k < (encS m).length) : (dcE ((encS m).take k)).e = 3 := by
  obtain ⟨_, _, _, _, h5⟩ := dec_enc (enc_ok hC) hC
  refine dcE_cut (t := (encS m).drop k) ?_ ?_
  · intro h
    have := congrArg List.length h
    simp at this; omega
  · rw [List.take_append_drop]; exact h5
theorem dec_more {m : Msg} (hC : encC m = 0) : (dcE (encS m ++ [0])).e = 2 := by
  obtain ⟨_, _, _, _, h5⟩ := dec_enc (enc_ok hC) hC
  exact dcE_app h5
/-- where the bytes are cut -/
def cutK (cut : Int) (n : Nat) : Nat := (if cut < 0 then -(cut + 1) else cut).toNat % n
theorem cutK_lt (cut : Int) {n : Nat} (h : 12 ≤ n) : cutK cut n < n := Nat.mod_lt _ (by omega)
theorem cutK_pos {cut : Int} {n : Nat} (h : ¬ cut < 0) (hn : 12 ≤ n) : Int.tmod cut (n : Int) = (cutK cut n : Nat) := by
  rw [cutK, if_neg h, Int.tmod_eq_emod_of_nonneg (by omega), Int.natCast_emod, Int.toNat_of_nonneg (by omega)]
theorem cutK_neg {cut : Int} {n : Nat} (h : cut < 0) (hn : 12 ≤ n) : Int.tmod (-(cut + 1)) (n : Int) = (cutK cut n : Nat) := by
  rw [cutK, if_pos h, Int.tmod_eq_emod_of_nonneg (by omega), Int.natCast_emod, Int.toNat_of_nonneg (by omega)]
set_option maxRecDepth 100000 in
set_option maxHeartbeats 8000000 in
theorem wireShort_walk (m : Msg) (q a n x : Option Addr) (cq ca cn cx : Nat) (cut : Int) (w : World) (h : MsR w m q a n x) (hb : m.big) (hcw : (Lit.int .i64 cut).wf = true) :
    Calls Try.prog 6 #[m.val q a n x cq ca cn cx, .int .i64 cut] w (Rets fun r w' => r = .bool true ∧ Upd0 w w') := by
  have hcb : -9223372036854775808 ≤ cut ∧ cut ≤ 9223372036854775807 := by simpa [Lit.wf, IntKind.min, IntKind.max, IntKind.signed, IntKind.bits] using hcw
  clear hcw
  have hF := Lib.hid (fun (w' : World) (u : Upd0 w w') => few_w m q a n x cq ca cn cx w' (h.up u) hb)
  cases hf : fewB m with
  | false =>
    rw [hf] at hF
    clear hf h hb
    obtain ⟨id, re, op, au, tr, wa, av, rc, qs, an, ns, ex, sz⟩ := m
    simp only [Msg.val] at hF ⊢
    go_enter Try.func6, Try.ntmps6
    go_wp2_with (first
      | (go_at_call 15; (with_reducible refine (hF.out _ (by (repeat (first | (with_reducible exact Upd.refl _ _) | (with_reducible assumption) | (with_reducible apply Upd.drew) | (with_reducible apply Upd.alloc) | (refine Upd0.tr ?_ (by with_reducible assumption)) | (refine Upd.setCell ?_ (fun h => absurd h (by first | exact Nat.lt_irrefl _ | (simp only []; omega))) _))); done)).use ?_); rintro v w1 ⟨rfl, hu1⟩; have L1 := Lib.hid (show w1.heap[w.heap.size]? = some (.cells #[.int .i64 id, .bool re, .int .i64 op, .bool au, .bool tr, .bool wa, .bool av, .int .i64 rc, .slice q qs.length cq, .slice a an.length ca, .slice n ns.length cn, .slice x ex.length cx, .int .i64 sz] 25 (0, 0)) from hu1.block (fun h => h) (alloc_last _ _ _ rfl)); obtain ⟨m10, m11, m12, m13, m14, m15, m16, m17, m18, m19, m1A, m1B, m1C⟩ := cell13w L1.out; have hl1 := blk_lt L1.out)
      | (go_at_call 16; (with_reducible refine (wlive_w _).use ?_); rintro v wL ⟨rfl, huL⟩)
      | (with_reducible refine wp_serial (by kernel_rfl) (by kernel_rfl) (by (repeat (first | (with_reducible apply NoBad.then) | (with_reducible apply NoBad.inBlock) | (with_reducible apply NoBad.jump) | (with_reducible exact NoBad.rets))); done) ?_) | fail)
    all_goals (try go_returns)
    all_goals exact ⟨rfl, (by (repeat (first | (with_reducible exact Upd.refl _ _) | (with_reducible assumption) | (with_reducible apply Upd.drew) | (with_reducible apply Upd.alloc) | (refine Upd0.tr ?_ (by with_reducible assumption)) | (refine Upd.setCell ?_ (fun h => absurd h (by first | exact Nat.lt_irrefl _ | (simp only []; omega))) _))); done)⟩
  | true =>
    rw [hf] at hF
    have hmid := few_mid hf
    have hE := Lib.hid (fun (w' : World) (u : Upd0 w w') => encode_w m q a n x cq ca cn cx w' (h.up u) hmid)
    have hhh := Lib.hid h
    have hmh := Lib.hid hmid
    clear hf h hb hmid
    by_cases hc : encC m = 0
    · have h12 := encS_12 hc
      have hlS := encS_len (m := m)
      have hD1 := Lib.hid (fun (w' : World) => decode_bad ((encS m).take (cutK cut (encS m).length)) 3 (dec_take hc (cutK_lt cut h12)) (by decide) (by simp; omega) w')
      have hD2 := Lib.hid (fun (w' : World) => decode_bad (encS m ++ [0]) 2 (dec_more hc) (by decide) (by simp; omega) w')
      rw [hc] at hE
      have hk1 := cutK_lt cut h12
      have hkP : ¬ cut < 0 → Int.tmod cut ((encS m).length : Int) = (cutK cut (encS m).length : Nat) := fun h => cutK_pos h h12
      have hkN : cut < 0 → Int.tmod (-(cut + 1)) ((encS m).length : Int) = (cutK cut (encS m).length : Nat) := fun h => cutK_neg h h12
      obtain ⟨S, hS⟩ : ∃ S, encS m = S := ⟨_, rfl⟩
      rw [hS] at hE hD1 hD2 h12 hlS hk1 hkP hkN
      obtain ⟨k, hk⟩ : ∃ k, cutK cut S.length = k := ⟨_, rfl⟩
      rw [hk] at hD1 hk1 hkP hkN
      have h13 : ¬ (S.length : Int) < 12 := by omega
      have h14 : ¬ (S.length : Int) = 0 := by omega
      have h15 : ((S.length : Int) == 0) = false := beq_eq_false_iff_ne.2 h14
      have hlu : ¬ 9223372036854775807 < S.length + 1 := by omega
      clear hc hS hhh hmh hk
      obtain ⟨id, re, op, au, tr, wa, av, rc, qs, an, ns, ex, sz⟩ := m
      simp only [Msg.val] at hF hE ⊢
      have tk1 : True := trivial
      by_cases hcut : cut < 0
      · have hkk := hkN hcut
        have hw1 : wrap64 (cut + 1) = cut + 1 := by unfold wrap64; omega
        have hw2 : wrap64 (-(cut + 1)) = -(cut + 1) := by unfold wrap64; omega
        have hk2 : (k : Int) ≤ (S.length : Int) := by omega
        have hk3 : k ≤ S.length := by omega
        clear hkP hkN
        go_enter Try.func6, Try.ntmps6
        go_wp2_with (first
          | (go_at_call 15; (with_reducible refine (hF.out _ (by (repeat (first | (with_reducible exact Upd.refl _ _) | (with_reducible assumption) | (with_reducible apply Upd.drew) | (with_reducible apply Upd.alloc) | (refine Upd0.tr ?_ (by with_reducible assumption)) | (refine Upd.setCell ?_ (fun h => absurd h (by first | exact Nat.lt_irrefl _ | (simp only []; omega))) _))); done)).use ?_); rintro v w1 ⟨rfl, hu1⟩; have L1 := Lib.hid (show w1.heap[w.heap.size]? = some (.cells #[.int .i64 id, .bool re, .int .i64 op, .bool au, .bool tr, .bool wa, .bool av, .int .i64 rc, .slice q qs.length cq, .slice a an.length ca, .slice n ns.length cn, .slice x ex.length cx, .int .i64 sz] 25 (0, 0)) from hu1.block (fun h => h) (alloc_last _ _ _ rfl)); obtain ⟨m10, m11, m12, m13, m14, m15, m16, m17, m18, m19, m1A, m1B, m1C⟩ := cell13w L1.out; have hl1 := blk_lt L1.out)
          | (go_at_call 18; (with_reducible refine (hE.out _ (by (repeat (first | (with_reducible exact Upd.refl _ _) | (with_reducible assumption) | (with_reducible apply Upd.drew) | (with_reducible apply Upd.alloc) | (refine Upd0.tr ?_ (by with_reducible assumption)) | (refine Upd.setCell ?_ (fun h => absurd h (by first | exact Nat.lt_irrefl _ | (simp only []; omega))) _))); done)).use ?_); rintro v w2 ⟨rfl, hu2⟩; have L2 := Lib.hid (show w2.heap[w.heap.size]? = some (.cells #[.int .i64 id, .bool re, .int .i64 op, .bool au, .bool tr, .bool wa, .bool av, .int .i64 rc, .slice q qs.length cq, .slice a an.length ca, .slice n ns.length cn, .slice x ex.length cx, .int .i64 sz] 25 (0, 0)) from (show Upd0 w1 w2 from (by (repeat (first | (with_reducible exact Upd.refl _ _) | (with_reducible assumption) | (with_reducible apply Upd.drew) | (with_reducible apply Upd.alloc) | (refine Upd0.tr ?_ (by with_reducible assumption)) | (refine Upd.setCell ?_ (fun h => absurd h (by first | exact Nat.lt_irrefl _ | (simp only []; omega))) _))); done)).block (fun h => h) L1.out); obtain ⟨m20, m21, m22, m23, m24, m25, m26, m27, m28, m29, m2A, m2B, m2C⟩ := cell13w L2.out; have hl2 := blk_lt L2.out)
          | (go_at_call 23; have _t := tk1; clear tk1 _t; (with_reducible refine (hD1.out _).use ?_); rintro v w3 ⟨q3, a3, n3, x3, cq3, ca3, cn3, cx3, rfl, hu3⟩; have L3 := Lib.hid (show w3.heap[w.heap.size]? = some (.cells #[.int .i64 id, .bool re, .int .i64 op, .bool au, .bool tr, .bool wa, .bool av, .int .i64 rc, .slice q qs.length cq, .slice a an.length ca, .slice n ns.length cn, .slice x ex.length cx, .int .i64 sz] 25 (0, 0)) from (show Upd0 w2 w3 from (by (repeat (first | (with_reducible exact Upd.refl _ _) | (with_reducible assumption) | (with_reducible apply Upd.drew) | (with_reducible apply Upd.alloc) | (refine Upd0.tr ?_ (by with_reducible assumption)) | (refine Upd.setCell ?_ (fun h => absurd h (by first | exact Nat.lt_irrefl _ | (simp only []; omega))) _))); done)).block (fun h => h) L2.out); obtain ⟨m30, m31, m32, m33, m34, m35, m36, m37, m38, m39, m3A, m3B, m3C⟩ := cell13w L3.out; have hl3 := blk_lt L3.out)
          | (go_at_call 23; (with_reducible refine (hD2.out _).use ?_); rintro v w4 ⟨q4, a4, n4, x4, cq4, ca4, cn4, cx4, rfl, hu4⟩)
          | (go_at_call 16; (with_reducible refine (wlive_w _).use ?_); rintro v wL ⟨rfl, huL⟩)
          | (with_reducible refine wp_serial (by kernel_rfl) (by kernel_rfl) (by (repeat (first | (with_reducible apply NoBad.then) | (with_reducible apply NoBad.inBlock) | (with_reducible apply NoBad.jump) | (with_reducible exact NoBad.rets))); done) ?_) | fail)
        all_goals (try go_returns)
        all_goals exact ⟨rfl, (by (repeat (first | (with_reducible exact Upd.refl _ _) | (with_reducible assumption) | (with_reducible apply Upd.drew) | (with_reducible apply Upd.alloc) | (refine Upd0.tr ?_ (by with_reducible assumption)) | (refine Upd.setCell ?_ (fun h => absurd h (by first | exact Nat.lt_irrefl _ | (simp only []; omega))) _))); done)⟩
      · have hkk := hkP hcut
        have hk2 : (k : Int) ≤ (S.length : Int) := by omega
        have hk3 : k ≤ S.length := by omega
        clear hkP hkN
        go_enter Try.func6, Try.ntmps6
        go_wp2_with (first
          | (go_at_call 15; (with_reducible refine (hF.out _ (by (repeat (first | (with_reducible exact Upd.refl _ _) | (with_reducible assumption) | (with_reducible apply Upd.drew) | (with_reducible apply Upd.alloc) | (refine Upd0.tr ?_ (by with_reducible assumption)) | (refine Upd.setCell ?_ (fun h => absurd h (by first | exact Nat.lt_irrefl _ | (simp only []; omega))) _))); done)).use ?_); rintro v w1 ⟨rfl, hu1⟩; have L1 := Lib.hid (show w1.heap[w.heap.size]? = some (.cells #[.int .i64 id, .bool re, .int .i64 op, .bool au, .bool tr, .bool wa, .bool av, .int .i64 rc, .slice q qs.length cq, .slice a an.length ca, .slice n ns.length cn, .slice x ex.length cx, .int .i64 sz] 25 (0, 0)) from hu1.block (fun h => h) (alloc_last _ _ _ rfl)); obtain ⟨m10, m11, m12, m13, m14, m15, m16, m17, m18, m19, m1A, m1B, m1C⟩ := cell13w L1.out; have hl1 := blk_lt L1.out)
          | (go_at_call 18; (with_reducible refine (hE.out _ (by (repeat (first | (with_reducible exact Upd.refl _ _) | (with_reducible assumption) | (with_reducible apply Upd.drew) | (with_reducible apply Upd.alloc) | (refine Upd0.tr ?_ (by with_reducible assumption)) | (refine Upd.setCell ?_ (fun h => absurd h (by first | exact Nat.lt_irrefl _ | (simp only []; omega))) _))); done)).use ?_); rintro v w2 ⟨rfl, hu2⟩; have L2 := Lib.hid (show w2.heap[w.heap.size]? = some (.cells #[.int .i64 id, .bool re, .int .i64 op, .bool au, .bool tr, .bool wa, .bool av, .int .i64 rc, .slice q qs.length cq, .slice a an.length ca, .slice n ns.length cn, .slice x ex.length cx, .int .i64 sz] 25 (0, 0)) from (show Upd0 w1 w2 from (by (repeat (first | (with_reducible exact Upd.refl _ _) | (with_reducible assumption) | (with_reducible apply Upd.drew) | (with_reducible apply Upd.alloc) | (refine Upd0.tr ?_ (by with_reducible assumption)) | (refine Upd.setCell ?_ (fun h => absurd h (by first | exact Nat.lt_irrefl _ | (simp only []; omega))) _))); done)).block (fun h => h) L1.out); obtain ⟨m20, m21, m22, m23, m24, m25, m26, m27, m28, m29, m2A, m2B, m2C⟩ := cell13w L2.out; have hl2 := blk_lt L2.out)
          | (go_at_call 23; have _t := tk1; clear tk1 _t; (with_reducible refine (hD1.out _).use ?_); rintro v w3 ⟨q3, a3, n3, x3, cq3, ca3, cn3, cx3, rfl, hu3⟩; have L3 := Lib.hid (show w3.heap[w.heap.size]? = some (.cells #[.int .i64 id, .bool re, .int .i64 op, .bool au, .bool tr, .bool wa, .bool av, .int .i64 rc, .slice q qs.length cq, .slice a an.length ca, .slice n ns.length cn, .slice x ex.length cx, .int .i64 sz] 25 (0, 0)) from (show Upd0 w2 w3 from (by (repeat (first | (with_reducible exact Upd.refl _ _) | (with_reducible assumption) | (with_reducible apply Upd.drew) | (with_reducible apply Upd.alloc) | (refine Upd0.tr ?_ (by with_reducible assumption)) | (refine Upd.setCell ?_ (fun h => absurd h (by first | exact Nat.lt_irrefl _ | (simp only []; omega))) _))); done)).block (fun h => h) L2.out); obtain ⟨m30, m31, m32, m33, m34, m35, m36, m37, m38, m39, m3A, m3B, m3C⟩ := cell13w L3.out; have hl3 := blk_lt L3.out)
          | (go_at_call 23; (with_reducible refine (hD2.out _).use ?_); rintro v w4 ⟨q4, a4, n4, x4, cq4, ca4, cn4, cx4, rfl, hu4⟩)
          | (go_at_call 16; (with_reducible refine (wlive_w _).use ?_); rintro v wL ⟨rfl, huL⟩)
          | (with_reducible refine wp_serial (by kernel_rfl) (by kernel_rfl) (by (repeat (first | (with_reducible apply NoBad.then) | (with_reducible apply NoBad.inBlock) | (with_reducible apply NoBad.jump) | (with_reducible exact NoBad.rets))); done) ?_) | fail)
        all_goals (try go_returns)
        all_goals exact ⟨rfl, (by (repeat (first | (with_reducible exact Upd.refl _ _) | (with_reducible assumption) | (with_reducible apply Upd.drew) | (with_reducible apply Upd.alloc) | (refine Upd0.tr ?_ (by with_reducible assumption)) | (refine Upd.setCell ?_ (fun h => absurd h (by first | exact Nat.lt_irrefl _ | (simp only []; omega))) _))); done)⟩
    · skip
      have hc2 : (encC m != 0) = true := bne_iff_ne.2 hc
      have hS0 : encS m = [] := by rw [encS, if_neg hc]
      obtain ⟨c, hcc⟩ : ∃ c, encC m = c := ⟨_, rfl⟩
      rw [hcc, hS0] at hE
      rw [hcc] at hc2
      clear hc hcc hS0 hhh hmh
      obtain ⟨id, re, op, au, tr, wa, av, rc, qs, an, ns, ex, sz⟩ := m
      simp only [Msg.val] at hF hE ⊢
      go_enter Try.func6, Try.ntmps6
      go_wp2_with (first
        | (go_at_call 15; (with_reducible refine (hF.out _ (by (repeat (first | (with_reducible exact Upd.refl _ _) | (with_reducible assumption) | (with_reducible apply Upd.drew) | (with_reducible apply Upd.alloc) | (refine Upd0.tr ?_ (by with_reducible assumption)) | (refine Upd.setCell ?_ (fun h => absurd h (by first | exact Nat.lt_irrefl _ | (simp only []; omega))) _))); done)).use ?_); rintro v w1 ⟨rfl, hu1⟩; have L1 := Lib.hid (show w1.heap[w.heap.size]? = some (.cells #[.int .i64 id, .bool re, .int .i64 op, .bool au, .bool tr, .bool wa, .bool av, .int .i64 rc, .slice q qs.length cq, .slice a an.length ca, .slice n ns.length cn, .slice x ex.length cx, .int .i64 sz] 25 (0, 0)) from hu1.block (fun h => h) (alloc_last _ _ _ rfl)); obtain ⟨m10, m11, m12, m13, m14, m15, m16, m17, m18, m19, m1A, m1B, m1C⟩ := cell13w L1.out; have hl1 := blk_lt L1.out)
        | (go_at_call 18; (with_reducible refine (hE.out _ (by (repeat (first | (with_reducible exact Upd.refl _ _) | (with_reducible assumption) | (with_reducible apply Upd.drew) | (with_reducible apply Upd.alloc) | (refine Upd0.tr ?_ (by with_reducible assumption)) | (refine Upd.setCell ?_ (fun h => absurd h (by first | exact Nat.lt_irrefl _ | (simp only []; omega))) _))); done)).use ?_); rintro v w2 ⟨rfl, hu2⟩; have L2 := Lib.hid (show w2.heap[w.heap.size]? = some (.cells #[.int .i64 id, .bool re, .int .i64 op, .bool au, .bool tr, .bool wa, .bool av, .int .i64 rc, .slice q qs.length cq, .slice a an.length ca, .slice n ns.length cn, .slice x ex.length cx, .int .i64 sz] 25 (0, 0)) from (show Upd0 w1 w2 from (by (repeat (first | (with_reducible exact Upd.refl _ _) | (with_reducible assumption) | (with_reducible apply Upd.drew) | (with_reducible apply Upd.alloc) | (refine Upd0.tr ?_ (by with_reducible assumption)) | (refine Upd.setCell ?_ (fun h => absurd h (by first | exact Nat.lt_irrefl _ | (simp only []; omega))) _))); done)).block (fun h => h) L1.out); obtain ⟨m20, m21, m22, m23, m24, m25, m26, m27, m28, m29, m2A, m2B, m2C⟩ := cell13w L2.out; have hl2 := blk_lt L2.out)
        | (go_at_call 16; (with_reducible refine (wlive_w _).use ?_); rintro v wL ⟨rfl, huL⟩)
        | (with_reducible refine wp_serial (by kernel_rfl) (by kernel_rfl) (by (repeat (first | (with_reducible apply NoBad.then) | (with_reducible apply NoBad.inBlock) | (with_reducible apply NoBad.jump) | (with_reducible exact NoBad.rets))); done) ?_) | fail)
      all_goals (try go_returns)
      all_goals exact ⟨rfl, (by (repeat (first | (with_reducible exact Upd.refl _ _) | (with_reducible assumption) | (with_reducible apply Upd.drew) | (with_reducible apply Upd.alloc) | (refine Upd0.tr ?_ (by with_reducible assumption)) | (refine Upd.setCell ?_ (fun h => absurd h (by first | exact Nat.lt_irrefl _ | (simp only []; omega))) _))); done)⟩
end Go.Proofs.Ytgdejgfmhndbhaa
