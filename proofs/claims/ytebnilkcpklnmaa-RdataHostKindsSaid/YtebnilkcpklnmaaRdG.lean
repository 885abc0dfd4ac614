/-
  Soa, the document's.
-/
import Derived.Test.YtebnilkcpklnmaaRdF
namespace Go.Proofs.Ytebnilkcpklnmaa
open Go.RowKit
set_option linter.unusedSimpArgs false
set_option linter.unusedVariables false
theorem wide4_w (n : Nat) (hn : n < 9223372036854775808) (w : World) : Calls Try.prog 49 #[.int .i64 n, .int .i64 4] w (Rets fun r w' => r = .string ⟨(w4 n).toArray⟩ ∧ Upd0 w w') := by
  have := wide_w 4 (by decide) n hn w
  rw [wid4] at this; exact this
set_option maxRecDepth 100000 in
set_option maxHeartbeats 4000000 in
theorem rsoa_w (s : So) (h1 : s.main.length ≤ 70000) (h2 : s.mail.length ≤ 70000) (w : World) : Calls Try.prog 32 #[s.val] w (Rets fun r w' => r = .tuple #[.string ⟨s.bytes.toArray⟩, .int .i64 s.code] ∧ Upd0 w w') := by
  obtain ⟨i0, hi, hz0, hz1, hz2⟩ := info_parts info_u8
  have hbad : Hid (s.ok = false → s.bytes = [] ∧ s.code = 1) := Lib.hid (fun h => by rw [So.bytes, So.code, h]; exact ⟨rfl, rfl⟩)
  have tok1 : True := trivial
  cases hc1 : cutB s.main with
  | false =>
    have hC1 := Lib.hid (checkC_no hc1)
    have hfin := Lib.hid (hbad.out (by rw [So.ok, hc1]; rfl))
    clear hc1 hbad
    rw [So.val]
    go_enter Try.func32, Try.ntmps32
    go_wp2_with (first
      | (go_at_call 36; have _t := tok1; refine (rhost_w s.main h1 _).use ?_; rintro v w1 ⟨rfl, hu1⟩; rw [hC1.out]; obtain ⟨k1, k2, k3⟩ := hu1.rules; simp only [World.size_alloc] at k1 k2 k3; have kz : w.heap.size < w1.heap.size := (by omega); clear tok1 _t)
      | (go_at_call 36; refine (rhost_w s.mail h2 _).use ?_; rintro v w2 ⟨rfl, hu2⟩; obtain ⟨j1, j2, j3⟩ := hu2.rules; have jz : w.heap.size < w2.heap.size := (by omega))
      | (with_reducible refine wp_serial (by kernel_rfl) (by kernel_rfl) (by (repeat (first | (with_reducible apply NoBad.then) | (with_reducible apply NoBad.inBlock) | (with_reducible exact NoBad.rets))); done) ?_)
      | fail)
    go_returns
    exact ⟨by rw [hfin.out.1, hfin.out.2]; rfl, (by (repeat (first | (with_reducible exact Upd.refl _ _) | (with_reducible assumption) | (with_reducible apply Upd.drew) | (with_reducible apply Upd.alloc) | (refine Upd0.tr ?_ (by with_reducible assumption)) | (refine Upd.setCell ?_ (fun h => absurd h (by first | exact Nat.lt_irrefl _ | (simp only []; omega))) _))); done)⟩
  | true =>
    obtain ⟨hS1, hC1⟩ := hostS_yes hc1
    have hl1 := cutB_len hc1
    have hS1h := Lib.hid hS1
    have hC1h := Lib.hid hC1
    have hc1h := Lib.hid hc1
    clear hS1 hC1 hc1
    cases hc2 : cutB s.mail with
    | false =>
      have hC2 := Lib.hid (checkC_no hc2)
      have hfin := Lib.hid (hbad.out (by rw [So.ok, hc2, hc1h.out]; rfl))
      clear hc2 hbad
      rw [So.val]
      go_enter Try.func32, Try.ntmps32
      go_wp2_with (first
        | (go_at_call 36; have _t := tok1; refine (rhost_w s.main h1 _).use ?_; rintro v w1 ⟨rfl, hu1⟩; rw [hC1h.out, hS1h.out]; obtain ⟨k1, k2, k3⟩ := hu1.rules; simp only [World.size_alloc] at k1 k2 k3; have kz : w.heap.size < w1.heap.size := (by omega); clear tok1 _t)
        | (go_at_call 36; refine (rhost_w s.mail h2 _).use ?_; rintro v w2 ⟨rfl, hu2⟩; rw [hC2.out]; obtain ⟨j1, j2, j3⟩ := hu2.rules; have jz : w.heap.size < w2.heap.size := (by omega))
        | (with_reducible refine wp_serial (by kernel_rfl) (by kernel_rfl) (by (repeat (first | (with_reducible apply NoBad.then) | (with_reducible apply NoBad.inBlock) | (with_reducible exact NoBad.rets))); done) ?_)
        | fail)
      go_returns
      exact ⟨by rw [hfin.out.1, hfin.out.2]; rfl, (by (repeat (first | (with_reducible exact Upd.refl _ _) | (with_reducible assumption) | (with_reducible apply Upd.drew) | (with_reducible apply Upd.alloc) | (refine Upd0.tr ?_ (by with_reducible assumption)) | (refine Upd.setCell ?_ (fun h => absurd h (by first | exact Nat.lt_irrefl _ | (simp only []; omega))) _))); done)⟩
    | true =>
      obtain ⟨hS2, hC2⟩ := hostS_yes hc2
      have hl2 := cutB_len hc2
      have hS2h := Lib.hid hS2
      have hC2h := Lib.hid hC2
      have hc2h := Lib.hid hc2
      clear hS2 hC2 hc2
      have hse : s.se < 0 ∨ (0 ≤ s.se ∧ 4294967295 < s.se) ∨ (0 ≤ s.se ∧ s.se ≤ 4294967295) := by omega
      rcases hse with hse | ⟨hse, hse2⟩ | ⟨hse, hse2⟩
      iterate 2
        · have hfin := Lib.hid (hbad.out (by
            rw [So.ok, hc2h.out, hc1h.out]
            first | (rw [show decide (0 ≤ s.se) = false by simp; omega]; simp; done) | (rw [show decide (s.se ≤ 4294967295) = false by simp; omega]; simp; done)))
          clear hbad
          rw [So.val]
          go_enter Try.func32, Try.ntmps32
          go_wp2_with (first
            | (go_at_call 36; have _t := tok1; refine (rhost_w s.main h1 _).use ?_; rintro v w1 ⟨rfl, hu1⟩; rw [hC1h.out, hS1h.out]; obtain ⟨k1, k2, k3⟩ := hu1.rules; simp only [World.size_alloc] at k1 k2 k3; have kz : w.heap.size < w1.heap.size := (by omega); clear tok1 _t)
            | (go_at_call 36; refine (rhost_w s.mail h2 _).use ?_; rintro v w2 ⟨rfl, hu2⟩; rw [hC2h.out, hS2h.out]; obtain ⟨j1, j2, j3⟩ := hu2.rules; have jz : w.heap.size < w2.heap.size := (by omega))
            | (with_reducible refine wp_serial (by kernel_rfl) (by kernel_rfl) (by (repeat (first | (with_reducible apply NoBad.then) | (with_reducible apply NoBad.inBlock) | (with_reducible exact NoBad.rets))); done) ?_)
            | fail)
          go_returns
          exact ⟨by rw [hfin.out.1, hfin.out.2]; rfl, (by (repeat (first | (with_reducible exact Upd.refl _ _) | (with_reducible assumption) | (with_reducible apply Upd.drew) | (with_reducible apply Upd.alloc) | (refine Upd0.tr ?_ (by with_reducible assumption)) | (refine Upd.setCell ?_ (fun h => absurd h (by first | exact Nat.lt_irrefl _ | (simp only []; omega))) _))); done)⟩
      obtain ⟨n0, hn0⟩ := Int.eq_ofNat_of_zero_le hse
      have hok := Lib.hid (show s.ok = s.nums.all numOk by
        rw [So.ok, hc2h.out, hc1h.out, show decide (0 ≤ s.se) = true by simpa using hse, show decide (s.se ≤ 4294967295) = true by simpa using hse2]; rfl)
      have hhd := Lib.hid (show s.main ++ 0 :: (s.mail ++ [0]) ++ w4 n0 = s.hd by rw [So.hd, hn0]; rfl)
      have htl0 := Lib.hid (show s.tl 0 = [] from rfl)
      have hnums : s.nums = [s.re, s.rt, s.ex, s.mi] := rfl
      have hnumsh := Lib.hid hnums
      have hgood : Hid (s.nums.all numOk = true → s.bytes = s.hd ++ s.tl 4 ∧ s.code = 0) := Lib.hid (fun h => by rw [So.bytes, So.code, hok.out, h]; exact ⟨rfl, rfl⟩)
      clear hnums
      have hlen0 : s.main.length + s.mail.length ≤ 508 := by omega
      have hv : s.val = .agg #[.string ⟨s.main.toArray⟩, .string ⟨s.mail.toArray⟩, .int .i64 n0, .int .i64 s.re, .int .i64 s.rt, .int .i64 s.ex, .int .i64 s.mi] := by rw [So.val, hn0]
      rw [hv]
      clear hv
      have hn0' : n0 ≤ 4294967295 := by omega
      have hlnh := Lib.hid (so_len s)
      have hw4 : (w4 n0).length ≤ 4 := by simp [w4]
      have hhl : s.hd.length ≤ 700 := by rw [← hhd.out]; simp; omega
      clear hse hse2 hn0
      go_enter Try.func32, Try.ntmps32
      go_wp2_with (first
        | (go_at_call 36; have _t := tok1; refine (rhost_w s.main h1 _).use ?_; rintro v w1 ⟨rfl, hu1⟩; rw [hC1h.out, hS1h.out]; obtain ⟨k1, k2, k3⟩ := hu1.rules; simp only [World.size_alloc] at k1 k2 k3; have kz : w.heap.size < w1.heap.size := (by omega); clear tok1 _t)
        | (go_at_call 36; refine (rhost_w s.mail h2 _).use ?_; rintro v w2 ⟨rfl, hu2⟩; rw [hC2h.out, hS2h.out]; obtain ⟨j1, j2, j3⟩ := hu2.rules; have jz : w.heap.size < w2.heap.size := (by omega))
        | (go_at_call 49; (with_reducible refine (wide4_w n0 (by omega) _).use ?_); rintro v W4 ⟨rfl, hu4⟩; have hg4 := hu4.block (fun h => h) (alloc_last _ _ w2.heap.size rfl); have hg4h := Lib.hid hg4; clear hg4; have hu5 : Upd0 w W4 := (by (repeat (first | (with_reducible exact Upd.refl _ _) | (with_reducible assumption) | (with_reducible apply Upd.drew) | (with_reducible apply Upd.alloc) | (refine Upd0.tr ?_ (by with_reducible assumption)) | (refine Upd.setCell ?_ (fun h => absurd h (by first | exact Nat.lt_irrefl _ | (simp only []; omega))) _))); done))
        | (with_reducible refine wp_serial (by kernel_rfl) (by kernel_rfl) (by (repeat (first | (with_reducible apply NoBad.then) | (with_reducible apply NoBad.inBlock) | (with_reducible exact NoBad.rets))); done) ?_)
        | fail)
      clear j1 j2 k1 k2
      go_loopw [9, 10] (fun o y wr => ∃ (k : Nat), k ≤ 4 ∧ y = .int .i64 k ∧ o = .string ⟨(s.hd ++ s.tl k).toArray⟩ ∧ Hid (wr.heap[w2.heap.size]? = some (.cells #[.int .i64 s.re, .int .i64 s.rt, .int .i64 s.ex, .int .i64 s.mi] 3 (0, 0))) ∧ Hid ((s.nums.take k).all numOk = true) ∧ Upd0 w wr) (fun _ y _ => 4 - (intOf y).toNat)
      case atStart => exact ⟨0, by omega, rfl, by rw [htl0.out, ← hhd.out]; simp, Lib.hid hg4h.out, Lib.hid rfl, hu5⟩
      case round =>
        obtain ⟨k, hk4, rfl, rfl, hg, hall, hu⟩ := hrel
        have hkc : k = 4 ∨ k = 0 ∨ k = 1 ∨ k = 2 ∨ k = 3 := by omega
        have c0 : wr.cell? ⟨w2.heap.size, 0, none⟩ = some (.int .i64 s.re) := by simpa using blk_cell hg.out 0
        have c1 : wr.cell? ⟨w2.heap.size, 1, none⟩ = some (.int .i64 s.rt) := by simpa using blk_cell hg.out 1
        have c2 : wr.cell? ⟨w2.heap.size, 2, none⟩ = some (.int .i64 s.ex) := by simpa using blk_cell hg.out 2
        have c3 : wr.cell? ⟨w2.heap.size, 3, none⟩ = some (.int .i64 s.mi) := by simpa using blk_cell hg.out 3
        rcases hkc with rfl | hkc
        · have hfin := Lib.hid (hgood.out (by have := hall.out; rwa [hnumsh.out] at this ⊢))
          go_wp2_with (first | (with_reducible refine wp_serial (by kernel_rfl) (by kernel_rfl) (by (repeat (first | (with_reducible apply NoBad.then) | (with_reducible apply NoBad.inBlock) | (with_reducible exact NoBad.rets))); done) ?_) | fail)
          go_returns
          exact ⟨by rw [hfin.out.1, hfin.out.2]; rfl, hu⟩
        · have htk := hlnh.out k
          have hx : ∃ x, s.nums[k]? = some x := by
            rw [hnumsh.out]; rcases hkc with rfl | rfl | rfl | rfl <;> exact ⟨_, rfl⟩
          obtain ⟨x, hx⟩ := hx
          have hx0 := hx
          rw [hnumsh.out] at hx0
          have hstep := Lib.hid (so_tl s hx)
          have hallb : Hid (numOk x = false → s.bytes = [] ∧ s.code = 1) := Lib.hid (fun h => hbad.out (by rw [hok.out]; exact so_all s hx h))
          have hallg : Hid (numOk x = true → (s.nums.take (k + 1)).all numOk = true) := Lib.hid (fun h => by rw [List.take_add_one, hx, List.all_append, hall.out]; simp [h])
          have hxr : x < 0 ∨ (0 ≤ x ∧ 2147483647 < x) ∨ (0 ≤ x ∧ x ≤ 2147483647) := by omega
          clear hx hbad hgood
          rcases hxr with hx1 | ⟨hx1, hx2⟩ | ⟨hx1, hx2⟩
          iterate 2
            · have hfin := Lib.hid (hallb.out (by unfold numOk; first | (rw [show decide (0 ≤ x) = false by simp; omega]; rfl) | (rw [show decide (x ≤ 2147483647) = false by simp; omega]; simp; done)))
              clear hallb hallg hstep
              rcases hkc with rfl | rfl | rfl | rfl
              all_goals
                obtain rfl := Option.some.inj hx0
                go_wp2_with (first | (with_reducible refine wp_serial (by kernel_rfl) (by kernel_rfl) (by (repeat (first | (with_reducible apply NoBad.then) | (with_reducible apply NoBad.inBlock) | (with_reducible exact NoBad.rets))); done) ?_) | fail)
                go_returns
                exact ⟨by rw [hfin.out.1, hfin.out.2]; rfl, hu⟩
          obtain ⟨m, rfl⟩ := Int.eq_ofNat_of_zero_le hx1
          have hg2 := Lib.hid (hallg.out (by unfold numOk; simp; omega))
          clear hallg hallb
          rcases hkc with rfl | rfl | rfl | rfl
          all_goals
            have hx3 := Option.some.inj hx0
            simp only [hx3] at c0 c1 c2 c3
            have hgh := hg
            rw [hx3] at hgh ⊢
            clear hx0 hx3 hg
            have hw4 : (w4 m).length ≤ 4 := by simp [w4]
            go_wp2_with (first
              | (go_at_call 49; (with_reducible refine (wide4_w m (by omega) _).use ?_); rintro v W6 ⟨rfl, hu6⟩)
              | (with_reducible refine wp_serial (by kernel_rfl) (by kernel_rfl) (by (repeat (first | (with_reducible apply NoBad.then) | (with_reducible apply NoBad.inBlock) | (with_reducible exact NoBad.rets))); done) ?_) | fail)
            go_roundw
            case rel => exact ⟨_ + 1, by omega, by rfl, by rw [hstep.out]; rfl, Lib.hid (hu6.block (fun h => h) hgh.out), hg2, (by (repeat (first | (with_reducible exact Upd.refl _ _) | (with_reducible assumption) | (with_reducible apply Upd.drew) | (with_reducible apply Upd.alloc) | (refine Upd0.tr ?_ (by with_reducible assumption)) | (refine Upd.setCell ?_ (fun h => absurd h (by first | exact Nat.lt_irrefl _ | (simp only []; omega))) _))); done)⟩
            case measure => simp [intOf]
end Go.Proofs.Ytebnilkcpklnmaa
