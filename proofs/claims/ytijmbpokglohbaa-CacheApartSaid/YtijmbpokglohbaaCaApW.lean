/-
  The walk of CacheApart.
-/
import Derived.Test.YtijmbpokglohbaaCaAp
import Derived.Test.YtijmbpokglohbaaCaR
namespace Go.Proofs.Ytijmbpokglohbaa
open Go.RowKit Go.Maps
set_option linter.unusedSimpArgs false
set_option linter.unusedVariables false
theorem one_self (s : St) : oneS s s = true := by simp [oneS]
set_option maxRecDepth 100000 in
set_option maxHeartbeats 8000000 in
theorem cacheApart_walk (s : St) (ao : Option Addr) (cap : Nat) (aox : Option Addr) (capx : Nat) (xs : List OpE) (w : World) (hS : SR w ao s.dt) (hty : (Lit.int .i64 s.ty).wf = true) (hX : OpeR w aox xs) (hxl : xs.length ≤ maxLen) :
    Calls Try.prog 13 #[.agg #[.string ⟨s.nm.toArray⟩, .int .i64 s.ty, .int .i64 s.tl, .slice ao s.dt.length cap], .slice aox xs.length capx] w (Rets fun r w' => r = .bool true ∧ Upd0 w w') := by
  have hSh := Lib.hid hS
  have hXh := Lib.hid hX
  have hw := Lib.hid (fun (w' : World) (k : SR w' ao s.dt) => cshort_w s ao cap w' k)
  obtain ⟨fb, hfb⟩ : ∃ fb, fewS s = fb := ⟨_, rfl⟩
  have hfbh := Lib.hid hfb
  rw [hfb] at hw
  obtain ⟨nm, ty, tl, dt⟩ := s
  simp only [St.val] at hw hSh hty ⊢
  clear hfb hS hX
  simp only [maxLen] at hxl
  cases fb with
  | false =>
    go_enter Try.func13, Try.ntmps13
    go_wp2_with (first
      | (go_at_call 33; (with_reducible refine (hw.out _ (hSh.out.up (by (repeat (first | (with_reducible exact Upd.refl _ _) | (with_reducible assumption) | (with_reducible apply Upd.drew) | (with_reducible apply Upd.alloc) | (refine Upd0.tr ?_ (by with_reducible assumption)) | (refine Upd.setCell ?_ (fun h => absurd h (by first | exact Nat.lt_irrefl _ | (simp only []; omega))) _))); done))).use ?_); rintro v w1 ⟨rfl, hu1⟩)
      | (go_at_call 32; (with_reducible refine (clive_w _).use ?_); rintro v w2 ⟨rfl, hu2⟩)
      | (with_reducible refine wp_serial (by kernel_rfl) (by kernel_rfl) (by (repeat (first | (with_reducible apply NoBad.then) | (with_reducible apply NoBad.inBlock) | (with_reducible apply NoBad.jump) | (with_reducible exact NoBad.rets))); done) ?_) | fail)
    all_goals go_returns
    all_goals exact ⟨rfl, (by (repeat (first | (with_reducible exact Upd.refl _ _) | (with_reducible assumption) | (with_reducible apply Upd.drew) | (with_reducible apply Upd.alloc) | (refine Upd0.tr ?_ (by with_reducible assumption)) | (refine Upd.setCell ?_ (fun h => absurd h (by first | exact Nat.lt_irrefl _ | (simp only []; omega))) _))); done)⟩
  | true =>
    by_cases h40 : (40 : Int) < xs.length
    · go_enter Try.func13, Try.ntmps13
      go_wp2_with (first
        | (go_at_call 33; (with_reducible refine (hw.out _ (hSh.out.up (by (repeat (first | (with_reducible exact Upd.refl _ _) | (with_reducible assumption) | (with_reducible apply Upd.drew) | (with_reducible apply Upd.alloc) | (refine Upd0.tr ?_ (by with_reducible assumption)) | (refine Upd.setCell ?_ (fun h => absurd h (by first | exact Nat.lt_irrefl _ | (simp only []; omega))) _))); done))).use ?_); rintro v w1 ⟨rfl, hu1⟩)
        | (go_at_call 32; (with_reducible refine (clive_w _).use ?_); rintro v w2 ⟨rfl, hu2⟩)
        | (with_reducible refine wp_serial (by kernel_rfl) (by kernel_rfl) (by (repeat (first | (with_reducible apply NoBad.then) | (with_reducible apply NoBad.inBlock) | (with_reducible apply NoBad.jump) | (with_reducible exact NoBad.rets))); done) ?_) | fail)
      all_goals go_returns
      all_goals exact ⟨rfl, (by (repeat (first | (with_reducible exact Upd.refl _ _) | (with_reducible assumption) | (with_reducible apply Upd.drew) | (with_reducible apply Upd.alloc) | (refine Upd0.tr ?_ (by with_reducible assumption)) | (refine Upd.setCell ?_ (fun h => absurd h (by first | exact Nat.lt_irrefl _ | (simp only []; omega))) _))); done)⟩
    · have hf : fewS ⟨nm, ty, tl, dt⟩ = true := hfbh.out
      have hpb : putB ⟨nm, ty, tl, dt⟩ 3 0 = false ∨ (putB ⟨nm, ty, tl, dt⟩ 3 0 = true ∧ tl < 1) ∨ (putB ⟨nm, ty, tl, dt⟩ 3 0 = true ∧ ¬ tl < 1) := by
        cases putB ⟨nm, ty, tl, dt⟩ 3 0
        · exact .inl rfl
        · by_cases h : tl < 1
          · exact .inr (.inl ⟨rfl, h⟩)
          · exact .inr (.inr ⟨rfl, h⟩)
      have hok0 := empty_ok 200 2147483647 (by decide) (by decide) (by decide) (by decide)
      rcases hpb with hb | ⟨hb, ht⟩ | ⟨hb, ht⟩
      · have hP := Lib.hid (fun (t : Nat) (w' : World) (hB : w.heap.size ≤ w'.heap.size) (h : Ca w.heap.size w' t ⟨200, 2147483647, 0, []⟩) (k : Stay w.heap.size w' ao dt) => (show Calls Try.prog 34 #[.pointer (some ⟨t, 0, none⟩), .agg #[.string ⟨nm.toArray⟩, .int .i64 ty, .int .i64 tl, .slice ao dt.length cap], .int .i64 3, .int .i64 0] w' (Rets fun r w'' => r = .int .i64 1 ∧ UpdQ w.heap.size w' w'') from (cput_w t _ ⟨nm, ty, tl, dt⟩ ao cap 3 0 w' hok0 (show (0 : Int) ≤ 1000000 by decide) hf hB h k).use fun v w'' ⟨e, hu, _⟩ => ⟨by rw [e, (ap_no _ hb).1], hu⟩))
        clear hf hb hok0
        go_enter Try.func13, Try.ntmps13
        go_wp2_with (first
          | (go_at_call 33; (with_reducible refine (hw.out _ (hSh.out.up (by (repeat (first | (with_reducible exact Upd.refl _ _) | (with_reducible assumption) | (with_reducible apply Upd.drew) | (with_reducible apply Upd.alloc) | (refine Upd0.tr ?_ (by with_reducible assumption)) | (refine Upd.setCell ?_ (fun h => absurd h (by first | exact Nat.lt_irrefl _ | (simp only []; omega))) _))); done))).use ?_); rintro v w1 ⟨rfl, hu1⟩; have U1 : Upd0 w w1 := (by (repeat (first | (with_reducible exact Upd.refl _ _) | (with_reducible assumption) | (with_reducible apply Upd.drew) | (with_reducible apply Upd.alloc) | (refine Upd0.tr ?_ (by with_reducible assumption)) | (refine Upd.setCell ?_ (fun h => absurd h (by first | exact Nat.lt_irrefl _ | (simp only []; omega))) _))); done); have y1 := Lib.hid (hu1.block (fun h => h) (alloc_last _ _ w.heap.size rfl)); have z1 := U1.size)
          | (go_at_call 31; (with_reducible refine (cnew_w 200 2147483647 (by decide) (by decide) (by decide) (by decide) _).use ?_); rintro v w2 ⟨t, rfl, hu2, hc2⟩; have U2 : Upd0 w w2 := (by (repeat (first | (with_reducible exact Upd.refl _ _) | (with_reducible assumption) | (with_reducible apply Upd.drew) | (with_reducible apply Upd.alloc) | (refine Upd0.tr ?_ (by with_reducible assumption)) | (refine Upd.setCell ?_ (fun h => absurd h (by first | exact Nat.lt_irrefl _ | (simp only []; omega))) _))); done); have C2 := Lib.hid (Ca.low hc2 z1); have y2 := Lib.hid (hu2.block (fun h => h) y1.out); have yd := set4 y2.out; obtain ⟨d0, d1, d2, d3⟩ := yd; have z2 := U2.size; have l2 := blk_lt y2.out; clear hc2)
          | (go_at_call 34; (with_reducible refine (hP.out t _ z2 C2.out (Stay.of hSh.out U2)).use ?_); rintro v w3 ⟨rfl, hq3⟩; have U3 : Upd0 w w3 := UpdQ.fin U2 hq3)
          | (go_at_call 32; (with_reducible refine (clive_w _).use ?_); rintro v w4 ⟨rfl, hu4⟩)
          | (with_reducible refine wp_serial (by kernel_rfl) (by kernel_rfl) (by (repeat (first | (with_reducible apply NoBad.then) | (with_reducible apply NoBad.inBlock) | (with_reducible apply NoBad.jump) | (with_reducible exact NoBad.rets))); done) ?_) | fail)
        all_goals go_returns
        all_goals exact ⟨rfl, show Upd0 w _ from U3.tr (by (repeat (first | (with_reducible exact Upd.refl _ _) | (with_reducible assumption) | (with_reducible apply Upd.drew) | (with_reducible apply Upd.alloc) | (refine Upd0.tr ?_ (by with_reducible assumption)) | (refine Upd.setCell ?_ (fun h => absurd h (by first | exact Nat.lt_irrefl _ | (simp only []; omega))) _))); done)⟩
      · have hP := Lib.hid (fun (t : Nat) (w' : World) (hB : w.heap.size ≤ w'.heap.size) (h : Ca w.heap.size w' t ⟨200, 2147483647, 0, []⟩) (k : Stay w.heap.size w' ao dt) => (show Calls Try.prog 34 #[.pointer (some ⟨t, 0, none⟩), .agg #[.string ⟨nm.toArray⟩, .int .i64 ty, .int .i64 tl, .slice ao dt.length cap], .int .i64 3, .int .i64 0] w' (Rets fun r w'' => r = .int .i64 0 ∧ UpdQ w.heap.size w' w'') from (cput_w t _ ⟨nm, ty, tl, dt⟩ ao cap 3 0 w' hok0 (show (0 : Int) ≤ 1000000 by decide) hf hB h k).use fun v w'' ⟨e, hu, _⟩ => ⟨by rw [e, putI, hb, if_pos rfl]; rfl, hu⟩))
        clear hf hb hok0
        go_enter Try.func13, Try.ntmps13
        go_wp2_with (first
          | (go_at_call 33; (with_reducible refine (hw.out _ (hSh.out.up (by (repeat (first | (with_reducible exact Upd.refl _ _) | (with_reducible assumption) | (with_reducible apply Upd.drew) | (with_reducible apply Upd.alloc) | (refine Upd0.tr ?_ (by with_reducible assumption)) | (refine Upd.setCell ?_ (fun h => absurd h (by first | exact Nat.lt_irrefl _ | (simp only []; omega))) _))); done))).use ?_); rintro v w1 ⟨rfl, hu1⟩; have U1 : Upd0 w w1 := (by (repeat (first | (with_reducible exact Upd.refl _ _) | (with_reducible assumption) | (with_reducible apply Upd.drew) | (with_reducible apply Upd.alloc) | (refine Upd0.tr ?_ (by with_reducible assumption)) | (refine Upd.setCell ?_ (fun h => absurd h (by first | exact Nat.lt_irrefl _ | (simp only []; omega))) _))); done); have y1 := Lib.hid (hu1.block (fun h => h) (alloc_last _ _ w.heap.size rfl)); have z1 := U1.size)
          | (go_at_call 31; (with_reducible refine (cnew_w 200 2147483647 (by decide) (by decide) (by decide) (by decide) _).use ?_); rintro v w2 ⟨t, rfl, hu2, hc2⟩; have U2 : Upd0 w w2 := (by (repeat (first | (with_reducible exact Upd.refl _ _) | (with_reducible assumption) | (with_reducible apply Upd.drew) | (with_reducible apply Upd.alloc) | (refine Upd0.tr ?_ (by with_reducible assumption)) | (refine Upd.setCell ?_ (fun h => absurd h (by first | exact Nat.lt_irrefl _ | (simp only []; omega))) _))); done); have C2 := Lib.hid (Ca.low hc2 z1); have y2 := Lib.hid (hu2.block (fun h => h) y1.out); have yd := set4 y2.out; obtain ⟨d0, d1, d2, d3⟩ := yd; have z2 := U2.size; have l2 := blk_lt y2.out; clear hc2)
          | (go_at_call 34; (with_reducible refine (hP.out t _ z2 C2.out (Stay.of hSh.out U2)).use ?_); rintro v w3 ⟨rfl, hq3⟩; have U3 : Upd0 w w3 := UpdQ.fin U2 hq3; have y3 := Lib.hid (keepS y2.out hq3); have ye := set4 y3.out; obtain ⟨e0, e1, e2, e3⟩ := ye; have l3 := blk_lt y3.out)
          | (go_at_call 32; (with_reducible refine (clive_w _).use ?_); rintro v w4 ⟨rfl, hu4⟩)
          | (with_reducible refine wp_serial (by kernel_rfl) (by kernel_rfl) (by (repeat (first | (with_reducible apply NoBad.then) | (with_reducible apply NoBad.inBlock) | (with_reducible apply NoBad.jump) | (with_reducible exact NoBad.rets))); done) ?_) | fail)
        all_goals go_returns
        all_goals exact ⟨rfl, show Upd0 w _ from U3.tr (by (repeat (first | (with_reducible exact Upd.refl _ _) | (with_reducible assumption) | (with_reducible apply Upd.drew) | (with_reducible apply Upd.alloc) | (refine Upd0.tr ?_ (by with_reducible assumption)) | (refine Upd.setCell ?_ (fun h => absurd h (by first | exact Nat.lt_irrefl _ | (simp only []; omega))) _))); done)⟩
      · have hst := ap_start hf hb (show 1 ≤ tl by omega)
        obtain ⟨hs1, hs2⟩ := hst
        obtain ⟨c1, hc1⟩ : ∃ c1, putS ⟨200, 2147483647, 0, []⟩ ⟨nm, ty, tl, dt⟩ 3 0 = c1 := ⟨_, rfl⟩
        rw [hc1] at hs2
        have hI1 := Lib.hid hs2
        have hP := Lib.hid (fun (t : Nat) (w' : World) (hB : w.heap.size ≤ w'.heap.size) (h : Ca w.heap.size w' t ⟨200, 2147483647, 0, []⟩) (k : Stay w.heap.size w' ao dt) => (show Calls Try.prog 34 #[.pointer (some ⟨t, 0, none⟩), .agg #[.string ⟨nm.toArray⟩, .int .i64 ty, .int .i64 tl, .slice ao dt.length cap], .int .i64 3, .int .i64 0] w' (Rets fun r w'' => r = .int .i64 0 ∧ UpdQ w.heap.size w' w'' ∧ Ca w.heap.size w'' t c1) from (cput_w t _ ⟨nm, ty, tl, dt⟩ ao cap 3 0 w' hok0 (show (0 : Int) ≤ 1000000 by decide) hf hB h k).use fun v w'' ⟨e, hu, hc⟩ => ⟨by rw [e, hs1], hu, by rw [hc1] at hc; exact hc⟩))
        have hmn := may_num (putB_num hb).1
        simp only [] at hmn
        obtain ⟨hfd, _⟩ := hmn
        have hfdh := Lib.hid hfd
        have hfh := Lib.hid hf
        have hn7 : nm.length ≤ 70000 := by have := (fewS_num hf).2.1; simp only [] at this; omega
        have hl12 : dt.length ≤ 12 := by have := (fewS_num hf).1; simpa using this
        clear hf hb hok0 hs1 hs2 hc1 hfd
        go_enter Try.func13, Try.ntmps13
        go_wp2_with (first
          | (go_at_call 33; (with_reducible refine (hw.out _ (hSh.out.up (by (repeat (first | (with_reducible exact Upd.refl _ _) | (with_reducible assumption) | (with_reducible apply Upd.drew) | (with_reducible apply Upd.alloc) | (refine Upd0.tr ?_ (by with_reducible assumption)) | (refine Upd.setCell ?_ (fun h => absurd h (by first | exact Nat.lt_irrefl _ | (simp only []; omega))) _))); done))).use ?_); rintro v w1 ⟨rfl, hu1⟩; have U1 : Upd0 w w1 := (by (repeat (first | (with_reducible exact Upd.refl _ _) | (with_reducible assumption) | (with_reducible apply Upd.drew) | (with_reducible apply Upd.alloc) | (refine Upd0.tr ?_ (by with_reducible assumption)) | (refine Upd.setCell ?_ (fun h => absurd h (by first | exact Nat.lt_irrefl _ | (simp only []; omega))) _))); done); have y1 := Lib.hid (hu1.block (fun h => h) (alloc_last _ _ w.heap.size rfl)); have z1 := U1.size)
          | (go_at_call 31; (with_reducible refine (cnew_w 200 2147483647 (by decide) (by decide) (by decide) (by decide) _).use ?_); rintro v w2 ⟨t, rfl, hu2, hc2⟩; have U2 : Upd0 w w2 := (by (repeat (first | (with_reducible exact Upd.refl _ _) | (with_reducible assumption) | (with_reducible apply Upd.drew) | (with_reducible apply Upd.alloc) | (refine Upd0.tr ?_ (by with_reducible assumption)) | (refine Upd.setCell ?_ (fun h => absurd h (by first | exact Nat.lt_irrefl _ | (simp only []; omega))) _))); done); have C2 := Lib.hid (Ca.low hc2 z1); have y2 := Lib.hid (hu2.block (fun h => h) y1.out); have yd := set4 y2.out; obtain ⟨d0, d1, d2, d3⟩ := yd; have z2 := U2.size; have l2 := blk_lt y2.out; clear hc2)
          | (go_at_call 34; (with_reducible refine (hP.out t _ z2 C2.out (Stay.of hSh.out U2)).use ?_); rintro v w3 ⟨rfl, hq3, hc3⟩; have U3 : Upd0 w w3 := UpdQ.fin U2 hq3; have y3 := Lib.hid (keepS y2.out hq3); have ye := set4 y3.out; obtain ⟨e0, e1, e2, e3⟩ := ye; have l3 := blk_lt y3.out; have C3 := Lib.hid hc3; clear hc3)
          | (with_reducible refine wp_serial (by kernel_rfl) (by kernel_rfl) (by (repeat (first | (with_reducible apply NoBad.then) | (with_reducible apply NoBad.inBlock) | (with_reducible apply NoBad.jump) | (with_reducible exact NoBad.rets))); done) ?_) | fail)
        have hlen : (xs.length : Int) ≤ 40 := by omega
        clear hP C2 y1 y2 d0 d1 d2 d3 e0 e1 e2 e3
        go_loopw [7] (fun i wr => ∃ (k : Nat) (c : CS), k ≤ xs.length ∧ i = .int .i64 k ∧ Upd0 w wr ∧ Hid (Ca w.heap.size wr t c) ∧ Hid (ApI ⟨nm, ty, tl, dt⟩ c k) ∧ Hid (wr.heap[w.heap.size]? = some (.cells #[.string ⟨nm.toArray⟩, .int .i64 ty, .int .i64 tl, .slice ao dt.length cap] 60 (0, 0)))) (fun i _ => xs.length - (intOf i).toNat)
        case atStart => exact ⟨0, c1, Nat.zero_le _, rfl, U3, C3, hI1, y3⟩
        case round =>
          obtain ⟨k, c, hk, rfl, hu, hC, hI, hy⟩ := hrel
          have zr := hu.size
          have lr := blk_lt hy.out
          by_cases hlt : k < xs.length
          · obtain ⟨x, hx⟩ : ∃ x, xs[k]? = some x := ⟨xs[k], List.getElem?_eq_getElem hlt⟩
            obtain ⟨g, o, rfl, hg, hxo, p0, p1, p2, p3, p4, p5, p6⟩ := (hXh.out.up hu).some hx
            have hxoh := Lib.hid ((hXh.out).some hx)
            clear hx hxo
            obtain ⟨dO, sx, aX, capX, rkX, nowX⟩ := x
            obtain ⟨nmx, tyx, tlx, dtx⟩ := sx
            have hSX : SR w aX dtx := by
              obtain ⟨g', o', h1, h2, h3, h4⟩ := hxoh.out
              exact h3.1
            simp only [] at p0 p1 p2 p3 p4 p5 p6
            have hxX := Lib.hid hSX
            have hwx := Lib.hid (fun (w' : World) (k : SR w' aX dtx) => cshort_w ⟨nmx, tyx, tlx, dtx⟩ aX capX w' k)
            clear hxoh hSX
            cases hfx : fewS ⟨nmx, tyx, tlx, dtx⟩ with
            | false =>
              rw [hfx] at hwx
              simp only [St.val] at hwx
              clear hfx
              go_wp2_with (first
                | (go_at_call 33; (with_reducible refine (hwx.out _ ((hxX.out.up hu).up (by (repeat (first | (with_reducible exact Upd.refl _ _) | (with_reducible assumption) | (with_reducible apply Upd.drew) | (with_reducible apply Upd.alloc) | (refine Upd0.tr ?_ (by with_reducible assumption)) | (refine Upd.setCell ?_ (fun h => absurd h (by first | exact Nat.lt_irrefl _ | (simp only []; omega))) _))); done))).use ?_); rintro v w1 ⟨rfl, hu1⟩; have U1 : Upd0 wr w1 := (by (repeat (first | (with_reducible exact Upd.refl _ _) | (with_reducible assumption) | (with_reducible apply Upd.drew) | (with_reducible apply Upd.alloc) | (refine Upd0.tr ?_ (by with_reducible assumption)) | (refine Upd.setCell ?_ (fun h => absurd h (by first | exact Nat.lt_irrefl _ | (simp only []; omega))) _))); done); have y1 := Lib.hid (hu1.block (fun h => h) (alloc_last _ _ wr.heap.size rfl)); have q1 := Lib.hid (U1.block (fun h => h) hy.out); have yc := set7 y1.out; obtain ⟨c0, c1, c2, c3, c4, c5, c6⟩ := yc; have yd := set4 q1.out; obtain ⟨d0, d1, d2, d3⟩ := yd; have z1 := U1.size; have l1 := blk_lt y1.out; have l2 := blk_lt q1.out)
                | (go_at_call 32; (with_reducible refine (clive_w _).use ?_); rintro v w4 ⟨rfl, hu4⟩)
                | (with_reducible refine wp_serial (by kernel_rfl) (by kernel_rfl) (by (repeat (first | (with_reducible apply NoBad.then) | (with_reducible apply NoBad.inBlock) | (with_reducible apply NoBad.jump) | (with_reducible exact NoBad.rets))); done) ?_) | fail)
              all_goals go_returns
              all_goals exact ⟨rfl, show Upd0 w _ from (hu.tr U1).tr (by (repeat (first | (with_reducible exact Upd.refl _ _) | (with_reducible assumption) | (with_reducible apply Upd.drew) | (with_reducible apply Upd.alloc) | (refine Upd0.tr ?_ (by with_reducible assumption)) | (refine Upd.setCell ?_ (fun h => absurd h (by first | exact Nat.lt_irrefl _ | (simp only []; omega))) _))); done)⟩
            | true =>
              rw [hfx] at hwx
              simp only [St.val] at hwx
              by_cases hnm : nmx = nm
              · have hnm' := hnm.symm
                subst hnm'
                by_cases hty2 : tyx = ty
                · have hty3 := hty2.symm
                  subst hty3
                  clear hfx
                  go_wp2_with (first
                    | (go_at_call 33; (with_reducible refine (hwx.out _ ((hxX.out.up hu).up (by (repeat (first | (with_reducible exact Upd.refl _ _) | (with_reducible assumption) | (with_reducible apply Upd.drew) | (with_reducible apply Upd.alloc) | (refine Upd0.tr ?_ (by with_reducible assumption)) | (refine Upd.setCell ?_ (fun h => absurd h (by first | exact Nat.lt_irrefl _ | (simp only []; omega))) _))); done))).use ?_); rintro v w1 ⟨rfl, hu1⟩; have U1 : Upd0 wr w1 := (by (repeat (first | (with_reducible exact Upd.refl _ _) | (with_reducible assumption) | (with_reducible apply Upd.drew) | (with_reducible apply Upd.alloc) | (refine Upd0.tr ?_ (by with_reducible assumption)) | (refine Upd.setCell ?_ (fun h => absurd h (by first | exact Nat.lt_irrefl _ | (simp only []; omega))) _))); done); have y1 := Lib.hid (hu1.block (fun h => h) (alloc_last _ _ wr.heap.size rfl)); have q1 := Lib.hid (U1.block (fun h => h) hy.out); have yc := set7 y1.out; obtain ⟨c0, c1, c2, c3, c4, c5, c6⟩ := yc; have yd := set4 q1.out; obtain ⟨d0, d1, d2, d3⟩ := yd; have z1 := U1.size; have l1 := blk_lt y1.out; have l2 := blk_lt q1.out)
                    | (go_at_call 32; (with_reducible refine (clive_w _).use ?_); rintro v w4 ⟨rfl, hu4⟩)
                    | (with_reducible refine wp_serial (by kernel_rfl) (by kernel_rfl) (by (repeat (first | (with_reducible apply NoBad.then) | (with_reducible apply NoBad.inBlock) | (with_reducible apply NoBad.jump) | (with_reducible exact NoBad.rets))); done) ?_) | fail)
                  all_goals go_returns
                  all_goals exact ⟨rfl, show Upd0 w _ from (hu.tr U1).tr (by (repeat (first | (with_reducible exact Upd.refl _ _) | (with_reducible assumption) | (with_reducible apply Upd.drew) | (with_reducible apply Upd.alloc) | (refine Upd0.tr ?_ (by with_reducible assumption)) | (refine Upd.setCell ?_ (fun h => absurd h (by first | exact Nat.lt_irrefl _ | (simp only []; omega))) _))); done)⟩
                · have hne : ¬ (nm = nm ∧ tyx = ty) := fun h => hty2 h.2
                  have hneb : (tyx == ty) = false := beq_eq_false_iff_ne.2 hty2
                  obtain ⟨k1, k2, k3, k4, u, k5⟩ := ap_put hI.out (by omega) hfx (show ¬ (nm = nm ∧ tyx = ty) from hne) rkX nowX
                  obtain ⟨hh, hI3⟩ := ap_get hfdh.out (show 1 ≤ tl by omega) k1 k2 k3 k4 k5
                  have hI3h := Lib.hid hI3
                  have hNc : c.N ≤ 1000000 := by have := hI.out.n; omega
                  have hPx := Lib.hid (fun (t : Nat) (w' : World) (hB : w.heap.size ≤ w'.heap.size) (h : Ca w.heap.size w' t c) (k : Stay w.heap.size w' aX dtx) => (show Calls Try.prog 34 #[.pointer (some ⟨t, 0, none⟩), .agg #[.string ⟨nm.toArray⟩, .int .i64 tyx, .int .i64 tlx, .slice aX dtx.length capX], .int .i64 rkX, .int .i64 nowX] w' (Rets fun r w'' => ∃ f, r = .int .i64 f ∧ UpdQ w.heap.size w' w'' ∧ Ca w.heap.size w'' t (putS c ⟨nm, tyx, tlx, dtx⟩ rkX nowX)) from (cput_w t c ⟨nm, tyx, tlx, dtx⟩ aX capX rkX nowX w' hI.out.ok hNc hfx hB h k).use fun v w'' ⟨e, hu, hc⟩ => ⟨_, e, hu, hc⟩))
                  have hGx := Lib.hid (fun (t : Nat) (w' : World) (hB : w.heap.size ≤ w'.heap.size) (h : Ca w.heap.size w' t (putS c ⟨nm, tyx, tlx, dtx⟩ rkX nowX)) => (show Calls Try.prog 36 #[.pointer (some ⟨t, 0, none⟩), .string ⟨nm.toArray⟩, .int .i64 ty, .int .i64 0] w' (Rets fun r w'' => ∃ ao2 cap2, r = .tuple #[.agg #[.string ⟨nm.toArray⟩, .int .i64 ty, .int .i64 tl, .slice ao2 dt.length cap2], .int .i64 3, .bool true] ∧ UpdQ w.heap.size w' w'' ∧ Ca w.heap.size w'' t (bumpC (putS c ⟨nm, tyx, tlx, dtx⟩ rkX nowX) nm ty) ∧ SR w'' ao2 dt) from (cget_hit t _ nm ty 0 _ w' k1 (by omega) hn7 hty hB h hh).use fun v w'' ⟨ao2, cap2, x1, x2, x3, x4⟩ => ⟨ao2, cap2, by rw [x1]; simp only [Int.sub_zero]; rfl, x2, by have e := hfdh.out; rw [e] at x3; exact x3, x4.1⟩))
                  have hOne := Lib.hid (fun (a b : Option Addr) (ca cb : Nat) (w' : World) (h1 : SR w' a dt) (h2 : SR w' b dt) => (show Calls Try.prog 38 #[.agg #[.string ⟨nm.toArray⟩, .int .i64 ty, .int .i64 tl, .slice a dt.length ca], .agg #[.string ⟨nm.toArray⟩, .int .i64 ty, .int .i64 tl, .slice b dt.length cb]] w' (Rets fun r w'' => r = .bool true ∧ Upd0 w' w'') from by have h3 := one_w ⟨nm, ty, tl, dt⟩ ⟨nm, ty, tl, dt⟩ a b ca cb w' h1 h2 (by simp only []; omega) (by simp only []; omega); rw [one_self] at h3; exact h3))
                  clear k1 k2 k3 k4 k5 hh hI3
                  go_wp2_with (first
                    | (go_at_call 33; (with_reducible refine (hwx.out _ ((hxX.out.up hu).up (by (repeat (first | (with_reducible exact Upd.refl _ _) | (with_reducible assumption) | (with_reducible apply Upd.drew) | (with_reducible apply Upd.alloc) | (refine Upd0.tr ?_ (by with_reducible assumption)) | (refine Upd.setCell ?_ (fun h => absurd h (by first | exact Nat.lt_irrefl _ | (simp only []; omega))) _))); done))).use ?_); rintro v w1 ⟨rfl, hu1⟩; have U1 : Upd0 wr w1 := (by (repeat (first | (with_reducible exact Upd.refl _ _) | (with_reducible assumption) | (with_reducible apply Upd.drew) | (with_reducible apply Upd.alloc) | (refine Upd0.tr ?_ (by with_reducible assumption)) | (refine Upd.setCell ?_ (fun h => absurd h (by first | exact Nat.lt_irrefl _ | (simp only []; omega))) _))); done); have y1 := Lib.hid (hu1.block (fun h => h) (alloc_last _ _ wr.heap.size rfl)); have q1 := Lib.hid (U1.block (fun h => h) hy.out); have yc := set7 y1.out; obtain ⟨c0, c1, c2, c3, c4, c5, c6⟩ := yc; have yd := set4 q1.out; obtain ⟨d0, d1, d2, d3⟩ := yd; have z1 := U1.size; have l1 := blk_lt y1.out; have l2 := blk_lt q1.out)
                    | (go_at_call 34; (with_reducible refine (hPx.out t _ (Nat.le_trans zr z1) (hC.out.to0 U1) (Stay.of hxX.out (hu.tr U1))).use ?_); rintro v w2 ⟨f, rfl, hq2, hc2⟩; have U2 : Upd0 w w2 := UpdQ.fin (hu.tr U1) hq2; have q2 := Lib.hid (keepS q1.out hq2); have ye := set4 q2.out; obtain ⟨e0, e1, e2, e3⟩ := ye; have z2 := U2.size; have l3 := blk_lt q2.out; have C2 := Lib.hid hc2; clear hc2)
                    | (go_at_call 36; (with_reducible refine (hGx.out t _ z2 C2.out).use ?_); rintro v w3 ⟨ao3, cap3, rfl, hq3, hc3, hs3⟩; have U3 : Upd0 w w3 := UpdQ.fin U2 hq3; have q3 := Lib.hid (keepS q2.out hq3); have yf := set4 q3.out; obtain ⟨f0, f1, f2, f3⟩ := yf; have z3 := U3.size; have l4 := blk_lt q3.out; have C3 := Lib.hid hc3; have S3 := Lib.hid hs3; clear hc3 hs3)
                    | (go_at_call 38; (with_reducible refine Calls.use (hOne.out ao3 ao cap3 cap _ (S3.out.up (by (repeat (first | (with_reducible exact Upd.refl _ _) | (with_reducible assumption) | (with_reducible apply Upd.drew) | (with_reducible apply Upd.alloc) | (refine Upd0.tr ?_ (by with_reducible assumption)) | (refine Upd.setCell ?_ (fun h => absurd h (by first | exact Nat.lt_irrefl _ | (simp only []; omega))) _))); done)) ((hSh.out.up U3).up (by (repeat (first | (with_reducible exact Upd.refl _ _) | (with_reducible assumption) | (with_reducible apply Upd.drew) | (with_reducible apply Upd.alloc) | (refine Upd0.tr ?_ (by with_reducible assumption)) | (refine Upd.setCell ?_ (fun h => absurd h (by first | exact Nat.lt_irrefl _ | (simp only []; omega))) _))); done))) ?_); rintro v w4 ⟨rfl, hu4⟩)
                    | (with_reducible refine wp_serial (by kernel_rfl) (by kernel_rfl) (by (repeat (first | (with_reducible apply NoBad.then) | (with_reducible apply NoBad.inBlock) | (with_reducible apply NoBad.jump) | (with_reducible exact NoBad.rets))); done) ?_) | fail)
                  go_roundw
                  case rel => exact ⟨k + 1, _, by omega, by go_num, show Upd0 w _ from U3.tr (by (repeat (first | (with_reducible exact Upd.refl _ _) | (with_reducible assumption) | (with_reducible apply Upd.drew) | (with_reducible apply Upd.alloc) | (refine Upd0.tr ?_ (by with_reducible assumption)) | (refine Upd.setCell ?_ (fun h => absurd h (by first | exact Nat.lt_irrefl _ | (simp only []; omega))) _))); done), Lib.hid (C3.out.to0 (show Upd0 w3 _ from (by (repeat (first | (with_reducible exact Upd.refl _ _) | (with_reducible assumption) | (with_reducible apply Upd.drew) | (with_reducible apply Upd.alloc) | (refine Upd0.tr ?_ (by with_reducible assumption)) | (refine Upd.setCell ?_ (fun h => absurd h (by first | exact Nat.lt_irrefl _ | (simp only []; omega))) _))); done))), hI3h, Lib.hid ((show Upd0 w3 _ from (by (repeat (first | (with_reducible exact Upd.refl _ _) | (with_reducible assumption) | (with_reducible apply Upd.drew) | (with_reducible apply Upd.alloc) | (refine Upd0.tr ?_ (by with_reducible assumption)) | (refine Upd.setCell ?_ (fun h => absurd h (by first | exact Nat.lt_irrefl _ | (simp only []; omega))) _))); done)).block (fun h => h) q3.out)⟩
                  case measure => simp [intOf]; omega
              · have hne : ¬ (nmx = nm ∧ tyx = ty) := fun h => hnm h.1
                have hneb : (nmx == nm) = false := beq_eq_false_iff_ne.2 hnm
                obtain ⟨k1, k2, k3, k4, u, k5⟩ := ap_put hI.out (by omega) hfx (show ¬ (nmx = nm ∧ tyx = ty) from hne) rkX nowX
                obtain ⟨hh, hI3⟩ := ap_get hfdh.out (show 1 ≤ tl by omega) k1 k2 k3 k4 k5
                have hI3h := Lib.hid hI3
                have hNc : c.N ≤ 1000000 := by have := hI.out.n; omega
                have hPx := Lib.hid (fun (t : Nat) (w' : World) (hB : w.heap.size ≤ w'.heap.size) (h : Ca w.heap.size w' t c) (k : Stay w.heap.size w' aX dtx) => (show Calls Try.prog 34 #[.pointer (some ⟨t, 0, none⟩), .agg #[.string ⟨nmx.toArray⟩, .int .i64 tyx, .int .i64 tlx, .slice aX dtx.length capX], .int .i64 rkX, .int .i64 nowX] w' (Rets fun r w'' => ∃ f, r = .int .i64 f ∧ UpdQ w.heap.size w' w'' ∧ Ca w.heap.size w'' t (putS c ⟨nmx, tyx, tlx, dtx⟩ rkX nowX)) from (cput_w t c ⟨nmx, tyx, tlx, dtx⟩ aX capX rkX nowX w' hI.out.ok hNc hfx hB h k).use fun v w'' ⟨e, hu, hc⟩ => ⟨_, e, hu, hc⟩))
                have hGx := Lib.hid (fun (t : Nat) (w' : World) (hB : w.heap.size ≤ w'.heap.size) (h : Ca w.heap.size w' t (putS c ⟨nmx, tyx, tlx, dtx⟩ rkX nowX)) => (show Calls Try.prog 36 #[.pointer (some ⟨t, 0, none⟩), .string ⟨nm.toArray⟩, .int .i64 ty, .int .i64 0] w' (Rets fun r w'' => ∃ ao2 cap2, r = .tuple #[.agg #[.string ⟨nm.toArray⟩, .int .i64 ty, .int .i64 tl, .slice ao2 dt.length cap2], .int .i64 3, .bool true] ∧ UpdQ w.heap.size w' w'' ∧ Ca w.heap.size w'' t (bumpC (putS c ⟨nmx, tyx, tlx, dtx⟩ rkX nowX) nm ty) ∧ SR w'' ao2 dt) from (cget_hit t _ nm ty 0 _ w' k1 (by omega) hn7 hty hB h hh).use fun v w'' ⟨ao2, cap2, x1, x2, x3, x4⟩ => ⟨ao2, cap2, by rw [x1]; simp only [Int.sub_zero]; rfl, x2, by have e := hfdh.out; rw [e] at x3; exact x3, x4.1⟩))
                have hOne := Lib.hid (fun (a b : Option Addr) (ca cb : Nat) (w' : World) (h1 : SR w' a dt) (h2 : SR w' b dt) => (show Calls Try.prog 38 #[.agg #[.string ⟨nm.toArray⟩, .int .i64 ty, .int .i64 tl, .slice a dt.length ca], .agg #[.string ⟨nm.toArray⟩, .int .i64 ty, .int .i64 tl, .slice b dt.length cb]] w' (Rets fun r w'' => r = .bool true ∧ Upd0 w' w'') from by have h3 := one_w ⟨nm, ty, tl, dt⟩ ⟨nm, ty, tl, dt⟩ a b ca cb w' h1 h2 (by simp only []; omega) (by simp only []; omega); rw [one_self] at h3; exact h3))
                clear k1 k2 k3 k4 k5 hh hI3
                go_wp2_with (first
                  | (go_at_call 33; (with_reducible refine (hwx.out _ ((hxX.out.up hu).up (by (repeat (first | (with_reducible exact Upd.refl _ _) | (with_reducible assumption) | (with_reducible apply Upd.drew) | (with_reducible apply Upd.alloc) | (refine Upd0.tr ?_ (by with_reducible assumption)) | (refine Upd.setCell ?_ (fun h => absurd h (by first | exact Nat.lt_irrefl _ | (simp only []; omega))) _))); done))).use ?_); rintro v w1 ⟨rfl, hu1⟩; have U1 : Upd0 wr w1 := (by (repeat (first | (with_reducible exact Upd.refl _ _) | (with_reducible assumption) | (with_reducible apply Upd.drew) | (with_reducible apply Upd.alloc) | (refine Upd0.tr ?_ (by with_reducible assumption)) | (refine Upd.setCell ?_ (fun h => absurd h (by first | exact Nat.lt_irrefl _ | (simp only []; omega))) _))); done); have y1 := Lib.hid (hu1.block (fun h => h) (alloc_last _ _ wr.heap.size rfl)); have q1 := Lib.hid (U1.block (fun h => h) hy.out); have yc := set7 y1.out; obtain ⟨c0, c1, c2, c3, c4, c5, c6⟩ := yc; have yd := set4 q1.out; obtain ⟨d0, d1, d2, d3⟩ := yd; have z1 := U1.size; have l1 := blk_lt y1.out; have l2 := blk_lt q1.out)
                  | (go_at_call 34; (with_reducible refine (hPx.out t _ (Nat.le_trans zr z1) (hC.out.to0 U1) (Stay.of hxX.out (hu.tr U1))).use ?_); rintro v w2 ⟨f, rfl, hq2, hc2⟩; have U2 : Upd0 w w2 := UpdQ.fin (hu.tr U1) hq2; have q2 := Lib.hid (keepS q1.out hq2); have ye := set4 q2.out; obtain ⟨e0, e1, e2, e3⟩ := ye; have z2 := U2.size; have l3 := blk_lt q2.out; have C2 := Lib.hid hc2; clear hc2)
                  | (go_at_call 36; (with_reducible refine (hGx.out t _ z2 C2.out).use ?_); rintro v w3 ⟨ao3, cap3, rfl, hq3, hc3, hs3⟩; have U3 : Upd0 w w3 := UpdQ.fin U2 hq3; have q3 := Lib.hid (keepS q2.out hq3); have yf := set4 q3.out; obtain ⟨f0, f1, f2, f3⟩ := yf; have z3 := U3.size; have l4 := blk_lt q3.out; have C3 := Lib.hid hc3; have S3 := Lib.hid hs3; clear hc3 hs3)
                  | (go_at_call 38; (with_reducible refine Calls.use (hOne.out ao3 ao cap3 cap _ (S3.out.up (by (repeat (first | (with_reducible exact Upd.refl _ _) | (with_reducible assumption) | (with_reducible apply Upd.drew) | (with_reducible apply Upd.alloc) | (refine Upd0.tr ?_ (by with_reducible assumption)) | (refine Upd.setCell ?_ (fun h => absurd h (by first | exact Nat.lt_irrefl _ | (simp only []; omega))) _))); done)) ((hSh.out.up U3).up (by (repeat (first | (with_reducible exact Upd.refl _ _) | (with_reducible assumption) | (with_reducible apply Upd.drew) | (with_reducible apply Upd.alloc) | (refine Upd0.tr ?_ (by with_reducible assumption)) | (refine Upd.setCell ?_ (fun h => absurd h (by first | exact Nat.lt_irrefl _ | (simp only []; omega))) _))); done))) ?_); rintro v w4 ⟨rfl, hu4⟩)
                  | (with_reducible refine wp_serial (by kernel_rfl) (by kernel_rfl) (by (repeat (first | (with_reducible apply NoBad.then) | (with_reducible apply NoBad.inBlock) | (with_reducible apply NoBad.jump) | (with_reducible exact NoBad.rets))); done) ?_) | fail)
                go_roundw
                case rel => exact ⟨k + 1, _, by omega, by go_num, show Upd0 w _ from U3.tr (by (repeat (first | (with_reducible exact Upd.refl _ _) | (with_reducible assumption) | (with_reducible apply Upd.drew) | (with_reducible apply Upd.alloc) | (refine Upd0.tr ?_ (by with_reducible assumption)) | (refine Upd.setCell ?_ (fun h => absurd h (by first | exact Nat.lt_irrefl _ | (simp only []; omega))) _))); done), Lib.hid (C3.out.to0 (show Upd0 w3 _ from (by (repeat (first | (with_reducible exact Upd.refl _ _) | (with_reducible assumption) | (with_reducible apply Upd.drew) | (with_reducible apply Upd.alloc) | (refine Upd0.tr ?_ (by with_reducible assumption)) | (refine Upd.setCell ?_ (fun h => absurd h (by first | exact Nat.lt_irrefl _ | (simp only []; omega))) _))); done))), hI3h, Lib.hid ((show Upd0 w3 _ from (by (repeat (first | (with_reducible exact Upd.refl _ _) | (with_reducible assumption) | (with_reducible apply Upd.drew) | (with_reducible apply Upd.alloc) | (refine Upd0.tr ?_ (by with_reducible assumption)) | (refine Upd.setCell ?_ (fun h => absurd h (by first | exact Nat.lt_irrefl _ | (simp only []; omega))) _))); done)).block (fun h => h) q3.out)⟩
                case measure => simp [intOf]; omega
          · go_wp2_with (first
              | (go_at_call 32; (with_reducible refine (clive_w _).use ?_); rintro v w4 ⟨rfl, hu4⟩)
              | (with_reducible refine wp_serial (by kernel_rfl) (by kernel_rfl) (by (repeat (first | (with_reducible apply NoBad.then) | (with_reducible apply NoBad.inBlock) | (with_reducible apply NoBad.jump) | (with_reducible exact NoBad.rets))); done) ?_) | fail)
            all_goals go_returns
            all_goals exact ⟨rfl, show Upd0 w _ from hu.tr (by (repeat (first | (with_reducible exact Upd.refl _ _) | (with_reducible assumption) | (with_reducible apply Upd.drew) | (with_reducible apply Upd.alloc) | (refine Upd0.tr ?_ (by with_reducible assumption)) | (refine Upd.setCell ?_ (fun h => absurd h (by first | exact Nat.lt_irrefl _ | (simp only []; omega))) _))); done)⟩
end Go.Proofs.Ytijmbpokglohbaa
