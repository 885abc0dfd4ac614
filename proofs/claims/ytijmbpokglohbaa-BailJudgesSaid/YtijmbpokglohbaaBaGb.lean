/-
  The document's Judge, of a reply that there is no such name: the walk.
-/
import Derived.Test.YtijmbpokglohbaaBaGc
namespace Go.Proofs.Ytijmbpokglohbaa
open Go.RowKit
set_option linter.unusedSimpArgs false
set_option linter.unusedVariables false
set_option maxRecDepth 100000 in
set_option maxHeartbeats 16000000 in
theorem rjudge_m3 (n : Bs) (k : Int) (id : Int) (re : Bool) (op : Int) (au wa av : Bool) (rc : Int) (qs : List Qn) (an nsl ex : List Rc) (sz : Int) (q a ns x : Option Addr) (cq ca cn cx : Nat) (z : Bs) (w : World) (A N : List Rc) (tg : Int × Bs) (hn : n.length ≤ 5000) (hz : z.length ≤ 5000)
    (hU : Hid (∀ w : World, Calls Try.prog 26 #[.string ⟨n.toArray⟩, .string ⟨z.toArray⟩] w (Rets fun r w' => r = .bool true ∧ Upd0 w w')))
    (hC : Hid (∀ w : World, Calls Try.prog 29 #[.string ⟨n.toArray⟩] w (Rets fun r w' => r = .int .i64 0 ∧ Upd0 w w')))
    (hWa : Hid (∀ w' : World, Upd0 w w' → Calls Try.prog 23 #[.slice a an.length ca, .string ⟨z.toArray⟩] w' (Rets fun r w'' => ∃ ao' cap', r = .slice ao' A.length cap' ∧ RsR w'' ao' A ∧ Upd0 w' w'' ∧ ∀ g o, ao' = some ⟨g, o, none⟩ → w'.heap.size ≤ g)))
    (hWn : Hid (∀ w' : World, Upd0 w w' → Calls Try.prog 23 #[.slice ns nsl.length cn, .string ⟨z.toArray⟩] w' (Rets fun r w'' => ∃ ao' cap', r = .slice ao' N.length cap' ∧ RsR w'' ao' N ∧ Upd0 w' w'' ∧ ∀ g o, ao' = some ⟨g, o, none⟩ → w'.heap.size ≤ g)))
    (hsa : Hid (∀ x ∈ A, x.nm.length ≤ 5000 ∧ x.d.length ≤ 5000)) (hsn : Hid (∀ x ∈ N, x.nm.length ≤ 5000 ∧ x.d.length ≤ 5000)) (hAl : A.length ≤ 5000) (hNl : N.length ≤ 5000)
    (hFn : Hid (∀ w : World, Calls Try.prog 28 #[.string ⟨n.toArray⟩] w (Rets fun r w' => r = .string ⟨(fold n).toArray⟩ ∧ Upd0 w w')))
    (hT : Hid (fst0 (jAns n k A) (fst0 (jAli n A) (fst0 (jDen n rc N) (jRef n z rc N))) = tg)) (hr0 : (rc != 0) = true) (hr3 : (rc != 3) = false) (hz0 : Hid (rc = 3)) (hz1 : (rc == 3) = true) (hz2 : (rc == 0) = false) :
    Calls Try.prog 20 #[.agg #[.string ⟨n.toArray⟩, .int .i64 k], .agg #[.int .i64 id, .bool re, .int .i64 op, .bool au, .bool false, .bool wa, .bool av, .int .i64 rc, .slice q qs.length cq, .slice a an.length ca, .slice ns nsl.length cn, .slice x ex.length cx, .int .i64 sz], .string ⟨z.toArray⟩] w (Rets fun r w' => r = .tuple #[.int .i64 tg.1, .string ⟨tg.2.toArray⟩] ∧ Upd0 w w') := by
  have tk1 : True := trivial
  go_enter Try.func20, Try.ntmps20
  go_wp2_with (first
    | (go_at_call 29; (with_reducible refine (hC.out _).use ?_); rintro v w1 ⟨rfl, hu1⟩; have bq := Lib.hid (show JQ w1 w.heap.size n k from hu1.block (fun h => h) (blk_alloc (alloc_last _ _ _ rfl))); obtain ⟨q0, q1⟩ := cell2w (show w1.heap[w.heap.size]? = _ from bq.out); have bm := Lib.hid (show w1.heap[w.heap.size + 1]? = some (.cells #[.int .i64 id, .bool re, .int .i64 op, .bool au, .bool false, .bool wa, .bool av, .int .i64 rc, .slice q qs.length cq, .slice a an.length ca, .slice ns nsl.length cn, .slice x ex.length cx, .int .i64 sz] 25 (0, 0)) from hu1.block (fun h => h) (alloc_last _ _ _ (by simp))); obtain ⟨m0, m1, m2, m3, m4, m5, m6, m7, m8, m9, mA, mB, mC⟩ := cell13b bm.out)
    | (go_at_call 26; (with_reducible refine (hU.out _).use ?_); rintro v w2 ⟨rfl, hu2⟩; have bq2 := Lib.hid (show JQ w2 w.heap.size n k from hu2.block (fun h => h) bq.out); have bm2 := Lib.hid (show w2.heap[w.heap.size + 1]? = some (.cells #[.int .i64 id, .bool re, .int .i64 op, .bool au, .bool false, .bool wa, .bool av, .int .i64 rc, .slice q qs.length cq, .slice a an.length ca, .slice ns nsl.length cn, .slice x ex.length cx, .int .i64 sz] 25 (0, 0)) from hu2.block (fun h => h) bm.out); obtain ⟨n0, n1, n2, n3, n4, n5, n6, n7, n8, n9, nA, nB, nC⟩ := cell13b bm2.out)
    | (go_at_call 23; have _t := tk1; clear tk1 _t; (with_reducible refine (hWa.out _ (by (repeat (first | (with_reducible exact Upd.refl _ _) | (with_reducible assumption) | (with_reducible apply Upd.drew) | (with_reducible apply Upd.alloc) | (refine Upd0.tr ?_ (by with_reducible assumption)) | (refine Upd.setCell ?_ (fun h => absurd h (by first | exact Nat.lt_irrefl _ | (simp only []; omega))) _))); done)).use ?_); rintro v w3 ⟨a2, c2, rfl, hr3', hu3, hf3⟩; have hr3h := Lib.hid hr3'; clear hr3' hf3; have bq3 := Lib.hid (show JQ w3 w.heap.size n k from hu3.block (fun h => h) bq2.out); have bm3 := Lib.hid (show w3.heap[w.heap.size + 1]? = some (.cells #[.int .i64 id, .bool re, .int .i64 op, .bool au, .bool false, .bool wa, .bool av, .int .i64 rc, .slice q qs.length cq, .slice a an.length ca, .slice ns nsl.length cn, .slice x ex.length cx, .int .i64 sz] 25 (0, 0)) from hu3.block (fun h => h) bm2.out); obtain ⟨o0, o1, o2, o3, o4, o5, o6, o7, o8, o9, oA, oB, oC⟩ := cell13b bm3.out)
    | (go_at_call 23; (with_reducible refine (hWn.out _ (by (repeat (first | (with_reducible exact Upd.refl _ _) | (with_reducible assumption) | (with_reducible apply Upd.drew) | (with_reducible apply Upd.alloc) | (refine Upd0.tr ?_ (by with_reducible assumption)) | (refine Upd.setCell ?_ (fun h => absurd h (by first | exact Nat.lt_irrefl _ | (simp only []; omega))) _))); done)).use ?_); rintro v w4 ⟨a3, c3, rfl, hr4, hu4, hf4⟩; have hRW := Lib.hid (show RW w w4 w.heap.size n k _ a2 A a3 N from ⟨hu4.block (fun h => h) bq3.out, hu4.block (fun h => h) bm3.out, hr3h.out.up (show Upd0 w3 w4 from (by (repeat (first | (with_reducible exact Upd.refl _ _) | (with_reducible assumption) | (with_reducible apply Upd.drew) | (with_reducible apply Upd.alloc) | (refine Upd0.tr ?_ (by with_reducible assumption)) | (refine Upd.setCell ?_ (fun h => absurd h (by first | exact Nat.lt_irrefl _ | (simp only []; omega))) _))); done)), hr4, (show Upd0 w w4 from (by (repeat (first | (with_reducible exact Upd.refl _ _) | (with_reducible assumption) | (with_reducible apply Upd.drew) | (with_reducible apply Upd.alloc) | (refine Upd0.tr ?_ (by with_reducible assumption)) | (refine Upd.setCell ?_ (fun h => absurd h (by first | exact Nat.lt_irrefl _ | (simp only []; omega))) _))); done))⟩); clear hr4 hf4)
    | (with_reducible refine wp_serial (by kernel_rfl) (by kernel_rfl) (by (repeat (first | (with_reducible apply NoBad.then) | (with_reducible apply NoBad.inBlock) | (with_reducible apply NoBad.jump) | (with_reducible exact NoBad.rets))); done) ?_) | fail)
  have hRW' := hRW
  clear hRW
  go_loopw [10] (fun ii wr => ∃ j : Nat, j ≤ A.length ∧ ii = .int .i64 j ∧ Hid ((A.take j).find? (ansB n k) = none) ∧ Hid (RW w wr w.heap.size n k (#[.int .i64 id, .bool re, .int .i64 op, .bool au, .bool false, .bool wa, .bool av, .int .i64 rc, .slice q qs.length cq, .slice a an.length ca, .slice ns nsl.length cn, .slice x ex.length cx, .int .i64 sz] : Array Value) a2 A a3 N)) (fun ii _ => A.length - (intOf ii).toNat)
  case atStart => exact ⟨0, Nat.zero_le _, rfl, Lib.hid rfl, hRW'⟩
  case round =>
    clear hRW'
    obtain ⟨j, hj, rfl, hno, hR⟩ := hrel
    obtain ⟨qa, qb⟩ := cell2w (show wr.heap[w.heap.size]? = _ from hR.out.q)
    by_cases hlt : j < A.length
    ·
      obtain ⟨⟨nm, ty, tl, d⟩, hx⟩ : ∃ y, A[j]? = some y := ⟨A[j], List.getElem?_eq_getElem hlt⟩
      obtain ⟨g, o, rfl, hg, d0, d1, d2, d3⟩ := hR.out.ra.some hx
      have hxl := hsa.out _ (List.mem_of_getElem? hx)
      dsimp only at d0 d1 d2 d3 hxl
      have hxh := Lib.hid hx
      clear hx
      have hSa := Lib.hid (rsame_w nm n (by omega) (by omega))
      have hans : ansB n k ⟨nm, ty, tl, d⟩ = (sameB nm n && (decide (ty = k) || decide (k = 255))) := rfl
      cases hs : sameB nm n with
      | false =>
        rw [hs] at hSa hans
        have hansh := Lib.hid hans
        clear hs hans
        have hst := Lib.hid (find_more hno.out hxh.out (p := ansB n k) (by rw [hansh.out]; rfl))
        go_wp2_with (first
          | (go_at_call 46; (with_reducible refine (hSa.out _).use ?_); rintro v w5 ⟨rfl, hu5⟩; have kk5 : Upd0 wr w5 := (by (repeat (first | (with_reducible exact Upd.refl _ _) | (with_reducible assumption) | (with_reducible apply Upd.drew) | (with_reducible apply Upd.alloc) | (refine Upd0.tr ?_ (by with_reducible assumption)) | (refine Upd.setCell ?_ (fun h => absurd h (by first | exact Nat.lt_irrefl _ | (simp only []; omega))) _))); done); have rw5 := Lib.hid (hR.out.up kk5); obtain ⟨qa5, qb5⟩ := cell2w (show w5.heap[w.heap.size]? = _ from rw5.out.q); obtain ⟨ma50, ma51, ma52, ma53, ma54, ma55, ma56, ma57, ma58, ma59, ma5A, ma5B, ma5C⟩ := cell13b rw5.out.m; have e50 := kk5.cell (fun h => h) d0; have e51 := kk5.cell (fun h => h) d1; have e52 := kk5.cell (fun h => h) d2; have e53 := kk5.cell (fun h => h) d3)
          | (with_reducible refine wp_serial (by kernel_rfl) (by kernel_rfl) (by (repeat (first | (with_reducible apply NoBad.then) | (with_reducible apply NoBad.inBlock) | (with_reducible apply NoBad.jump) | (with_reducible exact NoBad.rets))); done) ?_) | fail)
        go_roundw
        case rel => exact ⟨j + 1, by omega, by go_num, hst, Lib.hid (hR.out.up (by (repeat (first | (with_reducible exact Upd.refl _ _) | (with_reducible assumption) | (with_reducible apply Upd.drew) | (with_reducible apply Upd.alloc) | (refine Upd0.tr ?_ (by with_reducible assumption)) | (refine Upd.setCell ?_ (fun h => absurd h (by first | exact Nat.lt_irrefl _ | (simp only []; omega))) _))); done))⟩
        case measure => simp [intOf]; omega
      | true =>
        rw [hs] at hSa hans
        have hansh := Lib.hid hans
        clear hs hans
        by_cases h1 : ty = k
        · have h2 := Lib.hid (show ansB n k ⟨nm, ty, tl, d⟩ = true by rw [hansh.out, decide_eq_true h1]; rfl)
          clear hansh
          subst h1
          have hres := Lib.hid (hT.out.symm.trans (jr_ans _ hno.out hxh.out h2.out))
          go_wp2_with (first
            | (go_at_call 46; (with_reducible refine (hSa.out _).use ?_); rintro v w5 ⟨rfl, hu5⟩; have kk5 : Upd0 wr w5 := (by (repeat (first | (with_reducible exact Upd.refl _ _) | (with_reducible assumption) | (with_reducible apply Upd.drew) | (with_reducible apply Upd.alloc) | (refine Upd0.tr ?_ (by with_reducible assumption)) | (refine Upd.setCell ?_ (fun h => absurd h (by first | exact Nat.lt_irrefl _ | (simp only []; omega))) _))); done); have rw5 := Lib.hid (hR.out.up kk5); obtain ⟨qa5, qb5⟩ := cell2w (show w5.heap[w.heap.size]? = _ from rw5.out.q); obtain ⟨ma50, ma51, ma52, ma53, ma54, ma55, ma56, ma57, ma58, ma59, ma5A, ma5B, ma5C⟩ := cell13b rw5.out.m; have e50 := kk5.cell (fun h => h) d0; have e51 := kk5.cell (fun h => h) d1; have e52 := kk5.cell (fun h => h) d2; have e53 := kk5.cell (fun h => h) d3)
            | (go_at_call 28; (with_reducible refine (hFn.out _).use ?_); rintro v w6 ⟨rfl, hu6⟩)
            | (with_reducible refine wp_serial (by kernel_rfl) (by kernel_rfl) (by (repeat (first | (with_reducible apply NoBad.then) | (with_reducible apply NoBad.inBlock) | (with_reducible apply NoBad.jump) | (with_reducible exact NoBad.rets))); done) ?_) | fail)
          all_goals go_returns
          all_goals exact ⟨by rw [hres.out]; rfl, hR.out.u.tr (by (repeat (first | (with_reducible exact Upd.refl _ _) | (with_reducible assumption) | (with_reducible apply Upd.drew) | (with_reducible apply Upd.alloc) | (refine Upd0.tr ?_ (by with_reducible assumption)) | (refine Upd.setCell ?_ (fun h => absurd h (by first | exact Nat.lt_irrefl _ | (simp only []; omega))) _))); done)⟩
        · by_cases h2 : k = 255
          · have h3 := Lib.hid (show ansB n k ⟨nm, ty, tl, d⟩ = true by rw [hansh.out, decide_eq_true h2]; simp)
            have h4 : (ty == k) = false := beq_eq_false_iff_ne.2 h1
            have h5 : (k == 255) = true := beq_iff_eq.2 h2
            clear hansh h1 h2
            have hres := Lib.hid (hT.out.symm.trans (jr_ans _ hno.out hxh.out h3.out))
            go_wp2_with (first
              | (go_at_call 46; (with_reducible refine (hSa.out _).use ?_); rintro v w5 ⟨rfl, hu5⟩; have kk5 : Upd0 wr w5 := (by (repeat (first | (with_reducible exact Upd.refl _ _) | (with_reducible assumption) | (with_reducible apply Upd.drew) | (with_reducible apply Upd.alloc) | (refine Upd0.tr ?_ (by with_reducible assumption)) | (refine Upd.setCell ?_ (fun h => absurd h (by first | exact Nat.lt_irrefl _ | (simp only []; omega))) _))); done); have rw5 := Lib.hid (hR.out.up kk5); obtain ⟨qa5, qb5⟩ := cell2w (show w5.heap[w.heap.size]? = _ from rw5.out.q); obtain ⟨ma50, ma51, ma52, ma53, ma54, ma55, ma56, ma57, ma58, ma59, ma5A, ma5B, ma5C⟩ := cell13b rw5.out.m; have e50 := kk5.cell (fun h => h) d0; have e51 := kk5.cell (fun h => h) d1; have e52 := kk5.cell (fun h => h) d2; have e53 := kk5.cell (fun h => h) d3)
              | (go_at_call 28; (with_reducible refine (hFn.out _).use ?_); rintro v w6 ⟨rfl, hu6⟩)
              | (with_reducible refine wp_serial (by kernel_rfl) (by kernel_rfl) (by (repeat (first | (with_reducible apply NoBad.then) | (with_reducible apply NoBad.inBlock) | (with_reducible apply NoBad.jump) | (with_reducible exact NoBad.rets))); done) ?_) | fail)
            all_goals go_returns
            all_goals exact ⟨by rw [hres.out]; rfl, hR.out.u.tr (by (repeat (first | (with_reducible exact Upd.refl _ _) | (with_reducible assumption) | (with_reducible apply Upd.drew) | (with_reducible apply Upd.alloc) | (refine Upd0.tr ?_ (by with_reducible assumption)) | (refine Upd.setCell ?_ (fun h => absurd h (by first | exact Nat.lt_irrefl _ | (simp only []; omega))) _))); done)⟩
          · have h3 := Lib.hid (show ansB n k ⟨nm, ty, tl, d⟩ = false by rw [hansh.out, decide_eq_false h1, decide_eq_false h2]; rfl)
            have h4 : (ty == k) = false := beq_eq_false_iff_ne.2 h1
            have h5 : (k == 255) = false := beq_eq_false_iff_ne.2 h2
            clear hansh h1 h2
            have hst := Lib.hid (find_more hno.out hxh.out (p := ansB n k) (by exact h3.out))
            go_wp2_with (first
              | (go_at_call 46; (with_reducible refine (hSa.out _).use ?_); rintro v w5 ⟨rfl, hu5⟩; have kk5 : Upd0 wr w5 := (by (repeat (first | (with_reducible exact Upd.refl _ _) | (with_reducible assumption) | (with_reducible apply Upd.drew) | (with_reducible apply Upd.alloc) | (refine Upd0.tr ?_ (by with_reducible assumption)) | (refine Upd.setCell ?_ (fun h => absurd h (by first | exact Nat.lt_irrefl _ | (simp only []; omega))) _))); done); have rw5 := Lib.hid (hR.out.up kk5); obtain ⟨qa5, qb5⟩ := cell2w (show w5.heap[w.heap.size]? = _ from rw5.out.q); obtain ⟨ma50, ma51, ma52, ma53, ma54, ma55, ma56, ma57, ma58, ma59, ma5A, ma5B, ma5C⟩ := cell13b rw5.out.m; have e50 := kk5.cell (fun h => h) d0; have e51 := kk5.cell (fun h => h) d1; have e52 := kk5.cell (fun h => h) d2; have e53 := kk5.cell (fun h => h) d3)
              | (with_reducible refine wp_serial (by kernel_rfl) (by kernel_rfl) (by (repeat (first | (with_reducible apply NoBad.then) | (with_reducible apply NoBad.inBlock) | (with_reducible apply NoBad.jump) | (with_reducible exact NoBad.rets))); done) ?_) | fail)
            go_roundw
            case rel => exact ⟨j + 1, by omega, by go_num, hst, Lib.hid (hR.out.up (by (repeat (first | (with_reducible exact Upd.refl _ _) | (with_reducible assumption) | (with_reducible apply Upd.drew) | (with_reducible apply Upd.alloc) | (refine Upd0.tr ?_ (by with_reducible assumption)) | (refine Upd.setCell ?_ (fun h => absurd h (by first | exact Nat.lt_irrefl _ | (simp only []; omega))) _))); done))⟩
            case measure => simp [intOf]; omega
    · have hT2 := Lib.hid ((jr_ans0 _ hno.out (by omega)).symm.trans hT.out)
      clear hno hT
      have hRx := hR
      clear hR
      go_wp2_with (first | (with_reducible refine wp_serial (by kernel_rfl) (by kernel_rfl) (by (repeat (first | (with_reducible apply NoBad.then) | (with_reducible apply NoBad.inBlock) | (with_reducible apply NoBad.jump) | (with_reducible exact NoBad.rets))); done) ?_) | fail)
      obtain ⟨wo, rfl⟩ : ∃ wo : World, wo = wr := ⟨_, rfl⟩
      go_loopw [11] (fun ii wr => ∃ j : Nat, j ≤ A.length ∧ ii = .int .i64 j ∧ Hid ((A.take j).find? (aliB n) = none) ∧ Hid (RW w wr w.heap.size n k (#[.int .i64 id, .bool re, .int .i64 op, .bool au, .bool false, .bool wa, .bool av, .int .i64 rc, .slice q qs.length cq, .slice a an.length ca, .slice ns nsl.length cn, .slice x ex.length cx, .int .i64 sz] : Array Value) a2 A a3 N)) (fun ii _ => A.length - (intOf ii).toNat)
      case atStart => exact ⟨0, Nat.zero_le _, rfl, Lib.hid rfl, hRx⟩
      case round =>
        clear hRx
        obtain ⟨j, hj, rfl, hno, hR⟩ := hrel
        obtain ⟨qa, qb⟩ := cell2w (show wr.heap[w.heap.size]? = _ from hR.out.q)
        obtain ⟨ma0, ma1, ma2, ma3, ma4, ma5, ma6, ma7, ma8, ma9, maA, maB, maC⟩ := cell13b hR.out.m
        by_cases hlt : j < A.length
        ·
          obtain ⟨⟨nm, ty, tl, d⟩, hx⟩ : ∃ y, A[j]? = some y := ⟨A[j], List.getElem?_eq_getElem hlt⟩
          obtain ⟨g, o, rfl, hg, d0, d1, d2, d3⟩ := hR.out.ra.some hx
          have hxl := hsa.out _ (List.mem_of_getElem? hx)
          dsimp only at d0 d1 d2 d3 hxl
          have hxh := Lib.hid hx
          clear hx
          have hSa := Lib.hid (rsame_w nm n (by omega) (by omega))
          have hal : aliB n ⟨nm, ty, tl, d⟩ = (sameB nm n && decide (ty = 5)) := rfl
          cases hs : sameB nm n with
          | false =>
            rw [hs] at hSa hal
            have halh := Lib.hid hal
            clear hs hal
            have hst := Lib.hid (find_more hno.out hxh.out (p := aliB n) (by rw [halh.out]; rfl))
            go_wp2_with (first
              | (go_at_call 46; (with_reducible refine (hSa.out _).use ?_); rintro v w5 ⟨rfl, hu5⟩; have kk5 : Upd0 wr w5 := (by (repeat (first | (with_reducible exact Upd.refl _ _) | (with_reducible assumption) | (with_reducible apply Upd.drew) | (with_reducible apply Upd.alloc) | (refine Upd0.tr ?_ (by with_reducible assumption)) | (refine Upd.setCell ?_ (fun h => absurd h (by first | exact Nat.lt_irrefl _ | (simp only []; omega))) _))); done); have rw5 := Lib.hid (hR.out.up kk5); obtain ⟨qa5, qb5⟩ := cell2w (show w5.heap[w.heap.size]? = _ from rw5.out.q); obtain ⟨ma50, ma51, ma52, ma53, ma54, ma55, ma56, ma57, ma58, ma59, ma5A, ma5B, ma5C⟩ := cell13b rw5.out.m; have e50 := kk5.cell (fun h => h) d0; have e51 := kk5.cell (fun h => h) d1; have e52 := kk5.cell (fun h => h) d2; have e53 := kk5.cell (fun h => h) d3)
              | (with_reducible refine wp_serial (by kernel_rfl) (by kernel_rfl) (by (repeat (first | (with_reducible apply NoBad.then) | (with_reducible apply NoBad.inBlock) | (with_reducible apply NoBad.jump) | (with_reducible exact NoBad.rets))); done) ?_) | fail)
            go_roundw
            case rel => exact ⟨j + 1, by omega, by go_num, hst, Lib.hid (hR.out.up (by (repeat (first | (with_reducible exact Upd.refl _ _) | (with_reducible assumption) | (with_reducible apply Upd.drew) | (with_reducible apply Upd.alloc) | (refine Upd0.tr ?_ (by with_reducible assumption)) | (refine Upd.setCell ?_ (fun h => absurd h (by first | exact Nat.lt_irrefl _ | (simp only []; omega))) _))); done))⟩
            case measure => simp [intOf]; omega
          | true =>
            rw [hs] at hSa hal
            have halh := Lib.hid hal
            clear hs hal
            by_cases h1 : ty = 5
            · have h2 := Lib.hid (show aliB n ⟨nm, ty, tl, d⟩ = true by rw [halh.out, decide_eq_true h1]; rfl)
              have h3 : (ty == 5) = true := beq_iff_eq.2 h1
              clear halh h1
              have hres := Lib.hid (hT2.out.symm.trans (jr_ali _ hno.out hxh.out h2.out))
              have hP := Lib.hid (fun w => rparseHost_w 5 d (by omega) w)
              have hfo := Lib.hid (rfold_w (phN 5 d) (by have := phN_le 5 d; omega))
              go_wp2_with (first
                | (go_at_call 46; (with_reducible refine (hSa.out _).use ?_); rintro v w5 ⟨rfl, hu5⟩; have kk5 : Upd0 wr w5 := (by (repeat (first | (with_reducible exact Upd.refl _ _) | (with_reducible assumption) | (with_reducible apply Upd.drew) | (with_reducible apply Upd.alloc) | (refine Upd0.tr ?_ (by with_reducible assumption)) | (refine Upd.setCell ?_ (fun h => absurd h (by first | exact Nat.lt_irrefl _ | (simp only []; omega))) _))); done); have rw5 := Lib.hid (hR.out.up kk5); obtain ⟨qa5, qb5⟩ := cell2w (show w5.heap[w.heap.size]? = _ from rw5.out.q); obtain ⟨ma50, ma51, ma52, ma53, ma54, ma55, ma56, ma57, ma58, ma59, ma5A, ma5B, ma5C⟩ := cell13b rw5.out.m; have e50 := kk5.cell (fun h => h) d0; have e51 := kk5.cell (fun h => h) d1; have e52 := kk5.cell (fun h => h) d2; have e53 := kk5.cell (fun h => h) d3)
                | (go_at_call 52; (with_reducible refine (hP.out _).use ?_); rintro v w6 ⟨rfl, hu6⟩)
                | (go_at_call 28; (with_reducible refine (hfo.out _).use ?_); rintro v w7 ⟨rfl, hu7⟩)
                | (with_reducible refine wp_serial (by kernel_rfl) (by kernel_rfl) (by (repeat (first | (with_reducible apply NoBad.then) | (with_reducible apply NoBad.inBlock) | (with_reducible apply NoBad.jump) | (with_reducible exact NoBad.rets))); done) ?_) | fail)
              all_goals go_returns
              all_goals exact ⟨by rw [hres.out]; rfl, hR.out.u.tr (by (repeat (first | (with_reducible exact Upd.refl _ _) | (with_reducible assumption) | (with_reducible apply Upd.drew) | (with_reducible apply Upd.alloc) | (refine Upd0.tr ?_ (by with_reducible assumption)) | (refine Upd.setCell ?_ (fun h => absurd h (by first | exact Nat.lt_irrefl _ | (simp only []; omega))) _))); done)⟩
            · have h2 := Lib.hid (show aliB n ⟨nm, ty, tl, d⟩ = false by rw [halh.out, decide_eq_false h1]; rfl)
              have h3 : (ty == 5) = false := beq_eq_false_iff_ne.2 h1
              clear halh h1
              have hst := Lib.hid (find_more hno.out hxh.out (p := aliB n) (by exact h2.out))
              go_wp2_with (first
                | (go_at_call 46; (with_reducible refine (hSa.out _).use ?_); rintro v w5 ⟨rfl, hu5⟩; have kk5 : Upd0 wr w5 := (by (repeat (first | (with_reducible exact Upd.refl _ _) | (with_reducible assumption) | (with_reducible apply Upd.drew) | (with_reducible apply Upd.alloc) | (refine Upd0.tr ?_ (by with_reducible assumption)) | (refine Upd.setCell ?_ (fun h => absurd h (by first | exact Nat.lt_irrefl _ | (simp only []; omega))) _))); done); have rw5 := Lib.hid (hR.out.up kk5); obtain ⟨qa5, qb5⟩ := cell2w (show w5.heap[w.heap.size]? = _ from rw5.out.q); obtain ⟨ma50, ma51, ma52, ma53, ma54, ma55, ma56, ma57, ma58, ma59, ma5A, ma5B, ma5C⟩ := cell13b rw5.out.m; have e50 := kk5.cell (fun h => h) d0; have e51 := kk5.cell (fun h => h) d1; have e52 := kk5.cell (fun h => h) d2; have e53 := kk5.cell (fun h => h) d3)
                | (with_reducible refine wp_serial (by kernel_rfl) (by kernel_rfl) (by (repeat (first | (with_reducible apply NoBad.then) | (with_reducible apply NoBad.inBlock) | (with_reducible apply NoBad.jump) | (with_reducible exact NoBad.rets))); done) ?_) | fail)
              go_roundw
              case rel => exact ⟨j + 1, by omega, by go_num, hst, Lib.hid (hR.out.up (by (repeat (first | (with_reducible exact Upd.refl _ _) | (with_reducible assumption) | (with_reducible apply Upd.drew) | (with_reducible apply Upd.alloc) | (refine Upd0.tr ?_ (by with_reducible assumption)) | (refine Upd.setCell ?_ (fun h => absurd h (by first | exact Nat.lt_irrefl _ | (simp only []; omega))) _))); done))⟩
              case measure => simp [intOf]; omega
        · have hT3 := Lib.hid ((jr_ali0 _ hno.out (by omega)).symm.trans hT2.out)
          clear hno hT2
          have hRx := hR
          clear hR
          go_wp2_with (first | (with_reducible refine wp_serial (by kernel_rfl) (by kernel_rfl) (by (repeat (first | (with_reducible apply NoBad.then) | (with_reducible apply NoBad.inBlock) | (with_reducible apply NoBad.jump) | (with_reducible exact NoBad.rets))); done) ?_) | fail)
          obtain ⟨wo2, rfl⟩ : ∃ wo2 : World, wo2 = wr := ⟨_, rfl⟩
          go_loopw [14] (fun ii wr => ∃ j : Nat, j ≤ N.length ∧ ii = .int .i64 j ∧ Hid ((N.take j).find? (denB n) = none) ∧ Hid (RW w wr w.heap.size n k (#[.int .i64 id, .bool re, .int .i64 op, .bool au, .bool false, .bool wa, .bool av, .int .i64 rc, .slice q qs.length cq, .slice a an.length ca, .slice ns nsl.length cn, .slice x ex.length cx, .int .i64 sz] : Array Value) a2 A a3 N)) (fun ii _ => N.length - (intOf ii).toNat)
          case atStart => exact ⟨0, Nat.zero_le _, rfl, Lib.hid rfl, hRx⟩
          case round =>
            clear hRx
            obtain ⟨j, hj, rfl, hno, hR⟩ := hrel
            obtain ⟨qa, qb⟩ := cell2w (show wr.heap[w.heap.size]? = _ from hR.out.q)
            obtain ⟨ma0, ma1, ma2, ma3, ma4, ma5, ma6, ma7, ma8, ma9, maA, maB, maC⟩ := cell13b hR.out.m
            by_cases hlt : j < N.length
            ·
              obtain ⟨⟨nm, ty, tl, d⟩, hx⟩ : ∃ y, N[j]? = some y := ⟨N[j], List.getElem?_eq_getElem hlt⟩
              obtain ⟨g, o, rfl, hg, d0, d1, d2, d3⟩ := hR.out.rn.some hx
              have hxl := hsn.out _ (List.mem_of_getElem? hx)
              dsimp only at d0 d1 d2 d3 hxl
              have hxh := Lib.hid hx
              clear hx
              have hUn := Lib.hid (runder_w n nm (by omega) (by omega))
              have hFm := Lib.hid (rfold_w nm (by omega))
              have hde : denB n ⟨nm, ty, tl, d⟩ = (decide (ty = 6) && undB n nm) := rfl
              by_cases h1 : ty = 6
              · have h3 : (ty == 6) = true := beq_iff_eq.2 h1
                cases hs : undB n nm with
                | false =>
                  have h2 := Lib.hid (show denB n ⟨nm, ty, tl, d⟩ = false by rw [hde, hs]; simp)
                  rw [hs] at hUn
                  clear hs hde h1
                  have hst := Lib.hid (find_more hno.out hxh.out (p := denB n) (by exact h2.out))
                  go_wp2_with (first
                    | (go_at_call 26; (with_reducible refine (hUn.out _).use ?_); rintro v w5 ⟨rfl, hu5⟩; have kk5 : Upd0 wr w5 := (by (repeat (first | (with_reducible exact Upd.refl _ _) | (with_reducible assumption) | (with_reducible apply Upd.drew) | (with_reducible apply Upd.alloc) | (refine Upd0.tr ?_ (by with_reducible assumption)) | (refine Upd.setCell ?_ (fun h => absurd h (by first | exact Nat.lt_irrefl _ | (simp only []; omega))) _))); done); have rw5 := Lib.hid (hR.out.up kk5); obtain ⟨qa5, qb5⟩ := cell2w (show w5.heap[w.heap.size]? = _ from rw5.out.q); obtain ⟨ma50, ma51, ma52, ma53, ma54, ma55, ma56, ma57, ma58, ma59, ma5A, ma5B, ma5C⟩ := cell13b rw5.out.m; have e50 := kk5.cell (fun h => h) d0; have e51 := kk5.cell (fun h => h) d1; have e52 := kk5.cell (fun h => h) d2; have e53 := kk5.cell (fun h => h) d3)
                    | (with_reducible refine wp_serial (by kernel_rfl) (by kernel_rfl) (by (repeat (first | (with_reducible apply NoBad.then) | (with_reducible apply NoBad.inBlock) | (with_reducible apply NoBad.jump) | (with_reducible exact NoBad.rets))); done) ?_) | fail)
                  go_roundw
                  case rel => exact ⟨j + 1, by omega, by go_num, hst, Lib.hid (hR.out.up (by (repeat (first | (with_reducible exact Upd.refl _ _) | (with_reducible assumption) | (with_reducible apply Upd.drew) | (with_reducible apply Upd.alloc) | (refine Upd0.tr ?_ (by with_reducible assumption)) | (refine Upd.setCell ?_ (fun h => absurd h (by first | exact Nat.lt_irrefl _ | (simp only []; omega))) _))); done))⟩
                  case measure => simp [intOf]; omega
                | true =>
                  have h2 := Lib.hid (show denB n ⟨nm, ty, tl, d⟩ = true by rw [hde, hs, decide_eq_true h1]; rfl)
                  rw [hs] at hUn
                  clear hs hde h1
                  have hsel := Lib.hid (show (if rc = 3 then (3 : Int) else 2) = 3 by rw [hz0.out]; rfl)
                  skip
                  have hres := Lib.hid (hT3.out.symm.trans (jr_den _ hno.out hxh.out h2.out))
                  rw [hsel.out] at hres
                  go_wp2_with (first
                    | (go_at_call 26; (with_reducible refine (hUn.out _).use ?_); rintro v w5 ⟨rfl, hu5⟩; have kk5 : Upd0 wr w5 := (by (repeat (first | (with_reducible exact Upd.refl _ _) | (with_reducible assumption) | (with_reducible apply Upd.drew) | (with_reducible apply Upd.alloc) | (refine Upd0.tr ?_ (by with_reducible assumption)) | (refine Upd.setCell ?_ (fun h => absurd h (by first | exact Nat.lt_irrefl _ | (simp only []; omega))) _))); done); have rw5 := Lib.hid (hR.out.up kk5); obtain ⟨qa5, qb5⟩ := cell2w (show w5.heap[w.heap.size]? = _ from rw5.out.q); obtain ⟨ma50, ma51, ma52, ma53, ma54, ma55, ma56, ma57, ma58, ma59, ma5A, ma5B, ma5C⟩ := cell13b rw5.out.m; have e50 := kk5.cell (fun h => h) d0; have e51 := kk5.cell (fun h => h) d1; have e52 := kk5.cell (fun h => h) d2; have e53 := kk5.cell (fun h => h) d3)
                    | (go_at_call 28; (with_reducible refine (hFm.out _).use ?_); rintro v w6 ⟨rfl, hu6⟩)
                    | (with_reducible refine wp_serial (by kernel_rfl) (by kernel_rfl) (by (repeat (first | (with_reducible apply NoBad.then) | (with_reducible apply NoBad.inBlock) | (with_reducible apply NoBad.jump) | (with_reducible exact NoBad.rets))); done) ?_) | fail)
                  all_goals go_returns
                  all_goals exact ⟨by rw [hres.out]; rfl, hR.out.u.tr (by (repeat (first | (with_reducible exact Upd.refl _ _) | (with_reducible assumption) | (with_reducible apply Upd.drew) | (with_reducible apply Upd.alloc) | (refine Upd0.tr ?_ (by with_reducible assumption)) | (refine Upd.setCell ?_ (fun h => absurd h (by first | exact Nat.lt_irrefl _ | (simp only []; omega))) _))); done)⟩
              · have h2 := Lib.hid (show denB n ⟨nm, ty, tl, d⟩ = false by rw [hde, decide_eq_false h1]; rfl)
                have h3 : (ty == 6) = false := beq_eq_false_iff_ne.2 h1
                clear hde h1
                have hst := Lib.hid (find_more hno.out hxh.out (p := denB n) (by exact h2.out))
                go_wp2_with (first
                  | (go_at_call 26; (with_reducible refine (hUn.out _).use ?_); rintro v w5 ⟨rfl, hu5⟩; have kk5 : Upd0 wr w5 := (by (repeat (first | (with_reducible exact Upd.refl _ _) | (with_reducible assumption) | (with_reducible apply Upd.drew) | (with_reducible apply Upd.alloc) | (refine Upd0.tr ?_ (by with_reducible assumption)) | (refine Upd.setCell ?_ (fun h => absurd h (by first | exact Nat.lt_irrefl _ | (simp only []; omega))) _))); done); have rw5 := Lib.hid (hR.out.up kk5); obtain ⟨qa5, qb5⟩ := cell2w (show w5.heap[w.heap.size]? = _ from rw5.out.q); obtain ⟨ma50, ma51, ma52, ma53, ma54, ma55, ma56, ma57, ma58, ma59, ma5A, ma5B, ma5C⟩ := cell13b rw5.out.m; have e50 := kk5.cell (fun h => h) d0; have e51 := kk5.cell (fun h => h) d1; have e52 := kk5.cell (fun h => h) d2; have e53 := kk5.cell (fun h => h) d3)
                  | (with_reducible refine wp_serial (by kernel_rfl) (by kernel_rfl) (by (repeat (first | (with_reducible apply NoBad.then) | (with_reducible apply NoBad.inBlock) | (with_reducible apply NoBad.jump) | (with_reducible exact NoBad.rets))); done) ?_) | fail)
                go_roundw
                case rel => exact ⟨j + 1, by omega, by go_num, hst, Lib.hid (hR.out.up (by (repeat (first | (with_reducible exact Upd.refl _ _) | (with_reducible assumption) | (with_reducible apply Upd.drew) | (with_reducible apply Upd.alloc) | (refine Upd0.tr ?_ (by with_reducible assumption)) | (refine Upd.setCell ?_ (fun h => absurd h (by first | exact Nat.lt_irrefl _ | (simp only []; omega))) _))); done))⟩
                case measure => simp [intOf]; omega
            · have hT4 := Lib.hid ((jr_den0 _ hno.out (by omega)).symm.trans hT3.out)
              clear hno hT3
              have hRx := hR
              clear hR
              have hres := Lib.hid (hT4.out.symm.trans (show jRef n z rc N = (6, []) by rw [jRef, hz0.out]; rfl))
              skip
              go_wp2_with (first | (with_reducible refine wp_serial (by kernel_rfl) (by kernel_rfl) (by (repeat (first | (with_reducible apply NoBad.then) | (with_reducible apply NoBad.inBlock) | (with_reducible apply NoBad.jump) | (with_reducible exact NoBad.rets))); done) ?_) | fail)
              obtain ⟨wo3, rfl⟩ : ∃ wo3 : World, wo3 = wr := ⟨_, rfl⟩
              go_loopw [15, 16, 17, 18] (fun bb ff ii _ wr => bb = .string ⟨#[]⟩ ∧ ff = .bool false ∧ ii = .int .i64 0 ∧ Hid (RW w wr w.heap.size n k (#[.int .i64 id, .bool re, .int .i64 op, .bool au, .bool false, .bool wa, .bool av, .int .i64 rc, .slice q qs.length cq, .slice a an.length ca, .slice ns nsl.length cn, .slice x ex.length cx, .int .i64 sz] : Array Value) a2 A a3 N)) (fun _ _ ii _ _ => 0)
              case atStart => exact ⟨rfl, rfl, rfl, hRx⟩
              case round =>
                clear hRx
                obtain ⟨rfl, rfl, rfl, hR⟩ := hrel
                obtain ⟨ma0, ma1, ma2, ma3, ma4, ma5, ma6, ma7, ma8, ma9, maA, maB, maC⟩ := cell13b hR.out.m
                by_cases hlt : 0 < N.length
                · go_wp2_with (first | (with_reducible refine wp_serial (by kernel_rfl) (by kernel_rfl) (by (repeat (first | (with_reducible apply NoBad.then) | (with_reducible apply NoBad.inBlock) | (with_reducible apply NoBad.jump) | (with_reducible exact NoBad.rets))); done) ?_) | fail)
                  all_goals go_returns
                  all_goals exact ⟨by rw [hres.out]; rfl, hR.out.u⟩
                · go_wp2_with (first | (with_reducible refine wp_serial (by kernel_rfl) (by kernel_rfl) (by (repeat (first | (with_reducible apply NoBad.then) | (with_reducible apply NoBad.inBlock) | (with_reducible apply NoBad.jump) | (with_reducible exact NoBad.rets))); done) ?_) | fail)
                  all_goals go_returns
                  all_goals exact ⟨by rw [hres.out]; rfl, hR.out.u⟩
end Go.Proofs.Ytijmbpokglohbaa
