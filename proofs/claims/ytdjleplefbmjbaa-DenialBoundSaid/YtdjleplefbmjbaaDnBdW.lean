/-
  DenialBound: there are never more denials than room; the last one is always there: the walk.
-/
import Derived.Test.YtdjleplefbmjbaaDnNlW
import Derived.Test.YtdjleplefbmjbaaDnH
import Derived.Test.YtdjleplefbmjbaaOpdR
namespace Go.Proofs.Ytdjleplefbmjbaa
open Go.RowKit Go.Shelf
set_option linter.unusedSimpArgs false
set_option linter.unusedVariables false
variable {B : Nat}
set_option maxRecDepth 100000 in
set_option maxHeartbeats 8000000 in
theorem denialBound_walk (rm : Int) (ao : Option Addr) (cap : Nat) (xs : List OpD) (w : World) (hS : OpdR w ao xs) (hlen : xs.length ≤ maxLen) :
    Calls Try.prog 13 #[.int .i64 rm, .slice ao xs.length cap] w (Rets fun r w' => r = .bool true ∧ Upd0 w w') := by
  have hSh := Lib.hid hS
  clear hS
  simp only [maxLen] at hlen
  by_cases hok : 1 ≤ rm ∧ rm ≤ 200
  case neg =>
    have hno : ((decide (1 ≤ rm) && decide (rm ≤ 200)) && (decide (1 ≤ (1000 : Int)) && decide ((1000 : Int) ≤ 2147483647))) = false := by
      rw [show (decide (1 ≤ (1000 : Int)) && decide ((1000 : Int) ≤ 2147483647)) = true by decide, Bool.and_true]
      rw [Bool.and_eq_false_iff, decide_eq_false_iff_not, decide_eq_false_iff_not]; omega
    have hnoh := Lib.hid hno
    clear hok hno
    go_enter Try.func13, Try.ntmps13
    go_wp2_with (first
      | (go_at_call 36; (with_reducible refine (dnew_no rm 1000 hnoh.out _).use ?_); rintro v w1 ⟨rfl, hu1⟩)
      | (go_at_call 35; (with_reducible refine (dlive_w _).use ?_); rintro v w8 ⟨rfl, hu8⟩)
      | (with_reducible refine wp_serial (by kernel_rfl) (by kernel_rfl) (by (repeat (first | (with_reducible apply NoBad.then) | (with_reducible apply NoBad.inBlock) | (with_reducible exact NoBad.rets))); done) ?_) | fail)
    all_goals go_returns
    all_goals exact ⟨rfl, (by (repeat (first | (with_reducible exact Upd.refl _ _) | (with_reducible assumption) | (with_reducible apply Upd.drew) | (with_reducible apply Upd.alloc) | (refine Upd0.tr ?_ (by with_reducible assumption)) | (refine Upd.setCell ?_ (fun h => absurd h (by first | exact Nat.lt_irrefl _ | (simp only []; omega))) _))); done)⟩
  obtain ⟨r1, r2⟩ := hok
  go_enter Try.func13, Try.ntmps13
  go_wp2_with (first
    | (go_at_call 36; (with_reducible refine (dnew_w (B := w.heap.size) rm 1000 r1 r2 (by decide) (by decide) _ (Nat.le_refl _)).use ?_); rintro v w1 ⟨t, rfl, hu1, hc1⟩; have k1 := Lib.hid hc1; clear hc1)
    | (with_reducible refine wp_serial (by kernel_rfl) (by kernel_rfl) (by (repeat (first | (with_reducible apply NoBad.then) | (with_reducible apply NoBad.inBlock) | (with_reducible exact NoBad.rets))); done) ?_) | fail)
  go_loopw [7, 8, 9, 10, 11, 12, 13, 14] (fun j _ _ _ _ _ _ _ wr => ∃ (i : Nat) (es : List Ent), i ≤ xs.length ∧ j = .int .i64 i ∧ Upd0 w wr ∧ Hid (Sto w.heap.size wr t rm 1000 es)) (fun j _ _ _ _ _ _ _ _ => xs.length - (intOf j).toNat)
  case atStart => exact ⟨0, [], Nat.zero_le _, rfl, hu1, k1⟩
  case round =>
    obtain ⟨i, es, hi, rfl, hu, hC⟩ := hrel
    by_cases hlt : i < xs.length ∧ i < 60
    · obtain ⟨hltx, hlt60⟩ := hlt
      obtain ⟨x, hx⟩ : ∃ x, xs[i]? = some x := ⟨xs[i], by simp [hltx]⟩
      obtain ⟨g, o, rfl, hg, e0, e1, e2, e3, e4, e5, e6, e7, e8⟩ := hSh.out.some hx
      have d0 := hu.cell (fun h => h) e0
      have d1 := hu.cell (fun h => h) e1
      have d2 := hu.cell (fun h => h) e2
      have d3 := hu.cell (fun h => h) e3
      have d4 := hu.cell (fun h => h) e4
      have d5 := hu.cell (fun h => h) e5
      have d6 := hu.cell (fun h => h) e6
      have d7 := hu.cell (fun h => h) e7
      have d8 := hu.cell (fun h => h) e8
      have hgw : g < wr.heap.size := Nat.lt_of_lt_of_le hg hu.size
      clear hx e0 e1 e2 e3 e4 e5 e6 e7 e8
      cases hs : x.sh with
      | false =>
        have hw : ∀ w, Calls Try.prog 34 #[x.val] w (Rets fun r w' => r = .bool false ∧ Upd0 w w') := fun w => hs ▸ dshort_w x w
        have hwh := Lib.hid hw
        clear hs hw
        obtain ⟨dO, q, ty, k, ⟨nm, rt, tl, d⟩, now⟩ := x
        simp only [OpD.val] at hwh
        simp only [] at d0 d1 d2 d3 d4 d5 d6 d7 d8
        go_wp2_with (first
          | (go_at_call 34; (with_reducible refine (hwh.out _).use ?_); rintro v w2 ⟨rfl, hu2⟩)
          | (go_at_call 35; (with_reducible refine (dlive_w _).use ?_); rintro v w8 ⟨rfl, hu8⟩)
          | (with_reducible refine wp_serial (by kernel_rfl) (by kernel_rfl) (by (repeat (first | (with_reducible apply NoBad.then) | (with_reducible apply NoBad.inBlock) | (with_reducible exact NoBad.rets))); done) ?_) | fail)
        all_goals go_returns
        all_goals exact ⟨rfl, (by (repeat (first | (with_reducible exact Upd.refl _ _) | (with_reducible assumption) | (with_reducible apply Upd.drew) | (with_reducible apply Upd.alloc) | (refine Upd0.tr ?_ (by with_reducible assumption)) | (refine UpdP.fin ?_ (by with_reducible assumption)) | (refine UpdR.fin ?_ (by with_reducible assumption)) | (refine UpdS.fin ?_ (by with_reducible assumption)) | (refine Upd.setCell ?_ (fun h => absurd h (by first | exact Nat.lt_irrefl _ | (simp only []; omega))) _))); done)⟩
      | true =>
        have hw : ∀ w, Calls Try.prog 34 #[x.val] w (Rets fun r w' => r = .bool true ∧ Upd0 w w') := fun w => hs ▸ dshort_w x w
        have hwh := Lib.hid hw
        clear hw
        obtain ⟨dO, q, ty, k, ⟨nm, rt, tl, d⟩, now⟩ := x
        simp only [OpD.sh, Bool.and_eq_true, decide_eq_true_eq] at hs
        obtain ⟨l1, l2, l3⟩ := hs
        simp only [OpD.val] at hwh
        simp only [] at d0 d1 d2 d3 d4 d5 d6 d7 d8
        have hbT := timeN_bound ⟨nm, rt, tl, d⟩
        obtain ⟨F, hTm0⟩ : ∃ F, ∀ w1, Calls Try.prog 41 #[.agg #[.string ⟨nm.toArray⟩, .int .i64 rt, .int .i64 tl, .string ⟨d.toArray⟩]] w1 (Rets fun r w' => r = .tuple #[.int .i64 (timeN ⟨nm, rt, tl, d⟩), .int .i64 F] ∧ Upd0 w1 w') := ⟨_, fun w1 => time_w nm rt tl d (by omega) (by omega) w1⟩
        have hput := bd_put r1 es q ty k ⟨nm, rt, tl, d⟩ now
        obtain ⟨y1, y2, y3, y4, y5, y6, hG⟩ := getOut_any (put rm 1000 es q ty k ⟨nm, rt, tl, d⟩ now).2 q ty now
        have hP0 : ∀ (t : Nat) (w1 : World), Sto w.heap.size w1 t rm 1000 es → Calls Try.prog 38 #[.pointer (some ⟨t, 0, none⟩), .agg #[.string ⟨q.toArray⟩, .int .i64 ty], .int .i64 k, .agg #[.string ⟨nm.toArray⟩, .int .i64 rt, .int .i64 tl, .string ⟨d.toArray⟩], .int .i64 now] w1 (Rets fun r w' => r = .int .i64 (put rm 1000 es q ty k ⟨nm, rt, tl, d⟩ now).1 ∧ UpdS w.heap.size w1 w' ∧ Sto w.heap.size w' t rm 1000 (put rm 1000 es q ty k ⟨nm, rt, tl, d⟩ now).2) := fun t w1 h => dput_w t rm 1000 es q ty k nm rt tl d now (by omega) (by omega) (by omega) w1 h
        obtain ⟨T, hTe⟩ : ∃ T, timeN ⟨nm, rt, tl, d⟩ = T := ⟨_, rfl⟩
        obtain ⟨c, hce⟩ : ∃ c, (put rm 1000 es q ty k ⟨nm, rt, tl, d⟩ now).1 = c := ⟨_, rfl⟩
        obtain ⟨E, hE⟩ : ∃ E, (put rm 1000 es q ty k ⟨nm, rt, tl, d⟩ now).2 = E := ⟨_, rfl⟩
        rw [hTe] at hbT hTm0 hput
        rw [hce] at hput hP0
        rw [hE] at hput hP0 hG
        have hcase : (c = 0 ∧ 0 < T ∧ y6 = true) ∨ ¬ c = 0 ∨ (c = 0 ∧ ¬ 0 < T) := by
          by_cases hc0 : c = 0
          · by_cases ht0 : 0 < T
            · obtain ⟨z1, z2, z3, z4, z5, hz⟩ := hput hc0 ht0
              rw [hG] at hz
              simp [getV] at hz
              exact .inl ⟨hc0, ht0, hz.2.2⟩
            · exact .inr (.inr ⟨hc0, ht0⟩)
          · exact .inr (.inl hc0)
        have hG0 : ∀ (t : Nat) (w1 : World), Sto w.heap.size w1 t rm 1000 E → Calls Try.prog 37 #[.pointer (some ⟨t, 0, none⟩), .agg #[.string ⟨q.toArray⟩, .int .i64 ty], .int .i64 now] w1 (Rets fun r w' => r = getV y1 y2 y3 y4 y5 y6 ∧ Upd0 w1 w') := fun t w1 h => by
          have := dget_w h q ty now (by omega)
          rw [hG] at this
          exact this
        have hTm := Lib.hid hTm0
        have hPt := Lib.hid hP0
        have hG1 := Lib.hid hG0
        clear hput hG hP0 hG0 hTm0 hTe hce hE
        rcases hcase with ⟨rfl, hT0, rfl⟩ | hc0 | ⟨rfl, hT0⟩
        all_goals
          go_wp2_with (first
            | (go_at_call 34; (with_reducible refine (hwh.out _).use ?_); rintro v w2 ⟨rfl, hu2⟩; have k2 := Lib.hid (hC.out.to0 (show Upd0 wr w2 from (by (repeat (first | (with_reducible exact Upd.refl _ _) | (with_reducible assumption) | (with_reducible apply Upd.drew) | (with_reducible apply Upd.alloc) | (refine Upd0.tr ?_ (by with_reducible assumption)) | (refine Upd.setCell ?_ (fun h => absurd h (by first | exact Nat.lt_irrefl _ | (simp only []; omega))) _))); done))); have b2 := Lib.hid (show w2.heap[wr.heap.size]? = some (.cells #[.int .i64 dO, .string ⟨q.toArray⟩, .int .i64 ty, .int .i64 k, .string ⟨nm.toArray⟩, .int .i64 rt, .int .i64 tl, .string ⟨d.toArray⟩, .int .i64 now] 50 (0, 0)) from hu2.block (fun h => h) (by first | exact alloc_last _ _ _ rfl | exact blk_alloc (alloc_last _ _ _ rfl) | exact blk_alloc (blk_alloc (alloc_last _ _ _ rfl)))); obtain ⟨q20, q21, q22, q23, q24, q25, q26, q27, q28⟩ := cell9s b2.out; have hl2 := blk_lt b2.out; have ne2 : ¬ wr.heap.size = w2.heap.size := (by omega); have nf2 : ¬ w2.heap.size = wr.heap.size := (by omega))
            | (go_at_call 41; (with_reducible refine (hTm.out _).use ?_); rintro v w3 ⟨rfl, hu3⟩; have k3 := Lib.hid (k2.out.to0 (show Upd0 w2 w3 from (by (repeat (first | (with_reducible exact Upd.refl _ _) | (with_reducible assumption) | (with_reducible apply Upd.drew) | (with_reducible apply Upd.alloc) | (refine Upd0.tr ?_ (by with_reducible assumption)) | (refine Upd.setCell ?_ (fun h => absurd h (by first | exact Nat.lt_irrefl _ | (simp only []; omega))) _))); done))); have b3 := Lib.hid (show w3.heap[wr.heap.size]? = some (.cells #[.int .i64 dO, .string ⟨q.toArray⟩, .int .i64 ty, .int .i64 k, .string ⟨nm.toArray⟩, .int .i64 rt, .int .i64 tl, .string ⟨d.toArray⟩, .int .i64 now] 50 (0, 0)) from hu3.block (fun h => h) (by first | exact b2.out | exact blk_alloc b2.out | exact blk_alloc (blk_alloc b2.out) | exact blk_alloc (blk_alloc (blk_alloc b2.out)))); obtain ⟨q30, q31, q32, q33, q34, q35, q36, q37, q38⟩ := cell9s b3.out; have hl3 := blk_lt b3.out; have ne3 : ¬ wr.heap.size = w3.heap.size := (by omega); have nf3 : ¬ w3.heap.size = wr.heap.size := (by omega))
            | (go_at_call 38; (with_reducible refine (hPt.out t _ k3.out).use ?_); rintro v w4 ⟨rfl, hu4, hc4⟩; have k4 := Lib.hid hc4; clear hc4; have b4 := Lib.hid (show w4.heap[wr.heap.size]? = some (.cells #[.int .i64 dO, .string ⟨q.toArray⟩, .int .i64 ty, .int .i64 k, .string ⟨nm.toArray⟩, .int .i64 rt, .int .i64 tl, .string ⟨d.toArray⟩, .int .i64 now] 50 (0, 0)) from hu4.other (by first | exact b3.out | exact blk_alloc b3.out | exact blk_alloc (blk_alloc b3.out) | exact blk_alloc (blk_alloc (blk_alloc b3.out))) rfl); obtain ⟨q40, q41, q42, q43, q44, q45, q46, q47, q48⟩ := cell9s b4.out; have hl4 := blk_lt b4.out; have ne4 : ¬ wr.heap.size = w4.heap.size := (by omega); have nf4 : ¬ w4.heap.size = wr.heap.size := (by omega))
            | (go_at_call 37; (with_reducible refine (hG1.out t _ k4.out).use ?_); rintro v w5 ⟨rfl, hu5⟩; have k5 := Lib.hid (k4.out.to0 (show Upd0 w4 w5 from (by (repeat (first | (with_reducible exact Upd.refl _ _) | (with_reducible assumption) | (with_reducible apply Upd.drew) | (with_reducible apply Upd.alloc) | (refine Upd0.tr ?_ (by with_reducible assumption)) | (refine Upd.setCell ?_ (fun h => absurd h (by first | exact Nat.lt_irrefl _ | (simp only []; omega))) _))); done))); simp only [getV]; have b5 := Lib.hid (show w5.heap[wr.heap.size]? = some (.cells #[.int .i64 dO, .string ⟨q.toArray⟩, .int .i64 ty, .int .i64 k, .string ⟨nm.toArray⟩, .int .i64 rt, .int .i64 tl, .string ⟨d.toArray⟩, .int .i64 now] 50 (0, 0)) from hu5.block (fun h => h) (by first | exact b4.out | exact blk_alloc b4.out | exact blk_alloc (blk_alloc b4.out) | exact blk_alloc (blk_alloc (blk_alloc b4.out)))); obtain ⟨q50, q51, q52, q53, q54, q55, q56, q57, q58⟩ := cell9s b5.out; have hl5 := blk_lt b5.out; have ne5 : ¬ wr.heap.size = w5.heap.size := (by omega); have nf5 : ¬ w5.heap.size = wr.heap.size := (by omega))
            | (go_at_call 40; (with_reducible refine (dlen_w t rm 1000 E _ (k5.out.to0 (by (repeat (first | (with_reducible exact Upd.refl _ _) | (with_reducible assumption) | (with_reducible apply Upd.drew) | (with_reducible apply Upd.alloc) | (refine Upd0.tr ?_ (by with_reducible assumption)) | (refine Upd.setCell ?_ (fun h => absurd h (by first | exact Nat.lt_irrefl _ | (simp only []; omega))) _))); done))).use ?_); rintro v w6 ⟨rfl, hu6⟩; have k6 := Lib.hid (k5.out.to0 (show Upd0 w5 w6 from (by (repeat (first | (with_reducible exact Upd.refl _ _) | (with_reducible assumption) | (with_reducible apply Upd.drew) | (with_reducible apply Upd.alloc) | (refine Upd0.tr ?_ (by with_reducible assumption)) | (refine Upd.setCell ?_ (fun h => absurd h (by first | exact Nat.lt_irrefl _ | (simp only []; omega))) _))); done))); have hlE := k5.out.1.len)
            | (with_reducible refine wp_serial (by kernel_rfl) (by kernel_rfl) (by (repeat (first | (with_reducible apply NoBad.then) | (with_reducible apply NoBad.inBlock) | (with_reducible exact NoBad.rets))); done) ?_) | fail)
          go_roundw
          case rel => exact ⟨i + 1, E, by omega, by go_num, (by (repeat (first | (with_reducible exact Upd.refl _ _) | (with_reducible assumption) | (with_reducible apply Upd.drew) | (with_reducible apply Upd.alloc) | (refine Upd0.tr ?_ (by with_reducible assumption)) | (refine UpdP.fin ?_ (by with_reducible assumption)) | (refine UpdR.fin ?_ (by with_reducible assumption)) | (refine UpdS.fin ?_ (by with_reducible assumption)) | (refine Upd.setCell ?_ (fun h => absurd h (by first | exact Nat.lt_irrefl _ | (simp only []; omega))) _))); done), k6⟩
          case measure => simp [intOf]; omega
    · go_wp2_with (first
        | (go_at_call 35; (with_reducible refine (dlive_w _).use ?_); rintro v w8 ⟨rfl, hu8⟩)
        | (with_reducible refine wp_serial (by kernel_rfl) (by kernel_rfl) (by (repeat (first | (with_reducible apply NoBad.then) | (with_reducible apply NoBad.inBlock) | (with_reducible exact NoBad.rets))); done) ?_) | fail)
      all_goals go_returns
      all_goals exact ⟨rfl, (by (repeat (first | (with_reducible exact Upd.refl _ _) | (with_reducible assumption) | (with_reducible apply Upd.drew) | (with_reducible apply Upd.alloc) | (refine Upd0.tr ?_ (by with_reducible assumption)) | (refine UpdP.fin ?_ (by with_reducible assumption)) | (refine UpdR.fin ?_ (by with_reducible assumption)) | (refine UpdS.fin ?_ (by with_reducible assumption)) | (refine Upd.setCell ?_ (fun h => absurd h (by first | exact Nat.lt_irrefl _ | (simp only []; omega))) _))); done)⟩
end Go.Proofs.Ytdjleplefbmjbaa
