/-
  DenialHolds: what is denied is told so, as long as its time is not over: the walk.
-/
import Derived.Test.YtdjleplefbmjbaaDnNlW
import Derived.Test.YtdjleplefbmjbaaDnH
namespace Go.Proofs.Ytdjleplefbmjbaa
open Go.RowKit Go.Shelf
set_option linter.unusedSimpArgs false
set_option linter.unusedVariables false
variable {B : Nat}
set_option maxRecDepth 100000 in
set_option maxHeartbeats 4000000 in
theorem hold_bad (o : OpD) (other later : Int) (hb : ¬ (o.sh = true ∧ 0 ≤ o.now ∧ o.now ≤ 1000000 ∧ o.now ≤ later ∧ later ≤ 2000000)) (w : World) : Calls Try.prog 12 #[o.val, .int .i64 other, .int .i64 later] w (Rets fun r w' => r = .bool true ∧ Upd0 w w') := by
  cases hs : o.sh with
  | false =>
    have hw : ∀ w, Calls Try.prog 34 #[o.val] w (Rets fun r w' => r = .bool false ∧ Upd0 w w') := fun w => hs ▸ dshort_w o w
    have hwh := Lib.hid hw
    clear hs hw hb
    obtain ⟨dO, q, ty, k, ⟨nm, rt, tl, d⟩, now⟩ := o
    simp only [OpD.val] at hwh ⊢
    go_enter Try.func12, Try.ntmps12
    go_wp2_with (first
      | (go_at_call 34; (with_reducible refine (hwh.out _).use ?_); rintro v w1 ⟨rfl, hu1⟩)
      | (go_at_call 35; (with_reducible refine (dlive_w _).use ?_); rintro v w8 ⟨rfl, hu8⟩)
      | (with_reducible refine wp_serial (by kernel_rfl) (by kernel_rfl) (by (repeat (first | (with_reducible apply NoBad.then) | (with_reducible apply NoBad.inBlock) | (with_reducible exact NoBad.rets))); done) ?_) | fail)
    all_goals go_returns
    all_goals exact ⟨rfl, (by (repeat (first | (with_reducible exact Upd.refl _ _) | (with_reducible assumption) | (with_reducible apply Upd.drew) | (with_reducible apply Upd.alloc) | (refine Upd0.tr ?_ (by with_reducible assumption)) | (refine Upd.setCell ?_ (fun h => absurd h (by first | exact Nat.lt_irrefl _ | (simp only []; omega))) _))); done)⟩
  | true =>
    have hw : ∀ w, Calls Try.prog 34 #[o.val] w (Rets fun r w' => r = .bool true ∧ Upd0 w w') := fun w => hs ▸ dshort_w o w
    have hwh := Lib.hid hw
    clear hw
    obtain ⟨dO, q, ty, k, ⟨nm, rt, tl, d⟩, now⟩ := o
    simp only [OpD.val] at hwh ⊢
    have hcs : now < 0 ∨ (¬ now < 0 ∧ 1000000 < now) ∨ (¬ now < 0 ∧ ¬ 1000000 < now ∧ later < now) ∨ (¬ now < 0 ∧ ¬ 1000000 < now ∧ ¬ later < now ∧ 2000000 < later) := by
      by_cases h1 : now < 0
      · exact .inl h1
      · by_cases h2 : 1000000 < now
        · exact .inr (.inl ⟨h1, h2⟩)
        · by_cases h3 : later < now
          · exact .inr (.inr (.inl ⟨h1, h2, h3⟩))
          · refine .inr (.inr (.inr ⟨h1, h2, h3, ?_⟩))
            apply Decidable.byContradiction
            intro h4
            exact hb ⟨hs, by show 0 ≤ now; omega, by show now ≤ 1000000; omega, by show now ≤ later; omega, by omega⟩
    clear hb hs
    rcases hcs with c1 | ⟨c1, c2⟩ | ⟨c1, c2, c3⟩ | ⟨c1, c2, c3, c4⟩
    all_goals
      go_enter Try.func12, Try.ntmps12
      go_wp2_with (first
        | (go_at_call 34; (with_reducible refine (hwh.out _).use ?_); rintro v w1 ⟨rfl, hu1⟩; have b1 := Lib.hid (show w1.heap[w.heap.size]? = some (.cells #[.int .i64 dO, .string ⟨q.toArray⟩, .int .i64 ty, .int .i64 k, .string ⟨nm.toArray⟩, .int .i64 rt, .int .i64 tl, .string ⟨d.toArray⟩, .int .i64 now] 50 (0, 0)) from hu1.block (fun h => h) (by first | exact alloc_last _ _ _ rfl | exact blk_alloc (alloc_last _ _ _ rfl) | exact blk_alloc (blk_alloc (alloc_last _ _ _ rfl)))); obtain ⟨q10, q11, q12, q13, q14, q15, q16, q17, q18⟩ := cell9s b1.out; have hl1 := blk_lt b1.out; have ne1 : ¬ w.heap.size = w1.heap.size := (by omega); have nf1 : ¬ w1.heap.size = w.heap.size := (by omega))
        | (go_at_call 35; (with_reducible refine (dlive_w _).use ?_); rintro v w8 ⟨rfl, hu8⟩)
        | (with_reducible refine wp_serial (by kernel_rfl) (by kernel_rfl) (by (repeat (first | (with_reducible apply NoBad.then) | (with_reducible apply NoBad.inBlock) | (with_reducible exact NoBad.rets))); done) ?_) | fail)
      all_goals go_returns
      all_goals exact ⟨rfl, (by (repeat (first | (with_reducible exact Upd.refl _ _) | (with_reducible assumption) | (with_reducible apply Upd.drew) | (with_reducible apply Upd.alloc) | (refine Upd0.tr ?_ (by with_reducible assumption)) | (refine Upd.setCell ?_ (fun h => absurd h (by first | exact Nat.lt_irrefl _ | (simp only []; omega))) _))); done)⟩
set_option maxRecDepth 100000 in
set_option maxHeartbeats 4000000 in
theorem hold_no (o : OpD) (other later : Int) (hs : o.sh = true) (a0 : 0 ≤ o.now) (a1 : o.now ≤ 1000000) (a2 : o.now ≤ later) (a3 : later ≤ 2000000) {c : Int} (hc : ¬ c = 0) (hp : put 5 1000 [] o.q o.ty o.k o.r o.now = (c, [])) (w : World) : Calls Try.prog 12 #[o.val, .int .i64 other, .int .i64 later] w (Rets fun r w' => r = .bool true ∧ Upd0 w w') := by
  have hw : ∀ w, Calls Try.prog 34 #[o.val] w (Rets fun r w' => r = .bool true ∧ Upd0 w w') := fun w => hs ▸ dshort_w o w
  have hwh := Lib.hid hw
  clear hw
  obtain ⟨dO, q, ty, k, ⟨nm, rt, tl, d⟩, now⟩ := o
  simp only [OpD.sh, Bool.and_eq_true, decide_eq_true_eq] at hs
  obtain ⟨l1, l2, l3⟩ := hs
  simp only [OpD.val] at hwh hp ⊢
  simp only [] at a0 a1 a2
  have n0 : ¬ now < 0 := by omega
  have n1 : ¬ 1000000 < now := by omega
  have n2 : ¬ later < now := by omega
  have n3 : ¬ 2000000 < later := by omega
  have hPt : ∀ (t : Nat) (w1 : World), Sto w.heap.size w1 t 5 1000 [] → Calls Try.prog 38 #[.pointer (some ⟨t, 0, none⟩), .agg #[.string ⟨q.toArray⟩, .int .i64 ty], .int .i64 k, .agg #[.string ⟨nm.toArray⟩, .int .i64 rt, .int .i64 tl, .string ⟨d.toArray⟩], .int .i64 now] w1 (Rets fun r w' => r = .int .i64 c ∧ UpdS w.heap.size w1 w' ∧ Sto w.heap.size w' t 5 1000 []) := fun t w1 h => by
    have := dput_w t 5 1000 [] q ty k nm rt tl d now (by omega) (by omega) (by omega) w1 h
    rw [hp] at this
    exact this
  have hTm0 : ∃ T F, ∀ w1, Calls Try.prog 41 #[.agg #[.string ⟨nm.toArray⟩, .int .i64 rt, .int .i64 tl, .string ⟨d.toArray⟩]] w1 (Rets fun r w' => r = .tuple #[.int .i64 T, .int .i64 F] ∧ Upd0 w1 w') := ⟨_, _, fun w1 => time_w nm rt tl d (by omega) (by omega) w1⟩
  obtain ⟨T, F, hTm⟩ := hTm0
  have hTm := Lib.hid hTm
  have hPt := Lib.hid hPt
  clear hp
  go_enter Try.func12, Try.ntmps12
  go_wp2_with (first
    | (go_at_call 34; (with_reducible refine (hwh.out _).use ?_); rintro v w1 ⟨rfl, hu1⟩; have b1 := Lib.hid (show w1.heap[w.heap.size]? = some (.cells #[.int .i64 dO, .string ⟨q.toArray⟩, .int .i64 ty, .int .i64 k, .string ⟨nm.toArray⟩, .int .i64 rt, .int .i64 tl, .string ⟨d.toArray⟩, .int .i64 now] 50 (0, 0)) from hu1.block (fun h => h) (by first | exact alloc_last _ _ _ rfl | exact blk_alloc (alloc_last _ _ _ rfl) | exact blk_alloc (blk_alloc (alloc_last _ _ _ rfl)))); obtain ⟨q10, q11, q12, q13, q14, q15, q16, q17, q18⟩ := cell9s b1.out; have hl1 := blk_lt b1.out; have ne1 : ¬ w.heap.size = w1.heap.size := (by omega); have nf1 : ¬ w1.heap.size = w.heap.size := (by omega))
    | (go_at_call 36; (with_reducible refine (dnew_w (B := w.heap.size) 5 1000 (by decide) (by decide) (by decide) (by decide) _ (by have := hl1; omega)).use ?_); rintro v w2 ⟨t, rfl, hu2, hc2⟩; have k2 := Lib.hid hc2; clear hc2; have b2 := Lib.hid (show w2.heap[w.heap.size]? = some (.cells #[.int .i64 dO, .string ⟨q.toArray⟩, .int .i64 ty, .int .i64 k, .string ⟨nm.toArray⟩, .int .i64 rt, .int .i64 tl, .string ⟨d.toArray⟩, .int .i64 now] 50 (0, 0)) from hu2.block (fun h => h) (by first | exact b1.out | exact blk_alloc b1.out | exact blk_alloc (blk_alloc b1.out) | exact blk_alloc (blk_alloc (blk_alloc b1.out)))); obtain ⟨q20, q21, q22, q23, q24, q25, q26, q27, q28⟩ := cell9s b2.out; have hl2 := blk_lt b2.out; have ne2 : ¬ w.heap.size = w2.heap.size := (by omega); have nf2 : ¬ w2.heap.size = w.heap.size := (by omega))
    | (go_at_call 41; (with_reducible refine (hTm.out _).use ?_); rintro v w3 ⟨rfl, hu3⟩; have k3 := Lib.hid (k2.out.to0 (show Upd0 w2 w3 from (by (repeat (first | (with_reducible exact Upd.refl _ _) | (with_reducible assumption) | (with_reducible apply Upd.drew) | (with_reducible apply Upd.alloc) | (refine Upd0.tr ?_ (by with_reducible assumption)) | (refine Upd.setCell ?_ (fun h => absurd h (by first | exact Nat.lt_irrefl _ | (simp only []; omega))) _))); done))); have b3 := Lib.hid (show w3.heap[w.heap.size]? = some (.cells #[.int .i64 dO, .string ⟨q.toArray⟩, .int .i64 ty, .int .i64 k, .string ⟨nm.toArray⟩, .int .i64 rt, .int .i64 tl, .string ⟨d.toArray⟩, .int .i64 now] 50 (0, 0)) from hu3.block (fun h => h) (by first | exact b2.out | exact blk_alloc b2.out | exact blk_alloc (blk_alloc b2.out) | exact blk_alloc (blk_alloc (blk_alloc b2.out)))); obtain ⟨q30, q31, q32, q33, q34, q35, q36, q37, q38⟩ := cell9s b3.out; have hl3 := blk_lt b3.out; have ne3 : ¬ w.heap.size = w3.heap.size := (by omega); have nf3 : ¬ w3.heap.size = w.heap.size := (by omega))
    | (go_at_call 38; (with_reducible refine (hPt.out t _ k3.out).use ?_); rintro v w4 ⟨rfl, hu4, hc4⟩; have k4 := Lib.hid hc4; clear hc4; have b4 := Lib.hid (show w4.heap[w.heap.size]? = some (.cells #[.int .i64 dO, .string ⟨q.toArray⟩, .int .i64 ty, .int .i64 k, .string ⟨nm.toArray⟩, .int .i64 rt, .int .i64 tl, .string ⟨d.toArray⟩, .int .i64 now] 50 (0, 0)) from hu4.other (by first | exact b3.out | exact blk_alloc b3.out | exact blk_alloc (blk_alloc b3.out) | exact blk_alloc (blk_alloc (blk_alloc b3.out))) rfl); obtain ⟨q40, q41, q42, q43, q44, q45, q46, q47, q48⟩ := cell9s b4.out; have hl4 := blk_lt b4.out; have ne4 : ¬ w.heap.size = w4.heap.size := (by omega); have nf4 : ¬ w4.heap.size = w.heap.size := (by omega))
    | (go_at_call 40; (with_reducible refine (dlen_w t 5 1000 [] _ k4.out).use ?_); rintro v w5 ⟨rfl, hu5⟩)
    | (go_at_call 35; (with_reducible refine (dlive_w _).use ?_); rintro v w8 ⟨rfl, hu8⟩)
    | (with_reducible refine wp_serial (by kernel_rfl) (by kernel_rfl) (by (repeat (first | (with_reducible apply NoBad.then) | (with_reducible apply NoBad.inBlock) | (with_reducible exact NoBad.rets))); done) ?_) | fail)
  all_goals go_returns
  all_goals exact ⟨rfl, (by (repeat (first | (with_reducible exact Upd.refl _ _) | (with_reducible assumption) | (with_reducible apply Upd.drew) | (with_reducible apply Upd.alloc) | (refine Upd0.tr ?_ (by with_reducible assumption)) | (refine UpdP.fin ?_ (by with_reducible assumption)) | (refine UpdR.fin ?_ (by with_reducible assumption)) | (refine UpdS.fin ?_ (by with_reducible assumption)) | (refine Upd.setCell ?_ (fun h => absurd h (by first | exact Nat.lt_irrefl _ | (simp only []; omega))) _))); done)⟩
set_option maxRecDepth 100000 in
set_option maxHeartbeats 4000000 in
theorem hold_is0 (o : OpD) (other later : Int) (hs : o.sh = true) (a0 : 0 ≤ o.now) (a1 : o.now ≤ 1000000) (a2 : o.now ≤ later) (a3 : later ≤ 2000000) (hT : timeB o.r = true) (hO : putOk o.q o.ty o.k o.now = true) (hp : put 5 1000 [] o.q o.ty o.k o.r o.now = (0, hdL o.q o.ty o.k o.r o.now)) (hl : ¬ later < o.now + min (timeN o.r) 1000) (w : World) : Calls Try.prog 12 #[o.val, .int .i64 other, .int .i64 later] w (Rets fun r w' => r = .bool true ∧ Upd0 w w') := by
  have hw : ∀ w, Calls Try.prog 34 #[o.val] w (Rets fun r w' => r = .bool true ∧ Upd0 w w') := fun w => hs ▸ dshort_w o w
  have hwh := Lib.hid hw
  clear hw
  obtain ⟨dO, q, ty, k, ⟨nm, rt, tl, d⟩, now⟩ := o
  simp only [OpD.sh, Bool.and_eq_true, decide_eq_true_eq] at hs
  obtain ⟨l1, l2, l3⟩ := hs
  simp only [OpD.val] at hwh hp hT hO hl ⊢
  simp only [] at a0 a1 a2
  have n0 : ¬ now < 0 := by omega
  have n1 : ¬ 1000000 < now := by omega
  have n2 : ¬ later < now := by omega
  have n3 : ¬ 2000000 < later := by omega
  have hbT := timeN_bound ⟨nm, rt, tl, d⟩
  have g1 := hd_get hO a0 a2 a3 (r := ⟨nm, rt, tl, d⟩)
  obtain ⟨x1, x2, x3, x4, x5, g2⟩ := hd_get2 other hO a0 a2 a3 (r := ⟨nm, rt, tl, d⟩)
  have hC := hd_code hT
  have hTm0 : ∀ w1, Calls Try.prog 41 #[.agg #[.string ⟨nm.toArray⟩, .int .i64 rt, .int .i64 tl, .string ⟨d.toArray⟩]] w1 (Rets fun r w' => r = .tuple #[.int .i64 (timeN ⟨nm, rt, tl, d⟩), .int .i64 0] ∧ Upd0 w1 w') := fun w1 => hC ▸ time_w nm rt tl d (by omega) (by omega) w1
  obtain ⟨T, hTe⟩ : ∃ T, timeN ⟨nm, rt, tl, d⟩ = T := ⟨_, rfl⟩
  obtain ⟨E, hE⟩ : ∃ E, hdL q ty k ⟨nm, rt, tl, d⟩ now = E := ⟨_, rfl⟩
  rw [hTe] at hl hbT g1 g2 hTm0
  rw [hE] at g1 g2 hp
  rw [if_neg hl] at g1
  simp only [decide_eq_false hl, Bool.false_and] at g2
  obtain ⟨b1', b2'⟩ := hbT
  have hPt : ∀ (t : Nat) (w1 : World), Sto w.heap.size w1 t 5 1000 [] → Calls Try.prog 38 #[.pointer (some ⟨t, 0, none⟩), .agg #[.string ⟨q.toArray⟩, .int .i64 ty], .int .i64 k, .agg #[.string ⟨nm.toArray⟩, .int .i64 rt, .int .i64 tl, .string ⟨d.toArray⟩], .int .i64 now] w1 (Rets fun r w' => r = .int .i64 0 ∧ UpdS w.heap.size w1 w' ∧ Sto w.heap.size w' t 5 1000 E) := fun t w1 h => by
    have := dput_w t 5 1000 [] q ty k nm rt tl d now (by omega) (by omega) (by omega) w1 h
    rw [hp] at this
    exact this
  have hG1 : ∀ (t : Nat) (w1 : World), Sto w.heap.size w1 t 5 1000 E → Calls Try.prog 37 #[.pointer (some ⟨t, 0, none⟩), .agg #[.string ⟨q.toArray⟩, .int .i64 ty], .int .i64 later] w1 (Rets fun r w' => r = getV 0 [] 0 0 [] false ∧ Upd0 w1 w') := fun t w1 h => by
    have := dget_w h q ty later (by omega)
    rw [g1] at this
    exact this
  have hG2 : ∀ (t : Nat) (w1 : World), Sto w.heap.size w1 t 5 1000 E → Calls Try.prog 37 #[.pointer (some ⟨t, 0, none⟩), .agg #[.string ⟨(fold q).toArray⟩, .int .i64 other], .int .i64 later] w1 (Rets fun r w' => r = getV x1 x2 x3 x4 x5 false ∧ Upd0 w1 w') := fun t w1 h => by
    have := dget_w h (fold q) other later (by rw [fold_len]; omega)
    rw [g2] at this
    exact this
  have hTm := Lib.hid hTm0
  have hPt := Lib.hid hPt
  have hG1 := Lib.hid hG1
  have hG2 := Lib.hid hG2
  have tk1 : True := trivial
  clear hp g1 g2 hTe hE hT hO hC hTm0
  go_enter Try.func12, Try.ntmps12
  go_wp2_with (first
    | (go_at_call 34; (with_reducible refine (hwh.out _).use ?_); rintro v w1 ⟨rfl, hu1⟩; have b1 := Lib.hid (show w1.heap[w.heap.size]? = some (.cells #[.int .i64 dO, .string ⟨q.toArray⟩, .int .i64 ty, .int .i64 k, .string ⟨nm.toArray⟩, .int .i64 rt, .int .i64 tl, .string ⟨d.toArray⟩, .int .i64 now] 50 (0, 0)) from hu1.block (fun h => h) (by first | exact alloc_last _ _ _ rfl | exact blk_alloc (alloc_last _ _ _ rfl) | exact blk_alloc (blk_alloc (alloc_last _ _ _ rfl)))); obtain ⟨q10, q11, q12, q13, q14, q15, q16, q17, q18⟩ := cell9s b1.out; have hl1 := blk_lt b1.out; have ne1 : ¬ w.heap.size = w1.heap.size := (by omega); have nf1 : ¬ w1.heap.size = w.heap.size := (by omega))
    | (go_at_call 36; (with_reducible refine (dnew_w (B := w.heap.size) 5 1000 (by decide) (by decide) (by decide) (by decide) _ (by have := hl1; omega)).use ?_); rintro v w2 ⟨t, rfl, hu2, hc2⟩; have k2 := Lib.hid hc2; clear hc2; have b2 := Lib.hid (show w2.heap[w.heap.size]? = some (.cells #[.int .i64 dO, .string ⟨q.toArray⟩, .int .i64 ty, .int .i64 k, .string ⟨nm.toArray⟩, .int .i64 rt, .int .i64 tl, .string ⟨d.toArray⟩, .int .i64 now] 50 (0, 0)) from hu2.block (fun h => h) (by first | exact b1.out | exact blk_alloc b1.out | exact blk_alloc (blk_alloc b1.out) | exact blk_alloc (blk_alloc (blk_alloc b1.out)))); obtain ⟨q20, q21, q22, q23, q24, q25, q26, q27, q28⟩ := cell9s b2.out; have hl2 := blk_lt b2.out; have ne2 : ¬ w.heap.size = w2.heap.size := (by omega); have nf2 : ¬ w2.heap.size = w.heap.size := (by omega))
    | (go_at_call 41; (with_reducible refine (hTm.out _).use ?_); rintro v w3 ⟨rfl, hu3⟩; have k3 := Lib.hid (k2.out.to0 (show Upd0 w2 w3 from (by (repeat (first | (with_reducible exact Upd.refl _ _) | (with_reducible assumption) | (with_reducible apply Upd.drew) | (with_reducible apply Upd.alloc) | (refine Upd0.tr ?_ (by with_reducible assumption)) | (refine Upd.setCell ?_ (fun h => absurd h (by first | exact Nat.lt_irrefl _ | (simp only []; omega))) _))); done))); have b3 := Lib.hid (show w3.heap[w.heap.size]? = some (.cells #[.int .i64 dO, .string ⟨q.toArray⟩, .int .i64 ty, .int .i64 k, .string ⟨nm.toArray⟩, .int .i64 rt, .int .i64 tl, .string ⟨d.toArray⟩, .int .i64 now] 50 (0, 0)) from hu3.block (fun h => h) (by first | exact b2.out | exact blk_alloc b2.out | exact blk_alloc (blk_alloc b2.out) | exact blk_alloc (blk_alloc (blk_alloc b2.out)))); obtain ⟨q30, q31, q32, q33, q34, q35, q36, q37, q38⟩ := cell9s b3.out; have hl3 := blk_lt b3.out; have ne3 : ¬ w.heap.size = w3.heap.size := (by omega); have nf3 : ¬ w3.heap.size = w.heap.size := (by omega))
    | (go_at_call 38; (with_reducible refine (hPt.out t _ k3.out).use ?_); rintro v w4 ⟨rfl, hu4, hc4⟩; have k4 := Lib.hid hc4; clear hc4; have b4 := Lib.hid (show w4.heap[w.heap.size]? = some (.cells #[.int .i64 dO, .string ⟨q.toArray⟩, .int .i64 ty, .int .i64 k, .string ⟨nm.toArray⟩, .int .i64 rt, .int .i64 tl, .string ⟨d.toArray⟩, .int .i64 now] 50 (0, 0)) from hu4.other (by first | exact b3.out | exact blk_alloc b3.out | exact blk_alloc (blk_alloc b3.out) | exact blk_alloc (blk_alloc (blk_alloc b3.out))) rfl); obtain ⟨q40, q41, q42, q43, q44, q45, q46, q47, q48⟩ := cell9s b4.out; have hl4 := blk_lt b4.out; have ne4 : ¬ w.heap.size = w4.heap.size := (by omega); have nf4 : ¬ w4.heap.size = w.heap.size := (by omega))
    | (go_at_call 37; have _t := tk1; (with_reducible refine (hG1.out t _ k4.out).use ?_); rintro v w5 ⟨rfl, hu5⟩; have k5 := Lib.hid (k4.out.to0 hu5); simp only [getV]; have b5 := Lib.hid (show w5.heap[w.heap.size]? = some (.cells #[.int .i64 dO, .string ⟨q.toArray⟩, .int .i64 ty, .int .i64 k, .string ⟨nm.toArray⟩, .int .i64 rt, .int .i64 tl, .string ⟨d.toArray⟩, .int .i64 now] 50 (0, 0)) from hu5.block (fun h => h) (by first | exact b4.out | exact blk_alloc b4.out | exact blk_alloc (blk_alloc b4.out) | exact blk_alloc (blk_alloc (blk_alloc b4.out)))); obtain ⟨q50, q51, q52, q53, q54, q55, q56, q57, q58⟩ := cell9s b5.out; have hl5 := blk_lt b5.out; have ne5 : ¬ w.heap.size = w5.heap.size := (by omega); have nf5 : ¬ w5.heap.size = w.heap.size := (by omega); clear tk1 _t)
    | (go_at_call 28; (with_reducible refine (rfold_w q (by omega) _).use ?_); rintro v w6 ⟨rfl, hu6⟩; have k6 := Lib.hid (k5.out.to0 (show Upd0 w5 w6 from (by (repeat (first | (with_reducible exact Upd.refl _ _) | (with_reducible assumption) | (with_reducible apply Upd.drew) | (with_reducible apply Upd.alloc) | (refine Upd0.tr ?_ (by with_reducible assumption)) | (refine Upd.setCell ?_ (fun h => absurd h (by first | exact Nat.lt_irrefl _ | (simp only []; omega))) _))); done))); have b6 := Lib.hid (show w6.heap[w.heap.size]? = some (.cells #[.int .i64 dO, .string ⟨q.toArray⟩, .int .i64 ty, .int .i64 k, .string ⟨nm.toArray⟩, .int .i64 rt, .int .i64 tl, .string ⟨d.toArray⟩, .int .i64 now] 50 (0, 0)) from hu6.block (fun h => h) (by first | exact b5.out | exact blk_alloc b5.out | exact blk_alloc (blk_alloc b5.out) | exact blk_alloc (blk_alloc (blk_alloc b5.out)))); obtain ⟨q60, q61, q62, q63, q64, q65, q66, q67, q68⟩ := cell9s b6.out; have hl6 := blk_lt b6.out; have ne6 : ¬ w.heap.size = w6.heap.size := (by omega); have nf6 : ¬ w6.heap.size = w.heap.size := (by omega))
    | (go_at_call 37; (with_reducible refine (hG2.out t _ k6.out).use ?_); rintro v w7 ⟨rfl, hu7⟩; simp only [getV]; have b7 := Lib.hid (show w7.heap[w.heap.size]? = some (.cells #[.int .i64 dO, .string ⟨q.toArray⟩, .int .i64 ty, .int .i64 k, .string ⟨nm.toArray⟩, .int .i64 rt, .int .i64 tl, .string ⟨d.toArray⟩, .int .i64 now] 50 (0, 0)) from hu7.block (fun h => h) (by first | exact b6.out | exact blk_alloc b6.out | exact blk_alloc (blk_alloc b6.out) | exact blk_alloc (blk_alloc (blk_alloc b6.out)))); obtain ⟨q70, q71, q72, q73, q74, q75, q76, q77, q78⟩ := cell9s b7.out; have hl7 := blk_lt b7.out; have ne7 : ¬ w.heap.size = w7.heap.size := (by omega); have nf7 : ¬ w7.heap.size = w.heap.size := (by omega))
    | (go_at_call 35; (with_reducible refine (dlive_w _).use ?_); rintro v w8 ⟨rfl, hu8⟩)
    | (with_reducible refine wp_serial (by kernel_rfl) (by kernel_rfl) (by (repeat (first | (with_reducible apply NoBad.then) | (with_reducible apply NoBad.inBlock) | (with_reducible exact NoBad.rets))); done) ?_) | fail)
  all_goals go_returns
  all_goals exact ⟨by first | rfl | (show Value.bool _ = Value.bool true; congr 1; simp; omega), (by (repeat (first | (with_reducible exact Upd.refl _ _) | (with_reducible assumption) | (with_reducible apply Upd.drew) | (with_reducible apply Upd.alloc) | (refine Upd0.tr ?_ (by with_reducible assumption)) | (refine UpdP.fin ?_ (by with_reducible assumption)) | (refine UpdR.fin ?_ (by with_reducible assumption)) | (refine UpdS.fin ?_ (by with_reducible assumption)) | (refine Upd.setCell ?_ (fun h => absurd h (by first | exact Nat.lt_irrefl _ | (simp only []; omega))) _))); done)⟩
set_option maxRecDepth 100000 in
set_option maxHeartbeats 4000000 in
theorem hold_is1 (o : OpD) (other later : Int) (hs : o.sh = true) (a0 : 0 ≤ o.now) (a1 : o.now ≤ 1000000) (a2 : o.now ≤ later) (a3 : later ≤ 2000000) (hT : timeB o.r = true) (hO : putOk o.q o.ty o.k o.now = true) (hp : put 5 1000 [] o.q o.ty o.k o.r o.now = (0, hdL o.q o.ty o.k o.r o.now)) (hl : later < o.now + min (timeN o.r) 1000) (hk : o.k = 2) (w : World) : Calls Try.prog 12 #[o.val, .int .i64 other, .int .i64 later] w (Rets fun r w' => r = .bool true ∧ Upd0 w w') := by
  have hw : ∀ w, Calls Try.prog 34 #[o.val] w (Rets fun r w' => r = .bool true ∧ Upd0 w w') := fun w => hs ▸ dshort_w o w
  have hwh := Lib.hid hw
  clear hw
  obtain ⟨dO, q, ty, k, ⟨nm, rt, tl, d⟩, now⟩ := o
  simp only [OpD.sh, Bool.and_eq_true, decide_eq_true_eq] at hs
  obtain ⟨l1, l2, l3⟩ := hs
  simp only [OpD.val] at hwh hp hT hO hl hk ⊢
  simp only [] at a0 a1 a2
  have n0 : ¬ now < 0 := by omega
  have n1 : ¬ 1000000 < now := by omega
  have n2 : ¬ later < now := by omega
  have n3 : ¬ 2000000 < later := by omega
  have hbT := timeN_bound ⟨nm, rt, tl, d⟩
  have g1 := hd_get hO a0 a2 a3 (r := ⟨nm, rt, tl, d⟩)
  obtain ⟨x1, x2, x3, x4, x5, g2⟩ := hd_get2 other hO a0 a2 a3 (r := ⟨nm, rt, tl, d⟩)
  have hC := hd_code hT
  have hTm0 : ∀ w1, Calls Try.prog 41 #[.agg #[.string ⟨nm.toArray⟩, .int .i64 rt, .int .i64 tl, .string ⟨d.toArray⟩]] w1 (Rets fun r w' => r = .tuple #[.int .i64 (timeN ⟨nm, rt, tl, d⟩), .int .i64 0] ∧ Upd0 w1 w') := fun w1 => hC ▸ time_w nm rt tl d (by omega) (by omega) w1
  obtain ⟨T, hTe⟩ : ∃ T, timeN ⟨nm, rt, tl, d⟩ = T := ⟨_, rfl⟩
  obtain ⟨E, hE⟩ : ∃ E, hdL q ty k ⟨nm, rt, tl, d⟩ now = E := ⟨_, rfl⟩
  rw [hTe] at hl hbT g1 g2 hTm0
  rw [hE] at g1 g2 hp
  rw [if_pos hl] at g1
  simp only [decide_eq_true hl, Bool.true_and, decide_eq_true hk, Bool.true_or] at g2
  obtain ⟨b1', b2'⟩ := hbT
  have hPt : ∀ (t : Nat) (w1 : World), Sto w.heap.size w1 t 5 1000 [] → Calls Try.prog 38 #[.pointer (some ⟨t, 0, none⟩), .agg #[.string ⟨q.toArray⟩, .int .i64 ty], .int .i64 k, .agg #[.string ⟨nm.toArray⟩, .int .i64 rt, .int .i64 tl, .string ⟨d.toArray⟩], .int .i64 now] w1 (Rets fun r w' => r = .int .i64 0 ∧ UpdS w.heap.size w1 w' ∧ Sto w.heap.size w' t 5 1000 E) := fun t w1 h => by
    have := dput_w t 5 1000 [] q ty k nm rt tl d now (by omega) (by omega) (by omega) w1 h
    rw [hp] at this
    exact this
  have hG1 : ∀ (t : Nat) (w1 : World), Sto w.heap.size w1 t 5 1000 E → Calls Try.prog 37 #[.pointer (some ⟨t, 0, none⟩), .agg #[.string ⟨q.toArray⟩, .int .i64 ty], .int .i64 later] w1 (Rets fun r w' => r = getV k nm rt (now + min T 1000 - later) d true ∧ Upd0 w1 w') := fun t w1 h => by
    have := dget_w h q ty later (by omega)
    rw [g1] at this
    exact this
  have hG2 : ∀ (t : Nat) (w1 : World), Sto w.heap.size w1 t 5 1000 E → Calls Try.prog 37 #[.pointer (some ⟨t, 0, none⟩), .agg #[.string ⟨(fold q).toArray⟩, .int .i64 other], .int .i64 later] w1 (Rets fun r w' => r = getV x1 x2 x3 x4 x5 true ∧ Upd0 w1 w') := fun t w1 h => by
    have := dget_w h (fold q) other later (by rw [fold_len]; omega)
    rw [g2] at this
    exact this
  have hTm := Lib.hid hTm0
  have hPt := Lib.hid hPt
  have hG1 := Lib.hid hG1
  have hG2 := Lib.hid hG2
  have tk1 : True := trivial
  clear hp g1 g2 hTe hE hT hO hC hTm0
  have hwr : wrap64 (now + min T 1000 - later) = now + min T 1000 - later := by unfold wrap64; omega
  subst hk
  go_enter Try.func12, Try.ntmps12
  go_wp2_with (first
    | (go_at_call 34; (with_reducible refine (hwh.out _).use ?_); rintro v w1 ⟨rfl, hu1⟩; have b1 := Lib.hid (show w1.heap[w.heap.size]? = some (.cells #[.int .i64 dO, .string ⟨q.toArray⟩, .int .i64 ty, .int .i64 2, .string ⟨nm.toArray⟩, .int .i64 rt, .int .i64 tl, .string ⟨d.toArray⟩, .int .i64 now] 50 (0, 0)) from hu1.block (fun h => h) (by first | exact alloc_last _ _ _ rfl | exact blk_alloc (alloc_last _ _ _ rfl) | exact blk_alloc (blk_alloc (alloc_last _ _ _ rfl)))); obtain ⟨q10, q11, q12, q13, q14, q15, q16, q17, q18⟩ := cell9s b1.out; have hl1 := blk_lt b1.out; have ne1 : ¬ w.heap.size = w1.heap.size := (by omega); have nf1 : ¬ w1.heap.size = w.heap.size := (by omega))
    | (go_at_call 36; (with_reducible refine (dnew_w (B := w.heap.size) 5 1000 (by decide) (by decide) (by decide) (by decide) _ (by have := hl1; omega)).use ?_); rintro v w2 ⟨t, rfl, hu2, hc2⟩; have k2 := Lib.hid hc2; clear hc2; have b2 := Lib.hid (show w2.heap[w.heap.size]? = some (.cells #[.int .i64 dO, .string ⟨q.toArray⟩, .int .i64 ty, .int .i64 2, .string ⟨nm.toArray⟩, .int .i64 rt, .int .i64 tl, .string ⟨d.toArray⟩, .int .i64 now] 50 (0, 0)) from hu2.block (fun h => h) (by first | exact b1.out | exact blk_alloc b1.out | exact blk_alloc (blk_alloc b1.out) | exact blk_alloc (blk_alloc (blk_alloc b1.out)))); obtain ⟨q20, q21, q22, q23, q24, q25, q26, q27, q28⟩ := cell9s b2.out; have hl2 := blk_lt b2.out; have ne2 : ¬ w.heap.size = w2.heap.size := (by omega); have nf2 : ¬ w2.heap.size = w.heap.size := (by omega))
    | (go_at_call 41; (with_reducible refine (hTm.out _).use ?_); rintro v w3 ⟨rfl, hu3⟩; have k3 := Lib.hid (k2.out.to0 (show Upd0 w2 w3 from (by (repeat (first | (with_reducible exact Upd.refl _ _) | (with_reducible assumption) | (with_reducible apply Upd.drew) | (with_reducible apply Upd.alloc) | (refine Upd0.tr ?_ (by with_reducible assumption)) | (refine Upd.setCell ?_ (fun h => absurd h (by first | exact Nat.lt_irrefl _ | (simp only []; omega))) _))); done))); have b3 := Lib.hid (show w3.heap[w.heap.size]? = some (.cells #[.int .i64 dO, .string ⟨q.toArray⟩, .int .i64 ty, .int .i64 2, .string ⟨nm.toArray⟩, .int .i64 rt, .int .i64 tl, .string ⟨d.toArray⟩, .int .i64 now] 50 (0, 0)) from hu3.block (fun h => h) (by first | exact b2.out | exact blk_alloc b2.out | exact blk_alloc (blk_alloc b2.out) | exact blk_alloc (blk_alloc (blk_alloc b2.out)))); obtain ⟨q30, q31, q32, q33, q34, q35, q36, q37, q38⟩ := cell9s b3.out; have hl3 := blk_lt b3.out; have ne3 : ¬ w.heap.size = w3.heap.size := (by omega); have nf3 : ¬ w3.heap.size = w.heap.size := (by omega))
    | (go_at_call 38; (with_reducible refine (hPt.out t _ k3.out).use ?_); rintro v w4 ⟨rfl, hu4, hc4⟩; have k4 := Lib.hid hc4; clear hc4; have b4 := Lib.hid (show w4.heap[w.heap.size]? = some (.cells #[.int .i64 dO, .string ⟨q.toArray⟩, .int .i64 ty, .int .i64 2, .string ⟨nm.toArray⟩, .int .i64 rt, .int .i64 tl, .string ⟨d.toArray⟩, .int .i64 now] 50 (0, 0)) from hu4.other (by first | exact b3.out | exact blk_alloc b3.out | exact blk_alloc (blk_alloc b3.out) | exact blk_alloc (blk_alloc (blk_alloc b3.out))) rfl); obtain ⟨q40, q41, q42, q43, q44, q45, q46, q47, q48⟩ := cell9s b4.out; have hl4 := blk_lt b4.out; have ne4 : ¬ w.heap.size = w4.heap.size := (by omega); have nf4 : ¬ w4.heap.size = w.heap.size := (by omega))
    | (go_at_call 37; have _t := tk1; (with_reducible refine (hG1.out t _ k4.out).use ?_); rintro v w5 ⟨rfl, hu5⟩; have k5 := Lib.hid (k4.out.to0 hu5); simp only [getV]; have b5 := Lib.hid (show w5.heap[w.heap.size]? = some (.cells #[.int .i64 dO, .string ⟨q.toArray⟩, .int .i64 ty, .int .i64 2, .string ⟨nm.toArray⟩, .int .i64 rt, .int .i64 tl, .string ⟨d.toArray⟩, .int .i64 now] 50 (0, 0)) from hu5.block (fun h => h) (by first | exact b4.out | exact blk_alloc b4.out | exact blk_alloc (blk_alloc b4.out) | exact blk_alloc (blk_alloc (blk_alloc b4.out)))); obtain ⟨q50, q51, q52, q53, q54, q55, q56, q57, q58⟩ := cell9s b5.out; have hl5 := blk_lt b5.out; have ne5 : ¬ w.heap.size = w5.heap.size := (by omega); have nf5 : ¬ w5.heap.size = w.heap.size := (by omega); clear tk1 _t)
    | (go_at_call 28; (with_reducible refine (rfold_w q (by omega) _).use ?_); rintro v w6 ⟨rfl, hu6⟩; have k6 := Lib.hid (k5.out.to0 (show Upd0 w5 w6 from (by (repeat (first | (with_reducible exact Upd.refl _ _) | (with_reducible assumption) | (with_reducible apply Upd.drew) | (with_reducible apply Upd.alloc) | (refine Upd0.tr ?_ (by with_reducible assumption)) | (refine Upd.setCell ?_ (fun h => absurd h (by first | exact Nat.lt_irrefl _ | (simp only []; omega))) _))); done))); have b6 := Lib.hid (show w6.heap[w.heap.size]? = some (.cells #[.int .i64 dO, .string ⟨q.toArray⟩, .int .i64 ty, .int .i64 2, .string ⟨nm.toArray⟩, .int .i64 rt, .int .i64 tl, .string ⟨d.toArray⟩, .int .i64 now] 50 (0, 0)) from hu6.block (fun h => h) (by first | exact b5.out | exact blk_alloc b5.out | exact blk_alloc (blk_alloc b5.out) | exact blk_alloc (blk_alloc (blk_alloc b5.out)))); obtain ⟨q60, q61, q62, q63, q64, q65, q66, q67, q68⟩ := cell9s b6.out; have hl6 := blk_lt b6.out; have ne6 : ¬ w.heap.size = w6.heap.size := (by omega); have nf6 : ¬ w6.heap.size = w.heap.size := (by omega))
    | (go_at_call 37; (with_reducible refine (hG2.out t _ k6.out).use ?_); rintro v w7 ⟨rfl, hu7⟩; simp only [getV]; have b7 := Lib.hid (show w7.heap[w.heap.size]? = some (.cells #[.int .i64 dO, .string ⟨q.toArray⟩, .int .i64 ty, .int .i64 2, .string ⟨nm.toArray⟩, .int .i64 rt, .int .i64 tl, .string ⟨d.toArray⟩, .int .i64 now] 50 (0, 0)) from hu7.block (fun h => h) (by first | exact b6.out | exact blk_alloc b6.out | exact blk_alloc (blk_alloc b6.out) | exact blk_alloc (blk_alloc (blk_alloc b6.out)))); obtain ⟨q70, q71, q72, q73, q74, q75, q76, q77, q78⟩ := cell9s b7.out; have hl7 := blk_lt b7.out; have ne7 : ¬ w.heap.size = w7.heap.size := (by omega); have nf7 : ¬ w7.heap.size = w.heap.size := (by omega))
    | (go_at_call 35; (with_reducible refine (dlive_w _).use ?_); rintro v w8 ⟨rfl, hu8⟩)
    | (with_reducible refine wp_serial (by kernel_rfl) (by kernel_rfl) (by (repeat (first | (with_reducible apply NoBad.then) | (with_reducible apply NoBad.inBlock) | (with_reducible exact NoBad.rets))); done) ?_) | fail)
  all_goals go_returns
  all_goals exact ⟨by first | rfl | (show Value.bool _ = Value.bool true; congr 1; simp; omega), (by (repeat (first | (with_reducible exact Upd.refl _ _) | (with_reducible assumption) | (with_reducible apply Upd.drew) | (with_reducible apply Upd.alloc) | (refine Upd0.tr ?_ (by with_reducible assumption)) | (refine UpdP.fin ?_ (by with_reducible assumption)) | (refine UpdR.fin ?_ (by with_reducible assumption)) | (refine UpdS.fin ?_ (by with_reducible assumption)) | (refine Upd.setCell ?_ (fun h => absurd h (by first | exact Nat.lt_irrefl _ | (simp only []; omega))) _))); done)⟩
set_option maxRecDepth 100000 in
set_option maxHeartbeats 4000000 in
theorem hold_is2 (o : OpD) (other later : Int) (hs : o.sh = true) (a0 : 0 ≤ o.now) (a1 : o.now ≤ 1000000) (a2 : o.now ≤ later) (a3 : later ≤ 2000000) (hT : timeB o.r = true) (hO : putOk o.q o.ty o.k o.now = true) (hp : put 5 1000 [] o.q o.ty o.k o.r o.now = (0, hdL o.q o.ty o.k o.r o.now)) (hl : later < o.now + min (timeN o.r) 1000) (hk : ¬ o.k = 2) (ho : other = o.ty) (w : World) : Calls Try.prog 12 #[o.val, .int .i64 other, .int .i64 later] w (Rets fun r w' => r = .bool true ∧ Upd0 w w') := by
  have hw : ∀ w, Calls Try.prog 34 #[o.val] w (Rets fun r w' => r = .bool true ∧ Upd0 w w') := fun w => hs ▸ dshort_w o w
  have hwh := Lib.hid hw
  clear hw
  obtain ⟨dO, q, ty, k, ⟨nm, rt, tl, d⟩, now⟩ := o
  simp only [OpD.sh, Bool.and_eq_true, decide_eq_true_eq] at hs
  obtain ⟨l1, l2, l3⟩ := hs
  simp only [OpD.val] at hwh hp hT hO hl hk ho ⊢
  simp only [] at a0 a1 a2
  have n0 : ¬ now < 0 := by omega
  have n1 : ¬ 1000000 < now := by omega
  have n2 : ¬ later < now := by omega
  have n3 : ¬ 2000000 < later := by omega
  have hbT := timeN_bound ⟨nm, rt, tl, d⟩
  have g1 := hd_get hO a0 a2 a3 (r := ⟨nm, rt, tl, d⟩)
  obtain ⟨x1, x2, x3, x4, x5, g2⟩ := hd_get2 other hO a0 a2 a3 (r := ⟨nm, rt, tl, d⟩)
  have hC := hd_code hT
  have hTm0 : ∀ w1, Calls Try.prog 41 #[.agg #[.string ⟨nm.toArray⟩, .int .i64 rt, .int .i64 tl, .string ⟨d.toArray⟩]] w1 (Rets fun r w' => r = .tuple #[.int .i64 (timeN ⟨nm, rt, tl, d⟩), .int .i64 0] ∧ Upd0 w1 w') := fun w1 => hC ▸ time_w nm rt tl d (by omega) (by omega) w1
  obtain ⟨T, hTe⟩ : ∃ T, timeN ⟨nm, rt, tl, d⟩ = T := ⟨_, rfl⟩
  obtain ⟨E, hE⟩ : ∃ E, hdL q ty k ⟨nm, rt, tl, d⟩ now = E := ⟨_, rfl⟩
  rw [hTe] at hl hbT g1 g2 hTm0
  rw [hE] at g1 g2 hp
  rw [if_pos hl] at g1
  simp only [decide_eq_true hl, Bool.true_and, decide_eq_false hk, decide_eq_true ho, Bool.false_or] at g2
  obtain ⟨b1', b2'⟩ := hbT
  have hPt : ∀ (t : Nat) (w1 : World), Sto w.heap.size w1 t 5 1000 [] → Calls Try.prog 38 #[.pointer (some ⟨t, 0, none⟩), .agg #[.string ⟨q.toArray⟩, .int .i64 ty], .int .i64 k, .agg #[.string ⟨nm.toArray⟩, .int .i64 rt, .int .i64 tl, .string ⟨d.toArray⟩], .int .i64 now] w1 (Rets fun r w' => r = .int .i64 0 ∧ UpdS w.heap.size w1 w' ∧ Sto w.heap.size w' t 5 1000 E) := fun t w1 h => by
    have := dput_w t 5 1000 [] q ty k nm rt tl d now (by omega) (by omega) (by omega) w1 h
    rw [hp] at this
    exact this
  have hG1 : ∀ (t : Nat) (w1 : World), Sto w.heap.size w1 t 5 1000 E → Calls Try.prog 37 #[.pointer (some ⟨t, 0, none⟩), .agg #[.string ⟨q.toArray⟩, .int .i64 ty], .int .i64 later] w1 (Rets fun r w' => r = getV k nm rt (now + min T 1000 - later) d true ∧ Upd0 w1 w') := fun t w1 h => by
    have := dget_w h q ty later (by omega)
    rw [g1] at this
    exact this
  have hG2 : ∀ (t : Nat) (w1 : World), Sto w.heap.size w1 t 5 1000 E → Calls Try.prog 37 #[.pointer (some ⟨t, 0, none⟩), .agg #[.string ⟨(fold q).toArray⟩, .int .i64 other], .int .i64 later] w1 (Rets fun r w' => r = getV x1 x2 x3 x4 x5 true ∧ Upd0 w1 w') := fun t w1 h => by
    have := dget_w h (fold q) other later (by rw [fold_len]; omega)
    rw [g2] at this
    exact this
  have hTm := Lib.hid hTm0
  have hPt := Lib.hid hPt
  have hG1 := Lib.hid hG1
  have hG2 := Lib.hid hG2
  have tk1 : True := trivial
  clear hp g1 g2 hTe hE hT hO hC hTm0
  have hwr : wrap64 (now + min T 1000 - later) = now + min T 1000 - later := by unfold wrap64; omega
  have ho := ho.symm
  subst ho
  go_enter Try.func12, Try.ntmps12
  go_wp2_with (first
    | (go_at_call 34; (with_reducible refine (hwh.out _).use ?_); rintro v w1 ⟨rfl, hu1⟩; have b1 := Lib.hid (show w1.heap[w.heap.size]? = some (.cells #[.int .i64 dO, .string ⟨q.toArray⟩, .int .i64 ty, .int .i64 k, .string ⟨nm.toArray⟩, .int .i64 rt, .int .i64 tl, .string ⟨d.toArray⟩, .int .i64 now] 50 (0, 0)) from hu1.block (fun h => h) (by first | exact alloc_last _ _ _ rfl | exact blk_alloc (alloc_last _ _ _ rfl) | exact blk_alloc (blk_alloc (alloc_last _ _ _ rfl)))); obtain ⟨q10, q11, q12, q13, q14, q15, q16, q17, q18⟩ := cell9s b1.out; have hl1 := blk_lt b1.out; have ne1 : ¬ w.heap.size = w1.heap.size := (by omega); have nf1 : ¬ w1.heap.size = w.heap.size := (by omega))
    | (go_at_call 36; (with_reducible refine (dnew_w (B := w.heap.size) 5 1000 (by decide) (by decide) (by decide) (by decide) _ (by have := hl1; omega)).use ?_); rintro v w2 ⟨t, rfl, hu2, hc2⟩; have k2 := Lib.hid hc2; clear hc2; have b2 := Lib.hid (show w2.heap[w.heap.size]? = some (.cells #[.int .i64 dO, .string ⟨q.toArray⟩, .int .i64 ty, .int .i64 k, .string ⟨nm.toArray⟩, .int .i64 rt, .int .i64 tl, .string ⟨d.toArray⟩, .int .i64 now] 50 (0, 0)) from hu2.block (fun h => h) (by first | exact b1.out | exact blk_alloc b1.out | exact blk_alloc (blk_alloc b1.out) | exact blk_alloc (blk_alloc (blk_alloc b1.out)))); obtain ⟨q20, q21, q22, q23, q24, q25, q26, q27, q28⟩ := cell9s b2.out; have hl2 := blk_lt b2.out; have ne2 : ¬ w.heap.size = w2.heap.size := (by omega); have nf2 : ¬ w2.heap.size = w.heap.size := (by omega))
    | (go_at_call 41; (with_reducible refine (hTm.out _).use ?_); rintro v w3 ⟨rfl, hu3⟩; have k3 := Lib.hid (k2.out.to0 (show Upd0 w2 w3 from (by (repeat (first | (with_reducible exact Upd.refl _ _) | (with_reducible assumption) | (with_reducible apply Upd.drew) | (with_reducible apply Upd.alloc) | (refine Upd0.tr ?_ (by with_reducible assumption)) | (refine Upd.setCell ?_ (fun h => absurd h (by first | exact Nat.lt_irrefl _ | (simp only []; omega))) _))); done))); have b3 := Lib.hid (show w3.heap[w.heap.size]? = some (.cells #[.int .i64 dO, .string ⟨q.toArray⟩, .int .i64 ty, .int .i64 k, .string ⟨nm.toArray⟩, .int .i64 rt, .int .i64 tl, .string ⟨d.toArray⟩, .int .i64 now] 50 (0, 0)) from hu3.block (fun h => h) (by first | exact b2.out | exact blk_alloc b2.out | exact blk_alloc (blk_alloc b2.out) | exact blk_alloc (blk_alloc (blk_alloc b2.out)))); obtain ⟨q30, q31, q32, q33, q34, q35, q36, q37, q38⟩ := cell9s b3.out; have hl3 := blk_lt b3.out; have ne3 : ¬ w.heap.size = w3.heap.size := (by omega); have nf3 : ¬ w3.heap.size = w.heap.size := (by omega))
    | (go_at_call 38; (with_reducible refine (hPt.out t _ k3.out).use ?_); rintro v w4 ⟨rfl, hu4, hc4⟩; have k4 := Lib.hid hc4; clear hc4; have b4 := Lib.hid (show w4.heap[w.heap.size]? = some (.cells #[.int .i64 dO, .string ⟨q.toArray⟩, .int .i64 ty, .int .i64 k, .string ⟨nm.toArray⟩, .int .i64 rt, .int .i64 tl, .string ⟨d.toArray⟩, .int .i64 now] 50 (0, 0)) from hu4.other (by first | exact b3.out | exact blk_alloc b3.out | exact blk_alloc (blk_alloc b3.out) | exact blk_alloc (blk_alloc (blk_alloc b3.out))) rfl); obtain ⟨q40, q41, q42, q43, q44, q45, q46, q47, q48⟩ := cell9s b4.out; have hl4 := blk_lt b4.out; have ne4 : ¬ w.heap.size = w4.heap.size := (by omega); have nf4 : ¬ w4.heap.size = w.heap.size := (by omega))
    | (go_at_call 37; have _t := tk1; (with_reducible refine (hG1.out t _ k4.out).use ?_); rintro v w5 ⟨rfl, hu5⟩; have k5 := Lib.hid (k4.out.to0 hu5); simp only [getV]; have b5 := Lib.hid (show w5.heap[w.heap.size]? = some (.cells #[.int .i64 dO, .string ⟨q.toArray⟩, .int .i64 ty, .int .i64 k, .string ⟨nm.toArray⟩, .int .i64 rt, .int .i64 tl, .string ⟨d.toArray⟩, .int .i64 now] 50 (0, 0)) from hu5.block (fun h => h) (by first | exact b4.out | exact blk_alloc b4.out | exact blk_alloc (blk_alloc b4.out) | exact blk_alloc (blk_alloc (blk_alloc b4.out)))); obtain ⟨q50, q51, q52, q53, q54, q55, q56, q57, q58⟩ := cell9s b5.out; have hl5 := blk_lt b5.out; have ne5 : ¬ w.heap.size = w5.heap.size := (by omega); have nf5 : ¬ w5.heap.size = w.heap.size := (by omega); clear tk1 _t)
    | (go_at_call 28; (with_reducible refine (rfold_w q (by omega) _).use ?_); rintro v w6 ⟨rfl, hu6⟩; have k6 := Lib.hid (k5.out.to0 (show Upd0 w5 w6 from (by (repeat (first | (with_reducible exact Upd.refl _ _) | (with_reducible assumption) | (with_reducible apply Upd.drew) | (with_reducible apply Upd.alloc) | (refine Upd0.tr ?_ (by with_reducible assumption)) | (refine Upd.setCell ?_ (fun h => absurd h (by first | exact Nat.lt_irrefl _ | (simp only []; omega))) _))); done))); have b6 := Lib.hid (show w6.heap[w.heap.size]? = some (.cells #[.int .i64 dO, .string ⟨q.toArray⟩, .int .i64 ty, .int .i64 k, .string ⟨nm.toArray⟩, .int .i64 rt, .int .i64 tl, .string ⟨d.toArray⟩, .int .i64 now] 50 (0, 0)) from hu6.block (fun h => h) (by first | exact b5.out | exact blk_alloc b5.out | exact blk_alloc (blk_alloc b5.out) | exact blk_alloc (blk_alloc (blk_alloc b5.out)))); obtain ⟨q60, q61, q62, q63, q64, q65, q66, q67, q68⟩ := cell9s b6.out; have hl6 := blk_lt b6.out; have ne6 : ¬ w.heap.size = w6.heap.size := (by omega); have nf6 : ¬ w6.heap.size = w.heap.size := (by omega))
    | (go_at_call 37; (with_reducible refine (hG2.out t _ k6.out).use ?_); rintro v w7 ⟨rfl, hu7⟩; simp only [getV]; have b7 := Lib.hid (show w7.heap[w.heap.size]? = some (.cells #[.int .i64 dO, .string ⟨q.toArray⟩, .int .i64 ty, .int .i64 k, .string ⟨nm.toArray⟩, .int .i64 rt, .int .i64 tl, .string ⟨d.toArray⟩, .int .i64 now] 50 (0, 0)) from hu7.block (fun h => h) (by first | exact b6.out | exact blk_alloc b6.out | exact blk_alloc (blk_alloc b6.out) | exact blk_alloc (blk_alloc (blk_alloc b6.out)))); obtain ⟨q70, q71, q72, q73, q74, q75, q76, q77, q78⟩ := cell9s b7.out; have hl7 := blk_lt b7.out; have ne7 : ¬ w.heap.size = w7.heap.size := (by omega); have nf7 : ¬ w7.heap.size = w.heap.size := (by omega))
    | (go_at_call 35; (with_reducible refine (dlive_w _).use ?_); rintro v w8 ⟨rfl, hu8⟩)
    | (with_reducible refine wp_serial (by kernel_rfl) (by kernel_rfl) (by (repeat (first | (with_reducible apply NoBad.then) | (with_reducible apply NoBad.inBlock) | (with_reducible exact NoBad.rets))); done) ?_) | fail)
  all_goals go_returns
  all_goals exact ⟨by first | rfl | (show Value.bool _ = Value.bool true; congr 1; simp; omega), (by (repeat (first | (with_reducible exact Upd.refl _ _) | (with_reducible assumption) | (with_reducible apply Upd.drew) | (with_reducible apply Upd.alloc) | (refine Upd0.tr ?_ (by with_reducible assumption)) | (refine UpdP.fin ?_ (by with_reducible assumption)) | (refine UpdR.fin ?_ (by with_reducible assumption)) | (refine UpdS.fin ?_ (by with_reducible assumption)) | (refine Upd.setCell ?_ (fun h => absurd h (by first | exact Nat.lt_irrefl _ | (simp only []; omega))) _))); done)⟩
set_option maxRecDepth 100000 in
set_option maxHeartbeats 4000000 in
theorem hold_is3 (o : OpD) (other later : Int) (hs : o.sh = true) (a0 : 0 ≤ o.now) (a1 : o.now ≤ 1000000) (a2 : o.now ≤ later) (a3 : later ≤ 2000000) (hT : timeB o.r = true) (hO : putOk o.q o.ty o.k o.now = true) (hp : put 5 1000 [] o.q o.ty o.k o.r o.now = (0, hdL o.q o.ty o.k o.r o.now)) (hl : later < o.now + min (timeN o.r) 1000) (hk : ¬ o.k = 2) (ho : ¬ other = o.ty) (w : World) : Calls Try.prog 12 #[o.val, .int .i64 other, .int .i64 later] w (Rets fun r w' => r = .bool true ∧ Upd0 w w') := by
  have hw : ∀ w, Calls Try.prog 34 #[o.val] w (Rets fun r w' => r = .bool true ∧ Upd0 w w') := fun w => hs ▸ dshort_w o w
  have hwh := Lib.hid hw
  clear hw
  obtain ⟨dO, q, ty, k, ⟨nm, rt, tl, d⟩, now⟩ := o
  simp only [OpD.sh, Bool.and_eq_true, decide_eq_true_eq] at hs
  obtain ⟨l1, l2, l3⟩ := hs
  simp only [OpD.val] at hwh hp hT hO hl hk ho ⊢
  simp only [] at a0 a1 a2
  have n0 : ¬ now < 0 := by omega
  have n1 : ¬ 1000000 < now := by omega
  have n2 : ¬ later < now := by omega
  have n3 : ¬ 2000000 < later := by omega
  have hbT := timeN_bound ⟨nm, rt, tl, d⟩
  have g1 := hd_get hO a0 a2 a3 (r := ⟨nm, rt, tl, d⟩)
  obtain ⟨x1, x2, x3, x4, x5, g2⟩ := hd_get2 other hO a0 a2 a3 (r := ⟨nm, rt, tl, d⟩)
  have hC := hd_code hT
  have hTm0 : ∀ w1, Calls Try.prog 41 #[.agg #[.string ⟨nm.toArray⟩, .int .i64 rt, .int .i64 tl, .string ⟨d.toArray⟩]] w1 (Rets fun r w' => r = .tuple #[.int .i64 (timeN ⟨nm, rt, tl, d⟩), .int .i64 0] ∧ Upd0 w1 w') := fun w1 => hC ▸ time_w nm rt tl d (by omega) (by omega) w1
  obtain ⟨T, hTe⟩ : ∃ T, timeN ⟨nm, rt, tl, d⟩ = T := ⟨_, rfl⟩
  obtain ⟨E, hE⟩ : ∃ E, hdL q ty k ⟨nm, rt, tl, d⟩ now = E := ⟨_, rfl⟩
  rw [hTe] at hl hbT g1 g2 hTm0
  rw [hE] at g1 g2 hp
  rw [if_pos hl] at g1
  simp only [decide_eq_true hl, Bool.true_and, decide_eq_false hk, decide_eq_false ho, Bool.or_false, Bool.and_false] at g2
  obtain ⟨b1', b2'⟩ := hbT
  have hPt : ∀ (t : Nat) (w1 : World), Sto w.heap.size w1 t 5 1000 [] → Calls Try.prog 38 #[.pointer (some ⟨t, 0, none⟩), .agg #[.string ⟨q.toArray⟩, .int .i64 ty], .int .i64 k, .agg #[.string ⟨nm.toArray⟩, .int .i64 rt, .int .i64 tl, .string ⟨d.toArray⟩], .int .i64 now] w1 (Rets fun r w' => r = .int .i64 0 ∧ UpdS w.heap.size w1 w' ∧ Sto w.heap.size w' t 5 1000 E) := fun t w1 h => by
    have := dput_w t 5 1000 [] q ty k nm rt tl d now (by omega) (by omega) (by omega) w1 h
    rw [hp] at this
    exact this
  have hG1 : ∀ (t : Nat) (w1 : World), Sto w.heap.size w1 t 5 1000 E → Calls Try.prog 37 #[.pointer (some ⟨t, 0, none⟩), .agg #[.string ⟨q.toArray⟩, .int .i64 ty], .int .i64 later] w1 (Rets fun r w' => r = getV k nm rt (now + min T 1000 - later) d true ∧ Upd0 w1 w') := fun t w1 h => by
    have := dget_w h q ty later (by omega)
    rw [g1] at this
    exact this
  have hG2 : ∀ (t : Nat) (w1 : World), Sto w.heap.size w1 t 5 1000 E → Calls Try.prog 37 #[.pointer (some ⟨t, 0, none⟩), .agg #[.string ⟨(fold q).toArray⟩, .int .i64 other], .int .i64 later] w1 (Rets fun r w' => r = getV x1 x2 x3 x4 x5 false ∧ Upd0 w1 w') := fun t w1 h => by
    have := dget_w h (fold q) other later (by rw [fold_len]; omega)
    rw [g2] at this
    exact this
  have hTm := Lib.hid hTm0
  have hPt := Lib.hid hPt
  have hG1 := Lib.hid hG1
  have hG2 := Lib.hid hG2
  have tk1 : True := trivial
  clear hp g1 g2 hTe hE hT hO hC hTm0
  have hwr : wrap64 (now + min T 1000 - later) = now + min T 1000 - later := by unfold wrap64; omega
  go_enter Try.func12, Try.ntmps12
  go_wp2_with (first
    | (go_at_call 34; (with_reducible refine (hwh.out _).use ?_); rintro v w1 ⟨rfl, hu1⟩; have b1 := Lib.hid (show w1.heap[w.heap.size]? = some (.cells #[.int .i64 dO, .string ⟨q.toArray⟩, .int .i64 ty, .int .i64 k, .string ⟨nm.toArray⟩, .int .i64 rt, .int .i64 tl, .string ⟨d.toArray⟩, .int .i64 now] 50 (0, 0)) from hu1.block (fun h => h) (by first | exact alloc_last _ _ _ rfl | exact blk_alloc (alloc_last _ _ _ rfl) | exact blk_alloc (blk_alloc (alloc_last _ _ _ rfl)))); obtain ⟨q10, q11, q12, q13, q14, q15, q16, q17, q18⟩ := cell9s b1.out; have hl1 := blk_lt b1.out; have ne1 : ¬ w.heap.size = w1.heap.size := (by omega); have nf1 : ¬ w1.heap.size = w.heap.size := (by omega))
    | (go_at_call 36; (with_reducible refine (dnew_w (B := w.heap.size) 5 1000 (by decide) (by decide) (by decide) (by decide) _ (by have := hl1; omega)).use ?_); rintro v w2 ⟨t, rfl, hu2, hc2⟩; have k2 := Lib.hid hc2; clear hc2; have b2 := Lib.hid (show w2.heap[w.heap.size]? = some (.cells #[.int .i64 dO, .string ⟨q.toArray⟩, .int .i64 ty, .int .i64 k, .string ⟨nm.toArray⟩, .int .i64 rt, .int .i64 tl, .string ⟨d.toArray⟩, .int .i64 now] 50 (0, 0)) from hu2.block (fun h => h) (by first | exact b1.out | exact blk_alloc b1.out | exact blk_alloc (blk_alloc b1.out) | exact blk_alloc (blk_alloc (blk_alloc b1.out)))); obtain ⟨q20, q21, q22, q23, q24, q25, q26, q27, q28⟩ := cell9s b2.out; have hl2 := blk_lt b2.out; have ne2 : ¬ w.heap.size = w2.heap.size := (by omega); have nf2 : ¬ w2.heap.size = w.heap.size := (by omega))
    | (go_at_call 41; (with_reducible refine (hTm.out _).use ?_); rintro v w3 ⟨rfl, hu3⟩; have k3 := Lib.hid (k2.out.to0 (show Upd0 w2 w3 from (by (repeat (first | (with_reducible exact Upd.refl _ _) | (with_reducible assumption) | (with_reducible apply Upd.drew) | (with_reducible apply Upd.alloc) | (refine Upd0.tr ?_ (by with_reducible assumption)) | (refine Upd.setCell ?_ (fun h => absurd h (by first | exact Nat.lt_irrefl _ | (simp only []; omega))) _))); done))); have b3 := Lib.hid (show w3.heap[w.heap.size]? = some (.cells #[.int .i64 dO, .string ⟨q.toArray⟩, .int .i64 ty, .int .i64 k, .string ⟨nm.toArray⟩, .int .i64 rt, .int .i64 tl, .string ⟨d.toArray⟩, .int .i64 now] 50 (0, 0)) from hu3.block (fun h => h) (by first | exact b2.out | exact blk_alloc b2.out | exact blk_alloc (blk_alloc b2.out) | exact blk_alloc (blk_alloc (blk_alloc b2.out)))); obtain ⟨q30, q31, q32, q33, q34, q35, q36, q37, q38⟩ := cell9s b3.out; have hl3 := blk_lt b3.out; have ne3 : ¬ w.heap.size = w3.heap.size := (by omega); have nf3 : ¬ w3.heap.size = w.heap.size := (by omega))
    | (go_at_call 38; (with_reducible refine (hPt.out t _ k3.out).use ?_); rintro v w4 ⟨rfl, hu4, hc4⟩; have k4 := Lib.hid hc4; clear hc4; have b4 := Lib.hid (show w4.heap[w.heap.size]? = some (.cells #[.int .i64 dO, .string ⟨q.toArray⟩, .int .i64 ty, .int .i64 k, .string ⟨nm.toArray⟩, .int .i64 rt, .int .i64 tl, .string ⟨d.toArray⟩, .int .i64 now] 50 (0, 0)) from hu4.other (by first | exact b3.out | exact blk_alloc b3.out | exact blk_alloc (blk_alloc b3.out) | exact blk_alloc (blk_alloc (blk_alloc b3.out))) rfl); obtain ⟨q40, q41, q42, q43, q44, q45, q46, q47, q48⟩ := cell9s b4.out; have hl4 := blk_lt b4.out; have ne4 : ¬ w.heap.size = w4.heap.size := (by omega); have nf4 : ¬ w4.heap.size = w.heap.size := (by omega))
    | (go_at_call 37; have _t := tk1; (with_reducible refine (hG1.out t _ k4.out).use ?_); rintro v w5 ⟨rfl, hu5⟩; have k5 := Lib.hid (k4.out.to0 hu5); simp only [getV]; have b5 := Lib.hid (show w5.heap[w.heap.size]? = some (.cells #[.int .i64 dO, .string ⟨q.toArray⟩, .int .i64 ty, .int .i64 k, .string ⟨nm.toArray⟩, .int .i64 rt, .int .i64 tl, .string ⟨d.toArray⟩, .int .i64 now] 50 (0, 0)) from hu5.block (fun h => h) (by first | exact b4.out | exact blk_alloc b4.out | exact blk_alloc (blk_alloc b4.out) | exact blk_alloc (blk_alloc (blk_alloc b4.out)))); obtain ⟨q50, q51, q52, q53, q54, q55, q56, q57, q58⟩ := cell9s b5.out; have hl5 := blk_lt b5.out; have ne5 : ¬ w.heap.size = w5.heap.size := (by omega); have nf5 : ¬ w5.heap.size = w.heap.size := (by omega); clear tk1 _t)
    | (go_at_call 28; (with_reducible refine (rfold_w q (by omega) _).use ?_); rintro v w6 ⟨rfl, hu6⟩; have k6 := Lib.hid (k5.out.to0 (show Upd0 w5 w6 from (by (repeat (first | (with_reducible exact Upd.refl _ _) | (with_reducible assumption) | (with_reducible apply Upd.drew) | (with_reducible apply Upd.alloc) | (refine Upd0.tr ?_ (by with_reducible assumption)) | (refine Upd.setCell ?_ (fun h => absurd h (by first | exact Nat.lt_irrefl _ | (simp only []; omega))) _))); done))); have b6 := Lib.hid (show w6.heap[w.heap.size]? = some (.cells #[.int .i64 dO, .string ⟨q.toArray⟩, .int .i64 ty, .int .i64 k, .string ⟨nm.toArray⟩, .int .i64 rt, .int .i64 tl, .string ⟨d.toArray⟩, .int .i64 now] 50 (0, 0)) from hu6.block (fun h => h) (by first | exact b5.out | exact blk_alloc b5.out | exact blk_alloc (blk_alloc b5.out) | exact blk_alloc (blk_alloc (blk_alloc b5.out)))); obtain ⟨q60, q61, q62, q63, q64, q65, q66, q67, q68⟩ := cell9s b6.out; have hl6 := blk_lt b6.out; have ne6 : ¬ w.heap.size = w6.heap.size := (by omega); have nf6 : ¬ w6.heap.size = w.heap.size := (by omega))
    | (go_at_call 37; (with_reducible refine (hG2.out t _ k6.out).use ?_); rintro v w7 ⟨rfl, hu7⟩; simp only [getV]; have b7 := Lib.hid (show w7.heap[w.heap.size]? = some (.cells #[.int .i64 dO, .string ⟨q.toArray⟩, .int .i64 ty, .int .i64 k, .string ⟨nm.toArray⟩, .int .i64 rt, .int .i64 tl, .string ⟨d.toArray⟩, .int .i64 now] 50 (0, 0)) from hu7.block (fun h => h) (by first | exact b6.out | exact blk_alloc b6.out | exact blk_alloc (blk_alloc b6.out) | exact blk_alloc (blk_alloc (blk_alloc b6.out)))); obtain ⟨q70, q71, q72, q73, q74, q75, q76, q77, q78⟩ := cell9s b7.out; have hl7 := blk_lt b7.out; have ne7 : ¬ w.heap.size = w7.heap.size := (by omega); have nf7 : ¬ w7.heap.size = w.heap.size := (by omega))
    | (go_at_call 35; (with_reducible refine (dlive_w _).use ?_); rintro v w8 ⟨rfl, hu8⟩)
    | (with_reducible refine wp_serial (by kernel_rfl) (by kernel_rfl) (by (repeat (first | (with_reducible apply NoBad.then) | (with_reducible apply NoBad.inBlock) | (with_reducible exact NoBad.rets))); done) ?_) | fail)
  all_goals go_returns
  all_goals exact ⟨by first | rfl | (show Value.bool _ = Value.bool true; congr 1; simp; omega) | (show Value.bool _ = Value.bool true; congr 1; simp [hk, ho]) | skip, (by (repeat (first | (with_reducible exact Upd.refl _ _) | (with_reducible assumption) | (with_reducible apply Upd.drew) | (with_reducible apply Upd.alloc) | (refine Upd0.tr ?_ (by with_reducible assumption)) | (refine UpdP.fin ?_ (by with_reducible assumption)) | (refine UpdR.fin ?_ (by with_reducible assumption)) | (refine UpdS.fin ?_ (by with_reducible assumption)) | (refine Upd.setCell ?_ (fun h => absurd h (by first | exact Nat.lt_irrefl _ | (simp only []; omega))) _))); done)⟩
theorem denialHolds_walk (o : OpD) (other later : Int) (w : World) : Calls Try.prog 12 #[o.val, .int .i64 other, .int .i64 later] w (Rets fun r w' => r = .bool true ∧ Upd0 w w') := by
  by_cases hb : o.sh = true ∧ 0 ≤ o.now ∧ o.now ≤ 1000000 ∧ o.now ≤ later ∧ later ≤ 2000000
  · obtain ⟨hs, a0, a1, a2, a3⟩ := hb
    rcases hd_put o.q o.ty o.k o.r o.now with ⟨c, hc, hp⟩ | ⟨hT, hO, hp⟩
    · exact hold_no o other later hs a0 a1 a2 a3 hc hp w
    · by_cases hl : later < o.now + min (timeN o.r) 1000
      · by_cases hk : o.k = 2
        · exact hold_is1 o other later hs a0 a1 a2 a3 hT hO hp hl hk w
        · by_cases ho : other = o.ty
          · exact hold_is2 o other later hs a0 a1 a2 a3 hT hO hp hl hk ho w
          · exact hold_is3 o other later hs a0 a1 a2 a3 hT hO hp hl hk ho w
      · exact hold_is0 o other later hs a0 a1 a2 a3 hT hO hp hl w
  · exact hold_bad o other later hb w
end Go.Proofs.Ytdjleplefbmjbaa
