/-
  DenialNil: the walk.
-/
import Derived.Test.YtdjleplefbmjbaaDnL
namespace Go.Proofs.Ytdjleplefbmjbaa
open Go.RowKit Go.Shelf
set_option linter.unusedSimpArgs false
set_option linter.unusedVariables false
theorem cell9s {w : World} {b : Nat} {a0 a1 a2 a3 a4 a5 a6 a7 a8 : Value} {t : TypeId} (h : w.heap[b]? = some (.cells #[a0, a1, a2, a3, a4, a5, a6, a7, a8] t (0, 0))) : w.cell? ⟨b, 0, none⟩ = some a0 ∧ w.cell? ⟨b, 1, none⟩ = some a1 ∧ w.cell? ⟨b, 2, none⟩ = some a2 ∧ w.cell? ⟨b, 3, none⟩ = some a3 ∧ w.cell? ⟨b, 4, none⟩ = some a4 ∧ w.cell? ⟨b, 5, none⟩ = some a5 ∧ w.cell? ⟨b, 6, none⟩ = some a6 ∧ w.cell? ⟨b, 7, none⟩ = some a7 ∧ w.cell? ⟨b, 8, none⟩ = some a8 := ⟨by rw [blk_cell h]; rfl, by rw [blk_cell h]; rfl, by rw [blk_cell h]; rfl, by rw [blk_cell h]; rfl, by rw [blk_cell h]; rfl, by rw [blk_cell h]; rfl, by rw [blk_cell h]; rfl, by rw [blk_cell h]; rfl, by rw [blk_cell h]; rfl⟩
set_option maxRecDepth 100000 in
set_option maxHeartbeats 2000000 in
theorem denialNil_walk (o : OpD) (w : World) : Calls Try.prog 11 #[o.val] w (Rets fun r w' => r = .bool true ∧ Upd0 w w') := by
  cases hs : o.sh with
  | false =>
    have hsh := Lib.hid hs
    have hw : ∀ w, Calls Try.prog 34 #[o.val] w (Rets fun r w' => r = .bool false ∧ Upd0 w w') := fun w => hs ▸ dshort_w o w
    have hwh := Lib.hid hw
    clear hs hw
    obtain ⟨dO, q, ty, k, ⟨nm, rt, tl, d⟩, now⟩ := o
    simp only [OpD.val] at hwh ⊢
    go_enter Try.func11, Try.ntmps11
    go_wp2_with (first
      | (go_at_call 34; (with_reducible refine (hwh.out _).use ?_); rintro v w1 ⟨rfl, hu1⟩)
      | (go_at_call 35; (with_reducible refine (dlive_w _).use ?_); rintro v w2 ⟨rfl, hu2⟩)
      | (with_reducible refine wp_serial (by kernel_rfl) (by kernel_rfl) (by (repeat (first | (with_reducible apply NoBad.then) | (with_reducible apply NoBad.inBlock) | (with_reducible exact NoBad.rets))); done) ?_) | fail)
    all_goals go_returns
    all_goals exact ⟨rfl, (by (repeat (first | (with_reducible exact Upd.refl _ _) | (with_reducible assumption) | (with_reducible apply Upd.drew) | (with_reducible apply Upd.alloc) | (refine Upd0.tr ?_ (by with_reducible assumption)) | (refine Upd.setCell ?_ (fun h => absurd h (by first | exact Nat.lt_irrefl _ | (simp only []; omega))) _))); done)⟩
  | true =>
    have hw : ∀ w, Calls Try.prog 34 #[o.val] w (Rets fun r w' => r = .bool true ∧ Upd0 w w') := fun w => hs ▸ dshort_w o w
    have hwh := Lib.hid hw
    clear hw
    obtain ⟨dO, q, ty, k, ⟨nm, rt, tl, d⟩, now⟩ := o
    simp only [OpD.sh, Bool.and_eq_true, decide_eq_true_eq] at hs
    obtain ⟨l1, l2, l3⟩ := hs
    simp only [OpD.val] at hwh ⊢
    go_enter Try.func11, Try.ntmps11
    go_wp2_with (first
      | (go_at_call 34; (with_reducible refine (hwh.out _).use ?_); rintro v w1 ⟨rfl, hu1⟩; have b1 := Lib.hid (show w1.heap[w.heap.size]? = some (.cells #[.int .i64 dO, .string ⟨q.toArray⟩, .int .i64 ty, .int .i64 k, .string ⟨nm.toArray⟩, .int .i64 rt, .int .i64 tl, .string ⟨d.toArray⟩, .int .i64 now] 50 (0, 0)) from hu1.block (fun h => h) (by first | exact alloc_last _ _ _ rfl | exact blk_alloc (alloc_last _ _ _ rfl) | exact blk_alloc (blk_alloc (alloc_last _ _ _ rfl)))); obtain ⟨q10, q11, q12, q13, q14, q15, q16, q17, q18⟩ := cell9s b1.out; have hl1 := blk_lt b1.out; have ne1 : ¬ w.heap.size = w1.heap.size := (by omega); have nf1 : ¬ w1.heap.size = w.heap.size := (by omega))
      | (go_at_call 36; (with_reducible refine (dnew_no 0 0 rfl _).use ?_); rintro v w2 ⟨rfl, hu2⟩; have b2 := Lib.hid (show w2.heap[w.heap.size]? = some (.cells #[.int .i64 dO, .string ⟨q.toArray⟩, .int .i64 ty, .int .i64 k, .string ⟨nm.toArray⟩, .int .i64 rt, .int .i64 tl, .string ⟨d.toArray⟩, .int .i64 now] 50 (0, 0)) from hu2.block (fun h => h) (by first | exact b1.out | exact blk_alloc b1.out | exact blk_alloc (blk_alloc b1.out))); obtain ⟨q20, q21, q22, q23, q24, q25, q26, q27, q28⟩ := cell9s b2.out; have hl2 := blk_lt b2.out; have ne2 : ¬ w.heap.size = w2.heap.size := (by omega); have nf2 : ¬ w2.heap.size = w.heap.size := (by omega))
      | (go_at_call 37; (with_reducible refine (dget_nil q ty now _).use ?_); rintro v w3 ⟨rfl, hu3⟩; have b3 := Lib.hid (show w3.heap[w.heap.size]? = some (.cells #[.int .i64 dO, .string ⟨q.toArray⟩, .int .i64 ty, .int .i64 k, .string ⟨nm.toArray⟩, .int .i64 rt, .int .i64 tl, .string ⟨d.toArray⟩, .int .i64 now] 50 (0, 0)) from hu3.block (fun h => h) (by first | exact b2.out | exact blk_alloc b2.out | exact blk_alloc (blk_alloc b2.out))); obtain ⟨q30, q31, q32, q33, q34, q35, q36, q37, q38⟩ := cell9s b3.out; have hl3 := blk_lt b3.out; have ne3 : ¬ w.heap.size = w3.heap.size := (by omega); have nf3 : ¬ w3.heap.size = w.heap.size := (by omega); simp only [getV])
      | (go_at_call 38; (with_reducible refine (put_bad none q ty k nm rt tl d now (by omega) (by omega) (by omega) (.inl rfl) _).use ?_); rintro v w4 ⟨rfl, hu4⟩; have b4 := Lib.hid (show w4.heap[w.heap.size]? = some (.cells #[.int .i64 dO, .string ⟨q.toArray⟩, .int .i64 ty, .int .i64 k, .string ⟨nm.toArray⟩, .int .i64 rt, .int .i64 tl, .string ⟨d.toArray⟩, .int .i64 now] 50 (0, 0)) from hu4.block (fun h => h) (by first | exact b3.out | exact blk_alloc b3.out | exact blk_alloc (blk_alloc b3.out))); obtain ⟨q40, q41, q42, q43, q44, q45, q46, q47, q48⟩ := cell9s b4.out; have hl4 := blk_lt b4.out; have ne4 : ¬ w.heap.size = w4.heap.size := (by omega); have nf4 : ¬ w4.heap.size = w.heap.size := (by omega))
      | (go_at_call 39; (with_reducible refine (ddrop_nil _ _).use ?_); rintro v w5 ⟨rfl, hu5⟩)
      | (go_at_call 40; (with_reducible refine (dlen_nil _).use ?_); rintro v w6 ⟨rfl, hu6⟩)
      | (go_at_call 35; (with_reducible refine (dlive_w _).use ?_); rintro v w7 ⟨rfl, hu7⟩)
      | (with_reducible refine wp_serial (by kernel_rfl) (by kernel_rfl) (by (repeat (first | (with_reducible apply NoBad.then) | (with_reducible apply NoBad.inBlock) | (with_reducible exact NoBad.rets))); done) ?_) | fail)
    all_goals go_returns
    all_goals exact ⟨rfl, (by (repeat (first | (with_reducible exact Upd.refl _ _) | (with_reducible assumption) | (with_reducible apply Upd.drew) | (with_reducible apply Upd.alloc) | (refine Upd0.tr ?_ (by with_reducible assumption)) | (refine Upd.setCell ?_ (fun h => absurd h (by first | exact Nat.lt_irrefl _ | (simp only []; omega))) _))); done)⟩
end Go.Proofs.Ytdjleplefbmjbaa
