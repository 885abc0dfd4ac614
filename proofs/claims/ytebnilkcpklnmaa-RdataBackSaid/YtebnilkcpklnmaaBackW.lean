/-
  The walk of RdataBack: what is written is read; what is read is written to the same bytes.
-/
import Derived.Test.YtebnilkcpklnmaaRdQ
import Derived.Test.YtebnilkcpklnmaaRdS
namespace Go.Proofs.Ytebnilkcpklnmaa
open Go.RowKit
set_option linter.unusedSimpArgs false
set_option linter.unusedVariables false
set_option maxRecDepth 100000 in
theorem back_long (a1 a2 : Bs) (a3 a4 a5 a6 a7 : Int) (n d : Bs) (hs : ¬ ((a1.length ≤ 5000 ∧ a2.length ≤ 5000) ∧ (n.length ≤ 5000 ∧ d.length ≤ 5000))) (w : World) : Calls Try.prog 11 #[.agg #[.string ⟨a1.toArray⟩, .string ⟨a2.toArray⟩, .int .i64 a3, .int .i64 a4, .int .i64 a5, .int .i64 a6, .int .i64 a7], .string ⟨n.toArray⟩, .string ⟨d.toArray⟩] w (Rets fun r w' => r = .bool true ∧ Upd0 w w') := by
  cases h1 : (decide (a1.length ≤ 5000) && decide (a2.length ≤ 5000)) <;> cases h2 : (decide (n.length ≤ 5000) && decide (d.length ≤ 5000))
  rotate_left 3
  · exfalso
    simp only [Bool.and_eq_true, decide_eq_true_eq] at h1 h2
    exact hs ⟨h1, h2⟩
  all_goals
    have hh1 := Lib.hid h1
    have hh2 := Lib.hid h2
    have tok1 : True := trivial
    clear h1 h2 hs
    go_enter Try.func11, Try.ntmps11
    go_wp2_with (first
      | (go_at_call 27; have _t := tok1; (with_reducible refine (short_w a1 a2 _).use ?_); rintro v w1 ⟨rfl, hu1⟩; rw [hh1.out]; clear tok1 _t)
      | (go_at_call 27; (with_reducible refine (short_w n d _).use ?_); rintro v w2 ⟨rfl, hu2⟩; rw [hh2.out])
      | (go_at_call 28; (with_reducible refine (live_w _).use ?_); rintro v w3 ⟨rfl, hu3⟩)
      | (with_reducible refine wp_serial (by kernel_rfl) (by kernel_rfl) (by (repeat (first | (with_reducible apply NoBad.then) | (with_reducible apply NoBad.inBlock) | (with_reducible exact NoBad.rets))); done) ?_)
      | fail)
    all_goals go_returns
    all_goals exact ⟨rfl, (by (repeat (first | (with_reducible exact Upd.refl _ _) | (with_reducible assumption) | (with_reducible apply Upd.drew) | (with_reducible apply Upd.alloc) | (refine Upd0.tr ?_ (by with_reducible assumption)) | (refine Upd.setCell ?_ (fun h => absurd h (by first | exact Nat.lt_irrefl _ | (simp only []; omega))) _))); done)⟩
set_option maxRecDepth 100000 in
theorem back_000 (a1 a2 : Bs) (a3 a4 a5 a6 a7 : Int) (n d : Bs) (x1 x2 : Bs) (x3 x4 x5 x6 x7 : Int) (B N : Bs) (h1 : (decide (a1.length ≤ 5000) && decide (a2.length ≤ 5000)) = true) (h2 : (decide (n.length ≤ 5000) && decide (d.length ≤ 5000)) = true)
    (C1 : ∀ w, Calls Try.prog 31 #[.agg #[.string ⟨a1.toArray⟩, .string ⟨a2.toArray⟩, .int .i64 a3, .int .i64 a4, .int .i64 a5, .int .i64 a6, .int .i64 a7]] w (Rets fun r w' => r = .tuple #[.string ⟨B.toArray⟩, .int .i64 1] ∧ Upd0 w w'))
    (C3 : ∀ w, Calls Try.prog 35 #[.string ⟨n.toArray⟩] w (Rets fun r w' => r = .tuple #[.string ⟨N.toArray⟩, .int .i64 1] ∧ Upd0 w w'))
    (C5 : ∀ w, Calls Try.prog 33 #[.string ⟨d.toArray⟩] w (Rets fun r w' => r = .tuple #[.agg #[.string ⟨x1.toArray⟩, .string ⟨x2.toArray⟩, .int .i64 x3, .int .i64 x4, .int .i64 x5, .int .i64 x6, .int .i64 x7], .int .i64 2] ∧ Upd0 w w'))
    (w : World) : Calls Try.prog 11 #[.agg #[.string ⟨a1.toArray⟩, .string ⟨a2.toArray⟩, .int .i64 a3, .int .i64 a4, .int .i64 a5, .int .i64 a6, .int .i64 a7], .string ⟨n.toArray⟩, .string ⟨d.toArray⟩] w (Rets fun r w' => r = .bool true ∧ Upd0 w w') := by
  have hh1 := Lib.hid h1
  have hh2 := Lib.hid h2
  have tok1 : True := trivial
  have tok2 : True := trivial
  have tok3 : True := trivial
  clear h1 h2
  have C1' := Lib.hid C1
  clear C1
  have C3' := Lib.hid C3
  clear C3
  have C5' := Lib.hid C5
  clear C5
  go_enter Try.func11, Try.ntmps11
  go_wp2_with (first
    | (go_at_call 27; have _t := tok1; (with_reducible refine (short_w a1 a2 _).use ?_); rintro v w1 ⟨rfl, hu1⟩; rw [hh1.out]; have z1 := Lib.hid (hu1.block (fun h => h) (alloc_last _ _ w.heap.size rfl)); obtain ⟨e0, e1, e2, e3, e4, e5, e6, e7⟩ := seven z1.out; clear tok1 _t)
    | (go_at_call 27; (with_reducible refine (short_w n d _).use ?_); rintro v w2 ⟨rfl, hu2⟩; rw [hh2.out]; have z2 := Lib.hid (hu2.block (fun h => h) z1.out); obtain ⟨f0, f1, f2, f3, f4, f5, f6, f7⟩ := seven z2.out)
    | (go_at_call 31; have _t := tok2; (with_reducible refine (C1'.out _).use ?_); rintro v w3 ⟨rfl, hu3⟩; have z3 := Lib.hid (hu3.block (fun h => h) z2.out); obtain ⟨g0, g1, g2, g3, g4, g5, g6, g7⟩ := seven z3.out; clear tok2 _t)
    | (go_at_call 35; (with_reducible refine (C3'.out _).use ?_); rintro v w5 ⟨rfl, hu5⟩)
    | (go_at_call 33; (with_reducible refine (C5'.out _).use ?_); rintro v w7 ⟨rfl, hu7⟩)
    | (go_at_call 28; (with_reducible refine (live_w _).use ?_); rintro v w9 ⟨rfl, hu9⟩)
    | (with_reducible refine wp_serial (by kernel_rfl) (by kernel_rfl) (by (repeat (first | (with_reducible apply NoBad.then) | (with_reducible apply NoBad.inBlock) | (with_reducible exact NoBad.rets))); done) ?_)
    | fail)
  all_goals go_returns
  all_goals exact ⟨rfl, (by (repeat (first | (with_reducible exact Upd.refl _ _) | (with_reducible assumption) | (with_reducible apply Upd.drew) | (with_reducible apply Upd.alloc) | (refine Upd0.tr ?_ (by with_reducible assumption)) | (refine Upd.setCell ?_ (fun h => absurd h (by first | exact Nat.lt_irrefl _ | (simp only []; omega))) _))); done)⟩
set_option maxRecDepth 100000 in
theorem back_001 (a1 a2 : Bs) (a3 a4 a5 a6 a7 : Int) (n d : Bs) (x1 x2 : Bs) (x3 x4 x5 x6 x7 : Int) (B N : Bs) (h1 : (decide (a1.length ≤ 5000) && decide (a2.length ≤ 5000)) = true) (h2 : (decide (n.length ≤ 5000) && decide (d.length ≤ 5000)) = true)
    (C1 : ∀ w, Calls Try.prog 31 #[.agg #[.string ⟨a1.toArray⟩, .string ⟨a2.toArray⟩, .int .i64 a3, .int .i64 a4, .int .i64 a5, .int .i64 a6, .int .i64 a7]] w (Rets fun r w' => r = .tuple #[.string ⟨B.toArray⟩, .int .i64 1] ∧ Upd0 w w'))
    (C3 : ∀ w, Calls Try.prog 35 #[.string ⟨n.toArray⟩] w (Rets fun r w' => r = .tuple #[.string ⟨N.toArray⟩, .int .i64 1] ∧ Upd0 w w'))
    (C5 : ∀ w, Calls Try.prog 33 #[.string ⟨d.toArray⟩] w (Rets fun r w' => r = .tuple #[.agg #[.string ⟨x1.toArray⟩, .string ⟨x2.toArray⟩, .int .i64 x3, .int .i64 x4, .int .i64 x5, .int .i64 x6, .int .i64 x7], .int .i64 0] ∧ Upd0 w w'))
    (C6 : ∀ w, Calls Try.prog 31 #[.agg #[.string ⟨x1.toArray⟩, .string ⟨x2.toArray⟩, .int .i64 x3, .int .i64 x4, .int .i64 x5, .int .i64 x6, .int .i64 x7]] w (Rets fun r w' => r = .tuple #[.string ⟨d.toArray⟩, .int .i64 0] ∧ Upd0 w w'))
    (w : World) : Calls Try.prog 11 #[.agg #[.string ⟨a1.toArray⟩, .string ⟨a2.toArray⟩, .int .i64 a3, .int .i64 a4, .int .i64 a5, .int .i64 a6, .int .i64 a7], .string ⟨n.toArray⟩, .string ⟨d.toArray⟩] w (Rets fun r w' => r = .bool true ∧ Upd0 w w') := by
  have hh1 := Lib.hid h1
  have hh2 := Lib.hid h2
  have tok1 : True := trivial
  have tok2 : True := trivial
  have tok3 : True := trivial
  clear h1 h2
  have C1' := Lib.hid C1
  clear C1
  have C3' := Lib.hid C3
  clear C3
  have C5' := Lib.hid C5
  clear C5
  have C6' := Lib.hid C6
  clear C6
  go_enter Try.func11, Try.ntmps11
  go_wp2_with (first
    | (go_at_call 27; have _t := tok1; (with_reducible refine (short_w a1 a2 _).use ?_); rintro v w1 ⟨rfl, hu1⟩; rw [hh1.out]; have z1 := Lib.hid (hu1.block (fun h => h) (alloc_last _ _ w.heap.size rfl)); obtain ⟨e0, e1, e2, e3, e4, e5, e6, e7⟩ := seven z1.out; clear tok1 _t)
    | (go_at_call 27; (with_reducible refine (short_w n d _).use ?_); rintro v w2 ⟨rfl, hu2⟩; rw [hh2.out]; have z2 := Lib.hid (hu2.block (fun h => h) z1.out); obtain ⟨f0, f1, f2, f3, f4, f5, f6, f7⟩ := seven z2.out)
    | (go_at_call 31; have _t := tok2; (with_reducible refine (C1'.out _).use ?_); rintro v w3 ⟨rfl, hu3⟩; have z3 := Lib.hid (hu3.block (fun h => h) z2.out); obtain ⟨g0, g1, g2, g3, g4, g5, g6, g7⟩ := seven z3.out; clear tok2 _t)
    | (go_at_call 35; (with_reducible refine (C3'.out _).use ?_); rintro v w5 ⟨rfl, hu5⟩)
    | (go_at_call 33; (with_reducible refine (C5'.out _).use ?_); rintro v w7 ⟨rfl, hu7⟩)
    | (go_at_call 31; (with_reducible refine (C6'.out _).use ?_); rintro v w8 ⟨rfl, hu8⟩)
    | (go_at_call 28; (with_reducible refine (live_w _).use ?_); rintro v w9 ⟨rfl, hu9⟩)
    | (with_reducible refine wp_serial (by kernel_rfl) (by kernel_rfl) (by (repeat (first | (with_reducible apply NoBad.then) | (with_reducible apply NoBad.inBlock) | (with_reducible exact NoBad.rets))); done) ?_)
    | fail)
  all_goals go_returns
  all_goals exact ⟨rfl, (by (repeat (first | (with_reducible exact Upd.refl _ _) | (with_reducible assumption) | (with_reducible apply Upd.drew) | (with_reducible apply Upd.alloc) | (refine Upd0.tr ?_ (by with_reducible assumption)) | (refine Upd.setCell ?_ (fun h => absurd h (by first | exact Nat.lt_irrefl _ | (simp only []; omega))) _))); done)⟩
set_option maxRecDepth 100000 in
theorem back_010 (a1 a2 : Bs) (a3 a4 a5 a6 a7 : Int) (n d : Bs) (x1 x2 : Bs) (x3 x4 x5 x6 x7 : Int) (B N : Bs) (h1 : (decide (a1.length ≤ 5000) && decide (a2.length ≤ 5000)) = true) (h2 : (decide (n.length ≤ 5000) && decide (d.length ≤ 5000)) = true)
    (C1 : ∀ w, Calls Try.prog 31 #[.agg #[.string ⟨a1.toArray⟩, .string ⟨a2.toArray⟩, .int .i64 a3, .int .i64 a4, .int .i64 a5, .int .i64 a6, .int .i64 a7]] w (Rets fun r w' => r = .tuple #[.string ⟨B.toArray⟩, .int .i64 1] ∧ Upd0 w w'))
    (C3 : ∀ w, Calls Try.prog 35 #[.string ⟨n.toArray⟩] w (Rets fun r w' => r = .tuple #[.string ⟨N.toArray⟩, .int .i64 0] ∧ Upd0 w w'))
    (C4 : ∀ w, Calls Try.prog 37 #[.int .i64 2, .string ⟨N.toArray⟩] w (Rets fun r w' => r = .tuple #[.string ⟨n.toArray⟩, .int .i64 0] ∧ Upd0 w w'))
    (C5 : ∀ w, Calls Try.prog 33 #[.string ⟨d.toArray⟩] w (Rets fun r w' => r = .tuple #[.agg #[.string ⟨x1.toArray⟩, .string ⟨x2.toArray⟩, .int .i64 x3, .int .i64 x4, .int .i64 x5, .int .i64 x6, .int .i64 x7], .int .i64 2] ∧ Upd0 w w'))
    (w : World) : Calls Try.prog 11 #[.agg #[.string ⟨a1.toArray⟩, .string ⟨a2.toArray⟩, .int .i64 a3, .int .i64 a4, .int .i64 a5, .int .i64 a6, .int .i64 a7], .string ⟨n.toArray⟩, .string ⟨d.toArray⟩] w (Rets fun r w' => r = .bool true ∧ Upd0 w w') := by
  have hh1 := Lib.hid h1
  have hh2 := Lib.hid h2
  have tok1 : True := trivial
  have tok2 : True := trivial
  have tok3 : True := trivial
  clear h1 h2
  have C1' := Lib.hid C1
  clear C1
  have C3' := Lib.hid C3
  clear C3
  have C4' := Lib.hid C4
  clear C4
  have C5' := Lib.hid C5
  clear C5
  go_enter Try.func11, Try.ntmps11
  go_wp2_with (first
    | (go_at_call 27; have _t := tok1; (with_reducible refine (short_w a1 a2 _).use ?_); rintro v w1 ⟨rfl, hu1⟩; rw [hh1.out]; have z1 := Lib.hid (hu1.block (fun h => h) (alloc_last _ _ w.heap.size rfl)); obtain ⟨e0, e1, e2, e3, e4, e5, e6, e7⟩ := seven z1.out; clear tok1 _t)
    | (go_at_call 27; (with_reducible refine (short_w n d _).use ?_); rintro v w2 ⟨rfl, hu2⟩; rw [hh2.out]; have z2 := Lib.hid (hu2.block (fun h => h) z1.out); obtain ⟨f0, f1, f2, f3, f4, f5, f6, f7⟩ := seven z2.out)
    | (go_at_call 31; have _t := tok2; (with_reducible refine (C1'.out _).use ?_); rintro v w3 ⟨rfl, hu3⟩; have z3 := Lib.hid (hu3.block (fun h => h) z2.out); obtain ⟨g0, g1, g2, g3, g4, g5, g6, g7⟩ := seven z3.out; clear tok2 _t)
    | (go_at_call 35; (with_reducible refine (C3'.out _).use ?_); rintro v w5 ⟨rfl, hu5⟩)
    | (go_at_call 37; (with_reducible refine (C4'.out _).use ?_); rintro v w6 ⟨rfl, hu6⟩)
    | (go_at_call 33; (with_reducible refine (C5'.out _).use ?_); rintro v w7 ⟨rfl, hu7⟩)
    | (go_at_call 28; (with_reducible refine (live_w _).use ?_); rintro v w9 ⟨rfl, hu9⟩)
    | (with_reducible refine wp_serial (by kernel_rfl) (by kernel_rfl) (by (repeat (first | (with_reducible apply NoBad.then) | (with_reducible apply NoBad.inBlock) | (with_reducible exact NoBad.rets))); done) ?_)
    | fail)
  all_goals go_returns
  all_goals exact ⟨rfl, (by (repeat (first | (with_reducible exact Upd.refl _ _) | (with_reducible assumption) | (with_reducible apply Upd.drew) | (with_reducible apply Upd.alloc) | (refine Upd0.tr ?_ (by with_reducible assumption)) | (refine Upd.setCell ?_ (fun h => absurd h (by first | exact Nat.lt_irrefl _ | (simp only []; omega))) _))); done)⟩
set_option maxRecDepth 100000 in
theorem back_011 (a1 a2 : Bs) (a3 a4 a5 a6 a7 : Int) (n d : Bs) (x1 x2 : Bs) (x3 x4 x5 x6 x7 : Int) (B N : Bs) (h1 : (decide (a1.length ≤ 5000) && decide (a2.length ≤ 5000)) = true) (h2 : (decide (n.length ≤ 5000) && decide (d.length ≤ 5000)) = true)
    (C1 : ∀ w, Calls Try.prog 31 #[.agg #[.string ⟨a1.toArray⟩, .string ⟨a2.toArray⟩, .int .i64 a3, .int .i64 a4, .int .i64 a5, .int .i64 a6, .int .i64 a7]] w (Rets fun r w' => r = .tuple #[.string ⟨B.toArray⟩, .int .i64 1] ∧ Upd0 w w'))
    (C3 : ∀ w, Calls Try.prog 35 #[.string ⟨n.toArray⟩] w (Rets fun r w' => r = .tuple #[.string ⟨N.toArray⟩, .int .i64 0] ∧ Upd0 w w'))
    (C4 : ∀ w, Calls Try.prog 37 #[.int .i64 2, .string ⟨N.toArray⟩] w (Rets fun r w' => r = .tuple #[.string ⟨n.toArray⟩, .int .i64 0] ∧ Upd0 w w'))
    (C5 : ∀ w, Calls Try.prog 33 #[.string ⟨d.toArray⟩] w (Rets fun r w' => r = .tuple #[.agg #[.string ⟨x1.toArray⟩, .string ⟨x2.toArray⟩, .int .i64 x3, .int .i64 x4, .int .i64 x5, .int .i64 x6, .int .i64 x7], .int .i64 0] ∧ Upd0 w w'))
    (C6 : ∀ w, Calls Try.prog 31 #[.agg #[.string ⟨x1.toArray⟩, .string ⟨x2.toArray⟩, .int .i64 x3, .int .i64 x4, .int .i64 x5, .int .i64 x6, .int .i64 x7]] w (Rets fun r w' => r = .tuple #[.string ⟨d.toArray⟩, .int .i64 0] ∧ Upd0 w w'))
    (w : World) : Calls Try.prog 11 #[.agg #[.string ⟨a1.toArray⟩, .string ⟨a2.toArray⟩, .int .i64 a3, .int .i64 a4, .int .i64 a5, .int .i64 a6, .int .i64 a7], .string ⟨n.toArray⟩, .string ⟨d.toArray⟩] w (Rets fun r w' => r = .bool true ∧ Upd0 w w') := by
  have hh1 := Lib.hid h1
  have hh2 := Lib.hid h2
  have tok1 : True := trivial
  have tok2 : True := trivial
  have tok3 : True := trivial
  clear h1 h2
  have C1' := Lib.hid C1
  clear C1
  have C3' := Lib.hid C3
  clear C3
  have C4' := Lib.hid C4
  clear C4
  have C5' := Lib.hid C5
  clear C5
  have C6' := Lib.hid C6
  clear C6
  go_enter Try.func11, Try.ntmps11
  go_wp2_with (first
    | (go_at_call 27; have _t := tok1; (with_reducible refine (short_w a1 a2 _).use ?_); rintro v w1 ⟨rfl, hu1⟩; rw [hh1.out]; have z1 := Lib.hid (hu1.block (fun h => h) (alloc_last _ _ w.heap.size rfl)); obtain ⟨e0, e1, e2, e3, e4, e5, e6, e7⟩ := seven z1.out; clear tok1 _t)
    | (go_at_call 27; (with_reducible refine (short_w n d _).use ?_); rintro v w2 ⟨rfl, hu2⟩; rw [hh2.out]; have z2 := Lib.hid (hu2.block (fun h => h) z1.out); obtain ⟨f0, f1, f2, f3, f4, f5, f6, f7⟩ := seven z2.out)
    | (go_at_call 31; have _t := tok2; (with_reducible refine (C1'.out _).use ?_); rintro v w3 ⟨rfl, hu3⟩; have z3 := Lib.hid (hu3.block (fun h => h) z2.out); obtain ⟨g0, g1, g2, g3, g4, g5, g6, g7⟩ := seven z3.out; clear tok2 _t)
    | (go_at_call 35; (with_reducible refine (C3'.out _).use ?_); rintro v w5 ⟨rfl, hu5⟩)
    | (go_at_call 37; (with_reducible refine (C4'.out _).use ?_); rintro v w6 ⟨rfl, hu6⟩)
    | (go_at_call 33; (with_reducible refine (C5'.out _).use ?_); rintro v w7 ⟨rfl, hu7⟩)
    | (go_at_call 31; (with_reducible refine (C6'.out _).use ?_); rintro v w8 ⟨rfl, hu8⟩)
    | (go_at_call 28; (with_reducible refine (live_w _).use ?_); rintro v w9 ⟨rfl, hu9⟩)
    | (with_reducible refine wp_serial (by kernel_rfl) (by kernel_rfl) (by (repeat (first | (with_reducible apply NoBad.then) | (with_reducible apply NoBad.inBlock) | (with_reducible exact NoBad.rets))); done) ?_)
    | fail)
  all_goals go_returns
  all_goals exact ⟨rfl, (by (repeat (first | (with_reducible exact Upd.refl _ _) | (with_reducible assumption) | (with_reducible apply Upd.drew) | (with_reducible apply Upd.alloc) | (refine Upd0.tr ?_ (by with_reducible assumption)) | (refine Upd.setCell ?_ (fun h => absurd h (by first | exact Nat.lt_irrefl _ | (simp only []; omega))) _))); done)⟩
set_option maxRecDepth 100000 in
theorem back_100 (a1 a2 : Bs) (a3 a4 a5 a6 a7 : Int) (n d : Bs) (x1 x2 : Bs) (x3 x4 x5 x6 x7 : Int) (B N : Bs) (h1 : (decide (a1.length ≤ 5000) && decide (a2.length ≤ 5000)) = true) (h2 : (decide (n.length ≤ 5000) && decide (d.length ≤ 5000)) = true)
    (C1 : ∀ w, Calls Try.prog 31 #[.agg #[.string ⟨a1.toArray⟩, .string ⟨a2.toArray⟩, .int .i64 a3, .int .i64 a4, .int .i64 a5, .int .i64 a6, .int .i64 a7]] w (Rets fun r w' => r = .tuple #[.string ⟨B.toArray⟩, .int .i64 0] ∧ Upd0 w w'))
    (C2 : ∀ w, Calls Try.prog 33 #[.string ⟨B.toArray⟩] w (Rets fun r w' => r = .tuple #[.agg #[.string ⟨a1.toArray⟩, .string ⟨a2.toArray⟩, .int .i64 a3, .int .i64 a4, .int .i64 a5, .int .i64 a6, .int .i64 a7], .int .i64 0] ∧ Upd0 w w'))
    (C3 : ∀ w, Calls Try.prog 35 #[.string ⟨n.toArray⟩] w (Rets fun r w' => r = .tuple #[.string ⟨N.toArray⟩, .int .i64 1] ∧ Upd0 w w'))
    (C5 : ∀ w, Calls Try.prog 33 #[.string ⟨d.toArray⟩] w (Rets fun r w' => r = .tuple #[.agg #[.string ⟨x1.toArray⟩, .string ⟨x2.toArray⟩, .int .i64 x3, .int .i64 x4, .int .i64 x5, .int .i64 x6, .int .i64 x7], .int .i64 2] ∧ Upd0 w w'))
    (w : World) : Calls Try.prog 11 #[.agg #[.string ⟨a1.toArray⟩, .string ⟨a2.toArray⟩, .int .i64 a3, .int .i64 a4, .int .i64 a5, .int .i64 a6, .int .i64 a7], .string ⟨n.toArray⟩, .string ⟨d.toArray⟩] w (Rets fun r w' => r = .bool true ∧ Upd0 w w') := by
  have hh1 := Lib.hid h1
  have hh2 := Lib.hid h2
  have tok1 : True := trivial
  have tok2 : True := trivial
  have tok3 : True := trivial
  clear h1 h2
  have C1' := Lib.hid C1
  clear C1
  have C2' := Lib.hid C2
  clear C2
  have C3' := Lib.hid C3
  clear C3
  have C5' := Lib.hid C5
  clear C5
  go_enter Try.func11, Try.ntmps11
  go_wp2_with (first
    | (go_at_call 27; have _t := tok1; (with_reducible refine (short_w a1 a2 _).use ?_); rintro v w1 ⟨rfl, hu1⟩; rw [hh1.out]; have z1 := Lib.hid (hu1.block (fun h => h) (alloc_last _ _ w.heap.size rfl)); obtain ⟨e0, e1, e2, e3, e4, e5, e6, e7⟩ := seven z1.out; clear tok1 _t)
    | (go_at_call 27; (with_reducible refine (short_w n d _).use ?_); rintro v w2 ⟨rfl, hu2⟩; rw [hh2.out]; have z2 := Lib.hid (hu2.block (fun h => h) z1.out); obtain ⟨f0, f1, f2, f3, f4, f5, f6, f7⟩ := seven z2.out)
    | (go_at_call 31; have _t := tok2; (with_reducible refine (C1'.out _).use ?_); rintro v w3 ⟨rfl, hu3⟩; have z3 := Lib.hid (hu3.block (fun h => h) z2.out); obtain ⟨g0, g1, g2, g3, g4, g5, g6, g7⟩ := seven z3.out; clear tok2 _t)
    | (go_at_call 33; have _t := tok3; (with_reducible refine (C2'.out _).use ?_); rintro v w4 ⟨rfl, hu4⟩; have z4 := Lib.hid (hu4.block (fun h => h) z3.out); obtain ⟨k0, k1, k2, k3, k4, k5, k6, k7⟩ := seven z4.out; have ja : w.heap.size < w4.heap.size := blk_lt z4.out; have jb : ¬ w.heap.size = w4.heap.size := (by omega); have jc : ¬ w4.heap.size = w.heap.size := (by omega); clear tok3 _t)
    | (go_at_call 35; (with_reducible refine (C3'.out _).use ?_); rintro v w5 ⟨rfl, hu5⟩)
    | (go_at_call 33; (with_reducible refine (C5'.out _).use ?_); rintro v w7 ⟨rfl, hu7⟩)
    | (go_at_call 28; (with_reducible refine (live_w _).use ?_); rintro v w9 ⟨rfl, hu9⟩)
    | (with_reducible refine wp_serial (by kernel_rfl) (by kernel_rfl) (by (repeat (first | (with_reducible apply NoBad.then) | (with_reducible apply NoBad.inBlock) | (with_reducible exact NoBad.rets))); done) ?_)
    | fail)
  all_goals go_returns
  all_goals exact ⟨rfl, (by (repeat (first | (with_reducible exact Upd.refl _ _) | (with_reducible assumption) | (with_reducible apply Upd.drew) | (with_reducible apply Upd.alloc) | (refine Upd0.tr ?_ (by with_reducible assumption)) | (refine Upd.setCell ?_ (fun h => absurd h (by first | exact Nat.lt_irrefl _ | (simp only []; omega))) _))); done)⟩
set_option maxRecDepth 100000 in
theorem back_101 (a1 a2 : Bs) (a3 a4 a5 a6 a7 : Int) (n d : Bs) (x1 x2 : Bs) (x3 x4 x5 x6 x7 : Int) (B N : Bs) (h1 : (decide (a1.length ≤ 5000) && decide (a2.length ≤ 5000)) = true) (h2 : (decide (n.length ≤ 5000) && decide (d.length ≤ 5000)) = true)
    (C1 : ∀ w, Calls Try.prog 31 #[.agg #[.string ⟨a1.toArray⟩, .string ⟨a2.toArray⟩, .int .i64 a3, .int .i64 a4, .int .i64 a5, .int .i64 a6, .int .i64 a7]] w (Rets fun r w' => r = .tuple #[.string ⟨B.toArray⟩, .int .i64 0] ∧ Upd0 w w'))
    (C2 : ∀ w, Calls Try.prog 33 #[.string ⟨B.toArray⟩] w (Rets fun r w' => r = .tuple #[.agg #[.string ⟨a1.toArray⟩, .string ⟨a2.toArray⟩, .int .i64 a3, .int .i64 a4, .int .i64 a5, .int .i64 a6, .int .i64 a7], .int .i64 0] ∧ Upd0 w w'))
    (C3 : ∀ w, Calls Try.prog 35 #[.string ⟨n.toArray⟩] w (Rets fun r w' => r = .tuple #[.string ⟨N.toArray⟩, .int .i64 1] ∧ Upd0 w w'))
    (C5 : ∀ w, Calls Try.prog 33 #[.string ⟨d.toArray⟩] w (Rets fun r w' => r = .tuple #[.agg #[.string ⟨x1.toArray⟩, .string ⟨x2.toArray⟩, .int .i64 x3, .int .i64 x4, .int .i64 x5, .int .i64 x6, .int .i64 x7], .int .i64 0] ∧ Upd0 w w'))
    (C6 : ∀ w, Calls Try.prog 31 #[.agg #[.string ⟨x1.toArray⟩, .string ⟨x2.toArray⟩, .int .i64 x3, .int .i64 x4, .int .i64 x5, .int .i64 x6, .int .i64 x7]] w (Rets fun r w' => r = .tuple #[.string ⟨d.toArray⟩, .int .i64 0] ∧ Upd0 w w'))
    (w : World) : Calls Try.prog 11 #[.agg #[.string ⟨a1.toArray⟩, .string ⟨a2.toArray⟩, .int .i64 a3, .int .i64 a4, .int .i64 a5, .int .i64 a6, .int .i64 a7], .string ⟨n.toArray⟩, .string ⟨d.toArray⟩] w (Rets fun r w' => r = .bool true ∧ Upd0 w w') := by
  have hh1 := Lib.hid h1
  have hh2 := Lib.hid h2
  have tok1 : True := trivial
  have tok2 : True := trivial
  have tok3 : True := trivial
  clear h1 h2
  have C1' := Lib.hid C1
  clear C1
  have C2' := Lib.hid C2
  clear C2
  have C3' := Lib.hid C3
  clear C3
  have C5' := Lib.hid C5
  clear C5
  have C6' := Lib.hid C6
  clear C6
  go_enter Try.func11, Try.ntmps11
  go_wp2_with (first
    | (go_at_call 27; have _t := tok1; (with_reducible refine (short_w a1 a2 _).use ?_); rintro v w1 ⟨rfl, hu1⟩; rw [hh1.out]; have z1 := Lib.hid (hu1.block (fun h => h) (alloc_last _ _ w.heap.size rfl)); obtain ⟨e0, e1, e2, e3, e4, e5, e6, e7⟩ := seven z1.out; clear tok1 _t)
    | (go_at_call 27; (with_reducible refine (short_w n d _).use ?_); rintro v w2 ⟨rfl, hu2⟩; rw [hh2.out]; have z2 := Lib.hid (hu2.block (fun h => h) z1.out); obtain ⟨f0, f1, f2, f3, f4, f5, f6, f7⟩ := seven z2.out)
    | (go_at_call 31; have _t := tok2; (with_reducible refine (C1'.out _).use ?_); rintro v w3 ⟨rfl, hu3⟩; have z3 := Lib.hid (hu3.block (fun h => h) z2.out); obtain ⟨g0, g1, g2, g3, g4, g5, g6, g7⟩ := seven z3.out; clear tok2 _t)
    | (go_at_call 33; have _t := tok3; (with_reducible refine (C2'.out _).use ?_); rintro v w4 ⟨rfl, hu4⟩; have z4 := Lib.hid (hu4.block (fun h => h) z3.out); obtain ⟨k0, k1, k2, k3, k4, k5, k6, k7⟩ := seven z4.out; have ja : w.heap.size < w4.heap.size := blk_lt z4.out; have jb : ¬ w.heap.size = w4.heap.size := (by omega); have jc : ¬ w4.heap.size = w.heap.size := (by omega); clear tok3 _t)
    | (go_at_call 35; (with_reducible refine (C3'.out _).use ?_); rintro v w5 ⟨rfl, hu5⟩)
    | (go_at_call 33; (with_reducible refine (C5'.out _).use ?_); rintro v w7 ⟨rfl, hu7⟩)
    | (go_at_call 31; (with_reducible refine (C6'.out _).use ?_); rintro v w8 ⟨rfl, hu8⟩)
    | (go_at_call 28; (with_reducible refine (live_w _).use ?_); rintro v w9 ⟨rfl, hu9⟩)
    | (with_reducible refine wp_serial (by kernel_rfl) (by kernel_rfl) (by (repeat (first | (with_reducible apply NoBad.then) | (with_reducible apply NoBad.inBlock) | (with_reducible exact NoBad.rets))); done) ?_)
    | fail)
  all_goals go_returns
  all_goals exact ⟨rfl, (by (repeat (first | (with_reducible exact Upd.refl _ _) | (with_reducible assumption) | (with_reducible apply Upd.drew) | (with_reducible apply Upd.alloc) | (refine Upd0.tr ?_ (by with_reducible assumption)) | (refine Upd.setCell ?_ (fun h => absurd h (by first | exact Nat.lt_irrefl _ | (simp only []; omega))) _))); done)⟩
set_option maxRecDepth 100000 in
theorem back_110 (a1 a2 : Bs) (a3 a4 a5 a6 a7 : Int) (n d : Bs) (x1 x2 : Bs) (x3 x4 x5 x6 x7 : Int) (B N : Bs) (h1 : (decide (a1.length ≤ 5000) && decide (a2.length ≤ 5000)) = true) (h2 : (decide (n.length ≤ 5000) && decide (d.length ≤ 5000)) = true)
    (C1 : ∀ w, Calls Try.prog 31 #[.agg #[.string ⟨a1.toArray⟩, .string ⟨a2.toArray⟩, .int .i64 a3, .int .i64 a4, .int .i64 a5, .int .i64 a6, .int .i64 a7]] w (Rets fun r w' => r = .tuple #[.string ⟨B.toArray⟩, .int .i64 0] ∧ Upd0 w w'))
    (C2 : ∀ w, Calls Try.prog 33 #[.string ⟨B.toArray⟩] w (Rets fun r w' => r = .tuple #[.agg #[.string ⟨a1.toArray⟩, .string ⟨a2.toArray⟩, .int .i64 a3, .int .i64 a4, .int .i64 a5, .int .i64 a6, .int .i64 a7], .int .i64 0] ∧ Upd0 w w'))
    (C3 : ∀ w, Calls Try.prog 35 #[.string ⟨n.toArray⟩] w (Rets fun r w' => r = .tuple #[.string ⟨N.toArray⟩, .int .i64 0] ∧ Upd0 w w'))
    (C4 : ∀ w, Calls Try.prog 37 #[.int .i64 2, .string ⟨N.toArray⟩] w (Rets fun r w' => r = .tuple #[.string ⟨n.toArray⟩, .int .i64 0] ∧ Upd0 w w'))
    (C5 : ∀ w, Calls Try.prog 33 #[.string ⟨d.toArray⟩] w (Rets fun r w' => r = .tuple #[.agg #[.string ⟨x1.toArray⟩, .string ⟨x2.toArray⟩, .int .i64 x3, .int .i64 x4, .int .i64 x5, .int .i64 x6, .int .i64 x7], .int .i64 2] ∧ Upd0 w w'))
    (w : World) : Calls Try.prog 11 #[.agg #[.string ⟨a1.toArray⟩, .string ⟨a2.toArray⟩, .int .i64 a3, .int .i64 a4, .int .i64 a5, .int .i64 a6, .int .i64 a7], .string ⟨n.toArray⟩, .string ⟨d.toArray⟩] w (Rets fun r w' => r = .bool true ∧ Upd0 w w') := by
  have hh1 := Lib.hid h1
  have hh2 := Lib.hid h2
  have tok1 : True := trivial
  have tok2 : True := trivial
  have tok3 : True := trivial
  clear h1 h2
  have C1' := Lib.hid C1
  clear C1
  have C2' := Lib.hid C2
  clear C2
  have C3' := Lib.hid C3
  clear C3
  have C4' := Lib.hid C4
  clear C4
  have C5' := Lib.hid C5
  clear C5
  go_enter Try.func11, Try.ntmps11
  go_wp2_with (first
    | (go_at_call 27; have _t := tok1; (with_reducible refine (short_w a1 a2 _).use ?_); rintro v w1 ⟨rfl, hu1⟩; rw [hh1.out]; have z1 := Lib.hid (hu1.block (fun h => h) (alloc_last _ _ w.heap.size rfl)); obtain ⟨e0, e1, e2, e3, e4, e5, e6, e7⟩ := seven z1.out; clear tok1 _t)
    | (go_at_call 27; (with_reducible refine (short_w n d _).use ?_); rintro v w2 ⟨rfl, hu2⟩; rw [hh2.out]; have z2 := Lib.hid (hu2.block (fun h => h) z1.out); obtain ⟨f0, f1, f2, f3, f4, f5, f6, f7⟩ := seven z2.out)
    | (go_at_call 31; have _t := tok2; (with_reducible refine (C1'.out _).use ?_); rintro v w3 ⟨rfl, hu3⟩; have z3 := Lib.hid (hu3.block (fun h => h) z2.out); obtain ⟨g0, g1, g2, g3, g4, g5, g6, g7⟩ := seven z3.out; clear tok2 _t)
    | (go_at_call 33; have _t := tok3; (with_reducible refine (C2'.out _).use ?_); rintro v w4 ⟨rfl, hu4⟩; have z4 := Lib.hid (hu4.block (fun h => h) z3.out); obtain ⟨k0, k1, k2, k3, k4, k5, k6, k7⟩ := seven z4.out; have ja : w.heap.size < w4.heap.size := blk_lt z4.out; have jb : ¬ w.heap.size = w4.heap.size := (by omega); have jc : ¬ w4.heap.size = w.heap.size := (by omega); clear tok3 _t)
    | (go_at_call 35; (with_reducible refine (C3'.out _).use ?_); rintro v w5 ⟨rfl, hu5⟩)
    | (go_at_call 37; (with_reducible refine (C4'.out _).use ?_); rintro v w6 ⟨rfl, hu6⟩)
    | (go_at_call 33; (with_reducible refine (C5'.out _).use ?_); rintro v w7 ⟨rfl, hu7⟩)
    | (go_at_call 28; (with_reducible refine (live_w _).use ?_); rintro v w9 ⟨rfl, hu9⟩)
    | (with_reducible refine wp_serial (by kernel_rfl) (by kernel_rfl) (by (repeat (first | (with_reducible apply NoBad.then) | (with_reducible apply NoBad.inBlock) | (with_reducible exact NoBad.rets))); done) ?_)
    | fail)
  all_goals go_returns
  all_goals exact ⟨rfl, (by (repeat (first | (with_reducible exact Upd.refl _ _) | (with_reducible assumption) | (with_reducible apply Upd.drew) | (with_reducible apply Upd.alloc) | (refine Upd0.tr ?_ (by with_reducible assumption)) | (refine Upd.setCell ?_ (fun h => absurd h (by first | exact Nat.lt_irrefl _ | (simp only []; omega))) _))); done)⟩
set_option maxRecDepth 100000 in
theorem back_111 (a1 a2 : Bs) (a3 a4 a5 a6 a7 : Int) (n d : Bs) (x1 x2 : Bs) (x3 x4 x5 x6 x7 : Int) (B N : Bs) (h1 : (decide (a1.length ≤ 5000) && decide (a2.length ≤ 5000)) = true) (h2 : (decide (n.length ≤ 5000) && decide (d.length ≤ 5000)) = true)
    (C1 : ∀ w, Calls Try.prog 31 #[.agg #[.string ⟨a1.toArray⟩, .string ⟨a2.toArray⟩, .int .i64 a3, .int .i64 a4, .int .i64 a5, .int .i64 a6, .int .i64 a7]] w (Rets fun r w' => r = .tuple #[.string ⟨B.toArray⟩, .int .i64 0] ∧ Upd0 w w'))
    (C2 : ∀ w, Calls Try.prog 33 #[.string ⟨B.toArray⟩] w (Rets fun r w' => r = .tuple #[.agg #[.string ⟨a1.toArray⟩, .string ⟨a2.toArray⟩, .int .i64 a3, .int .i64 a4, .int .i64 a5, .int .i64 a6, .int .i64 a7], .int .i64 0] ∧ Upd0 w w'))
    (C3 : ∀ w, Calls Try.prog 35 #[.string ⟨n.toArray⟩] w (Rets fun r w' => r = .tuple #[.string ⟨N.toArray⟩, .int .i64 0] ∧ Upd0 w w'))
    (C4 : ∀ w, Calls Try.prog 37 #[.int .i64 2, .string ⟨N.toArray⟩] w (Rets fun r w' => r = .tuple #[.string ⟨n.toArray⟩, .int .i64 0] ∧ Upd0 w w'))
    (C5 : ∀ w, Calls Try.prog 33 #[.string ⟨d.toArray⟩] w (Rets fun r w' => r = .tuple #[.agg #[.string ⟨x1.toArray⟩, .string ⟨x2.toArray⟩, .int .i64 x3, .int .i64 x4, .int .i64 x5, .int .i64 x6, .int .i64 x7], .int .i64 0] ∧ Upd0 w w'))
    (C6 : ∀ w, Calls Try.prog 31 #[.agg #[.string ⟨x1.toArray⟩, .string ⟨x2.toArray⟩, .int .i64 x3, .int .i64 x4, .int .i64 x5, .int .i64 x6, .int .i64 x7]] w (Rets fun r w' => r = .tuple #[.string ⟨d.toArray⟩, .int .i64 0] ∧ Upd0 w w'))
    (w : World) : Calls Try.prog 11 #[.agg #[.string ⟨a1.toArray⟩, .string ⟨a2.toArray⟩, .int .i64 a3, .int .i64 a4, .int .i64 a5, .int .i64 a6, .int .i64 a7], .string ⟨n.toArray⟩, .string ⟨d.toArray⟩] w (Rets fun r w' => r = .bool true ∧ Upd0 w w') := by
  have hh1 := Lib.hid h1
  have hh2 := Lib.hid h2
  have tok1 : True := trivial
  have tok2 : True := trivial
  have tok3 : True := trivial
  clear h1 h2
  have C1' := Lib.hid C1
  clear C1
  have C2' := Lib.hid C2
  clear C2
  have C3' := Lib.hid C3
  clear C3
  have C4' := Lib.hid C4
  clear C4
  have C5' := Lib.hid C5
  clear C5
  have C6' := Lib.hid C6
  clear C6
  go_enter Try.func11, Try.ntmps11
  go_wp2_with (first
    | (go_at_call 27; have _t := tok1; (with_reducible refine (short_w a1 a2 _).use ?_); rintro v w1 ⟨rfl, hu1⟩; rw [hh1.out]; have z1 := Lib.hid (hu1.block (fun h => h) (alloc_last _ _ w.heap.size rfl)); obtain ⟨e0, e1, e2, e3, e4, e5, e6, e7⟩ := seven z1.out; clear tok1 _t)
    | (go_at_call 27; (with_reducible refine (short_w n d _).use ?_); rintro v w2 ⟨rfl, hu2⟩; rw [hh2.out]; have z2 := Lib.hid (hu2.block (fun h => h) z1.out); obtain ⟨f0, f1, f2, f3, f4, f5, f6, f7⟩ := seven z2.out)
    | (go_at_call 31; have _t := tok2; (with_reducible refine (C1'.out _).use ?_); rintro v w3 ⟨rfl, hu3⟩; have z3 := Lib.hid (hu3.block (fun h => h) z2.out); obtain ⟨g0, g1, g2, g3, g4, g5, g6, g7⟩ := seven z3.out; clear tok2 _t)
    | (go_at_call 33; have _t := tok3; (with_reducible refine (C2'.out _).use ?_); rintro v w4 ⟨rfl, hu4⟩; have z4 := Lib.hid (hu4.block (fun h => h) z3.out); obtain ⟨k0, k1, k2, k3, k4, k5, k6, k7⟩ := seven z4.out; have ja : w.heap.size < w4.heap.size := blk_lt z4.out; have jb : ¬ w.heap.size = w4.heap.size := (by omega); have jc : ¬ w4.heap.size = w.heap.size := (by omega); clear tok3 _t)
    | (go_at_call 35; (with_reducible refine (C3'.out _).use ?_); rintro v w5 ⟨rfl, hu5⟩)
    | (go_at_call 37; (with_reducible refine (C4'.out _).use ?_); rintro v w6 ⟨rfl, hu6⟩)
    | (go_at_call 33; (with_reducible refine (C5'.out _).use ?_); rintro v w7 ⟨rfl, hu7⟩)
    | (go_at_call 31; (with_reducible refine (C6'.out _).use ?_); rintro v w8 ⟨rfl, hu8⟩)
    | (go_at_call 28; (with_reducible refine (live_w _).use ?_); rintro v w9 ⟨rfl, hu9⟩)
    | (with_reducible refine wp_serial (by kernel_rfl) (by kernel_rfl) (by (repeat (first | (with_reducible apply NoBad.then) | (with_reducible apply NoBad.inBlock) | (with_reducible exact NoBad.rets))); done) ?_)
    | fail)
  all_goals go_returns
  all_goals exact ⟨rfl, (by (repeat (first | (with_reducible exact Upd.refl _ _) | (with_reducible assumption) | (with_reducible apply Upd.drew) | (with_reducible apply Upd.alloc) | (refine Upd0.tr ?_ (by with_reducible assumption)) | (refine Upd.setCell ?_ (fun h => absurd h (by first | exact Nat.lt_irrefl _ | (simp only []; omega))) _))); done)⟩
theorem back_ps {s : So} (h : s.ok = true) : ∀ w, Calls Try.prog 33 #[.string ⟨s.bytes.toArray⟩] w (Rets fun r w' => r = .tuple #[s.val, .int .i64 0] ∧ Upd0 w w') := by
  have := parseSoa_w s.bytes (by
    obtain ⟨h1, h2, _⟩ := so_parts h
    have := cutB_len h1; have := cutB_len h2
    rw [so_bytes h]; simp only [List.length_append, List.length_cons, w4_len]; omega)
  rw [(psV_read h).1, (psV_read h).2] at this
  exact this
theorem back_ph {n : Bs} (h : cutB n = true) : ∀ w, Calls Try.prog 37 #[.int .i64 2, .string ⟨(hostS n).toArray⟩] w (Rets fun r w' => r = .tuple #[.string ⟨n.toArray⟩, .int .i64 0] ∧ Upd0 w w') := by
  have hl := cutB_len h
  have := parseHost_w 2 (hostS n) (by rw [(hostS_yes h).1]; simp; omega)
  have e := ph_read h 2 [] rfl
  rw [List.nil_append, ← (hostS_yes h).1] at e
  rw [e.1, e.2] at this
  exact this
theorem back_so {d : Bs} (h : psB d = true) (hd : d.length ≤ 70000) : ∀ w, Calls Try.prog 31 #[(psV d).val] w (Rets fun r w' => r = .tuple #[.string ⟨d.toArray⟩, .int .i64 0] ∧ Upd0 w w') := by
  have e : psV d = psS d := by rw [psV, h]; rfl
  rw [e]
  obtain ⟨h1, h2⟩ := so_write h
  have hl : (psS d).main.length ≤ d.length ∧ (psS d).mail.length ≤ d.length := ⟨(fir_len d).2, Nat.le_trans (fir_len (firR d)).2 (fir_len d).1⟩
  have := soa_w (psS d) (by omega) (by omega)
  rw [h2, show (psS d).code = 0 by rw [So.code, h1]; rfl] at this
  exact this
theorem rdataBack_walk (s : So) (n d : Bs) (w : World) : Calls Try.prog 11 #[s.val, .string ⟨n.toArray⟩, .string ⟨d.toArray⟩] w (Rets fun r w' => r = .bool true ∧ Upd0 w w') := by
  by_cases hs : (s.main.length ≤ 5000 ∧ s.mail.length ≤ 5000) ∧ (n.length ≤ 5000 ∧ d.length ≤ 5000)
  rotate_left
  · exact back_long s.main s.mail s.se s.re s.rt s.ex s.mi n d hs w
  have h1 : (decide (s.main.length ≤ 5000) && decide (s.mail.length ≤ 5000)) = true := by simp only [Bool.and_eq_true, decide_eq_true_eq]; exact hs.1
  have h2 : (decide (n.length ≤ 5000) && decide (d.length ≤ 5000)) = true := by simp only [Bool.and_eq_true, decide_eq_true_eq]; exact hs.2
  have C1 := soa_w s (by omega) (by omega)
  have C3 := host_w n (by omega)
  have C5 := parseSoa_w d (by omega)
  cases hok : s.ok <;> cases hn : cutB n <;> cases hp : psB d
  all_goals
    first
      | (have e1 : s.code = 0 := by rw [So.code, hok]; rfl)
      | (have e1 : s.code = 1 := by rw [So.code, hok]; rfl)
    rw [e1] at C1
    first
      | (have e3 : checkC n = 0 := by rw [checkC, hn]; rfl)
      | (have e3 : checkC n = 1 := by rw [checkC, hn]; rfl)
    rw [e3] at C3
    first
      | (have e5 : psC d = 0 := by rw [psC, hp]; rfl)
      | (have e5 : psC d = 2 := by rw [psC, hp]; rfl)
    rw [e5] at C5
  · exact back_000 s.main s.mail s.se s.re s.rt s.ex s.mi n d (psV d).main (psV d).mail (psV d).se (psV d).re (psV d).rt (psV d).ex (psV d).mi s.bytes (hostS n) h1 h2 C1 C3 C5 w
  · exact back_001 s.main s.mail s.se s.re s.rt s.ex s.mi n d (psV d).main (psV d).mail (psV d).se (psV d).re (psV d).rt (psV d).ex (psV d).mi s.bytes (hostS n) h1 h2 C1 C3 C5 (back_so hp (by omega)) w
  · exact back_010 s.main s.mail s.se s.re s.rt s.ex s.mi n d (psV d).main (psV d).mail (psV d).se (psV d).re (psV d).rt (psV d).ex (psV d).mi s.bytes (hostS n) h1 h2 C1 C3 (back_ph hn) C5 w
  · exact back_011 s.main s.mail s.se s.re s.rt s.ex s.mi n d (psV d).main (psV d).mail (psV d).se (psV d).re (psV d).rt (psV d).ex (psV d).mi s.bytes (hostS n) h1 h2 C1 C3 (back_ph hn) C5 (back_so hp (by omega)) w
  · exact back_100 s.main s.mail s.se s.re s.rt s.ex s.mi n d (psV d).main (psV d).mail (psV d).se (psV d).re (psV d).rt (psV d).ex (psV d).mi s.bytes (hostS n) h1 h2 C1 (back_ps hok) C3 C5 w
  · exact back_101 s.main s.mail s.se s.re s.rt s.ex s.mi n d (psV d).main (psV d).mail (psV d).se (psV d).re (psV d).rt (psV d).ex (psV d).mi s.bytes (hostS n) h1 h2 C1 (back_ps hok) C3 C5 (back_so hp (by omega)) w
  · exact back_110 s.main s.mail s.se s.re s.rt s.ex s.mi n d (psV d).main (psV d).mail (psV d).se (psV d).re (psV d).rt (psV d).ex (psV d).mi s.bytes (hostS n) h1 h2 C1 (back_ps hok) C3 (back_ph hn) C5 w
  · exact back_111 s.main s.mail s.se s.re s.rt s.ex s.mi n d (psV d).main (psV d).mail (psV d).se (psV d).re (psV d).rt (psV d).ex (psV d).mi s.bytes (hostS n) h1 h2 C1 (back_ps hok) C3 (back_ph hn) C5 (back_so hp (by omega)) w
end Go.Proofs.Ytebnilkcpklnmaa
